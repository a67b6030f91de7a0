import Derived.Test.YtflolbnnkbdmfaaGreatMatC
set_option linter.all false
namespace Go.Proofs.YtflolbnnkbdmfaaGreat
open Go.RowKit
set_option maxHeartbeats 8000000
set_option maxRecDepth 100000
theorem infoN:(Tryz.prog.info? 40).map (fun i=>(i.zero,i.size,i.bytes))=some (some zeroN,2,32):=aK
theorem NumAt.form {w:World} {s:Bool} {v:Value} {z:Int} (h:NumAt w (.agg #[.bool s,v]) z):∃ A n c,v = .slice A n c/\s=decide (z<0):=by
 obtain ⟨A,n,c,e,_⟩:=h;injection e with e
 simp at e;exact ⟨A,n,c,e.2,e.1⟩
theorem matrix_combine {w:World} {A1 A2:Option Addr} {n j:Nat} {Z1 Z2:List Int} {v:Value} {zb:Int} {X1 X2:Nat->Prop} (c1 c2:Nat) (h1:NumsX X1 w A1 n Z1) (h2:NumsX X2 w A2 n Z2) (h3:NumAt w v zb) (h0:zb≠0) (hj:j<n) (hn:n<=1000) (m1:∀ i,i<n->Sm (zAt Z1 i)) (m2:∀ i,i<n->Sm (zAt Z2 i)) :
 Calls Tryz.prog 220 #[.slice A1 n c1,.slice A2 n c2,.int .i64 j,v] w fun r w'=>(∃ x,r = .returned x/\RowV (fun b=>w.heap.size<=b) x (combZ Z1 Z2 j zb n) w')/\Below w.heap.size w w':=by
 obtain ⟨i0,hi,hz0,hz1,hz2⟩:=info_parts infoN;have M1:=Zh m1;have M2:=Zh m2;have H1:=Zh h1;have H2:=Zh h2;have G3:=Zh h3;have Z0:=Zh h0;obtain ⟨A3,n3,c3,rfl,hc3,hm3,hl3,d3⟩:=h3;obtain ⟨s3,hs3⟩:=Zx (decide (zb<0));rw [hs3] at G3 ⊢;clear m1 m2 h1 h2 h0 d3 hs3;have hjn:(j:Int)<(n:Int):=aO
 go_enter Tryz.func220,Tryz.ntmps220;have hW:=(Zb w.heap.size w).alloc (Zr _) (.cells #[.bool s3,.slice A3 n3 c3] 40);have o7:Own (w.alloc (.cells #[.bool s3,.slice A3 n3 c3] 40)) w.heap.size #[.bool s3,.slice A3 n3 c3]:=aOwn;have hsz:(w.alloc (.cells #[.bool s3,.slice A3 n3 c3] 40)).heap.size=w.heap.size+1:=aS
 go_wp2;generalize (w.alloc (.cells #[.bool s3,.slice A3 n3 c3] 40))=W0 at *;go_loopw [10,16] (fun v i wr=>∃ (k:Nat) (xs:List Value),k<=n/\i = .int .i64 k/\Below w.heap.size w wr/\w.heap.size+1<=wr.heap.size/\Own wr w.heap.size #[.bool s3,.slice A3 n3 c3]/\wr.ownsRow (w.heap.size+1) 40 2 v k xs/\RowC (fun b=>w.heap.size<=b/\some b≠v.ownBlock) wr xs (combZ Z1 Z2 j zb k)) (fun _ i _=>n - (intOf i).toNat)
 case atStart=>exact ⟨0,[],aO,rfl,hW,aO,o7,⟨rfl,.inl ⟨rfl,rfl⟩⟩,trivial⟩
 case round =>
  obtain ⟨k,xs,hk,rfl,hbel,hsz1,o7,hown,hrow⟩:=hrel;have HO:=Zh hown;have HC:=Zh hrow;have OL:Hid (∀ b,u10.ownBlock=some b->b<wr.heap.size):=Zh (fun b hb=>ownBlock_lt hown hb);clear hown hrow hsz hW
  by_cases hlt:k<n
  ·have hlt2:(k:Int)<(n:Int):=aO
   have hkb:=hbel.size;obtain ⟨b2,off2,hA2,hb2,-,q2⟩:=(H2.out.below hbel).row aO;obtain ⟨b1,off1,hA1,hb1,-,q1⟩:=(H1.out.below hbel).row aO;subst hA1 hA2;obtain ⟨sP,EP,lP,dP,p1,p2,-,NP⟩:=q2 j hj;obtain ⟨sQ,EQ,lQ,dQ,p3,p4,-,NQ⟩:=q1 k hlt;obtain ⟨sR,ER,lR,dR,p5,p6,-,NR⟩:=q1 j hj;obtain ⟨sS,ES,lS,dS,p7,p8,-,NS⟩:=q2 k hlt;have yP:=M2.out j hj;have yQ:=M1.out k hlt;have yR:=M1.out j hj;have yS:=M2.out k hlt;obtain ⟨zP,hzP⟩:=Zx (zAt Z2 j);obtain ⟨zQ,hzQ⟩:=Zx (zAt Z1 k);obtain ⟨zR,hzR⟩:=Zx (zAt Z1 j);obtain ⟨zS,hzS⟩:=Zx (zAt Z2 k);rw [hzP] at NP yP;rw [hzQ] at NQ yQ;rw [hzR] at NR yR;rw [hzS] at NS yS;obtain ⟨pq,hpq⟩:=Zx (zP*zQ);obtain ⟨rs,hrs⟩:=Zx (zR*zS);obtain ⟨df,hdf⟩:=Zx (pq - rs);have f1:=yP.mul yQ;have f2:=yR.mul yS;have f3:=yP.cross yQ yR yS;rw [hpq] at f1 f3;rw [hrs] at f2 f3;rw [hdf] at f3;have HF:=Zh (Zi f1 (Zi f2 f3));have HE:Hid (combZ Z1 Z2 j zb (k+1)=combZ Z1 Z2 j zb k++[df / zb]):=Zh (by rw [combZ,hzP,hzQ,hzR,hzS,hpq,hrs,hdf]);have HP:=Zh (Zi hpq (Zi hrs hdf));have KP:=Zh NP;have KQ:=Zh NQ;have KR:=Zh NR;have KS:=Zh NS;clear hzP hzQ hzR hzS hpq hrs hdf f1 f2 f3 NP NQ NR NS yP yQ yR yS q1 q2;go_wp2;refine region_gen (T:=[]) [.make 9 [] (valB _ pq),.make 19 [] (valB _ rs),.make 20 [9,19] (numB _ df),.need 21 [20],.need 23 [],.make 24 [] (ownB [] nz1 (fun p=>.pointer (some ⟨p,0,none⟩)))] 25 0 40 (fun _ _=>True) (fun _ _ _ _ _=>trivial) trivial aK aK (by rfl) ?_;have q_d1:=fun v=>later_cell (T:=[]) (w:=wr) (v:=v) hb2 aS p1
   have q_d2:=fun v=>later_cell (T:=[]) (w:=wr) (v:=v) hb2 aS p2
   have q_d3:=fun v=>later_cell (T:=[]) (w:=wr) (v:=v) hb1 aS p3
   have q_d4:=fun v=>later_cell (T:=[]) (w:=wr) (v:=v) hb1 aS p4
   unfold genWalk;refine ⟨_,pz1,?_⟩;refine one_of (by rfl) ⟨fun f=>⟨rfl,fun u hu _=>?_⟩,?_⟩
   ·refine make_call (f:=262) (args:=#[.agg #[.bool sP,.slice EP lP dP],.agg #[.bool sQ,.slice EQ lQ dQ]]) (by (try simp only [LN]); (try simp only [VB2]); go_simp) ?_;have q:=matrix_mul (w:=u) (NumAt.keeps KP.out hu) (NumAt.keeps KQ.out hu);rw [HP.out.1] at q;refine q.mono ?_;rintro e wx ⟨⟨b,rfl,q1,q2,q3⟩,hbx⟩;exact ⟨(b,0),rfl,q2,q3,hbx,aS,q1⟩
   have q_d5:=fun v=>later_cell (T:=[]) (w:=wr) (v:=v) hb1 aS p5
   have q_d6:=fun v=>later_cell (T:=[]) (w:=wr) (v:=v) hb1 aS p6
   have q_d7:=fun v=>later_cell (T:=[]) (w:=wr) (v:=v) hb2 aS p7
   have q_d8:=fun v=>later_cell (T:=[]) (w:=wr) (v:=v) hb2 aS p8
   unfold genWalk;refine ⟨_,pz3,?_⟩;refine one_of (by rfl) ⟨fun f=>⟨rfl,fun u hu _=>?_⟩,?_⟩
   ·refine make_call (f:=262) (args:=#[.agg #[.bool sR,.slice ER lR dR],.agg #[.bool sS,.slice ES lS dS]]) (by (try simp only [LN]); (try simp only [VB2]); go_simp) ?_;have q:=matrix_mul (w:=u) (NumAt.keeps KR.out hu) (NumAt.keeps KS.out hu);rw [HP.out.2.1] at q;refine q.mono ?_;rintro e wx ⟨⟨b,rfl,q1,q2,q3⟩,hbx⟩;exact ⟨(b,0),rfl,q2,q3,hbx,aS,q1⟩
   unfold genWalk;refine ⟨_,pz3,?_⟩;refine one_of (by rfl) ⟨fun f=>⟨rfl,fun u hu hm=>?_⟩,?_⟩
   ·refine make_call (f:=190) (args:=#[.agg #[.bool (sgnN pq),slN pq (f 9).1],.agg #[.bool (sgnN rs),slN rs (f 19).1]]) (by (try simp only [LN]); (try simp only [VB2]); go_simp) ?_;have e1:NumO u (f 9).1 pq:=(show (valB [] pq).R (f 9) u from hm 9 aS).2;have e2:NumO u (f 19).1 rs:=(show (valB [] rs).R (f 19) u from hm 19 aS).2;have q:=num_Sub (w:=u) (e1.at_ HF.out.1) (e2.at_ HF.out.2.1);rw [HP.out.2.2] at q;refine q.mono ?_;rintro e wx ⟨⟨b,rfl,q1,q2,q3⟩,hbx⟩;exact ⟨(b,0),rfl,q1,q2,hbx,aS,q3⟩
   unfold genWalk;refine ⟨_,pz3,?_⟩;unfold genWalk;refine ⟨_,pz3,?_⟩;unfold genWalk;refine ⟨_,pz3,?_⟩;refine one_of (by rfl) ⟨fun f=>⟨rfl,fun u hu _=>?_⟩,?_⟩
   ·refine make_own (e:=40) gA1 aS
   unfold genWalk;refine ⟨_,pz3,?_⟩;intro f u' hup hph hmade hdist;obtain ⟨⟨hT1,oN⟩,loN,hiN⟩:=hmade 20 aO rfl;obtain ⟨⟨hT2,qO⟩,loO,hiO⟩:=hmade 24 aO rfl;have e5:=hdist 20 24 aO aO rfl rfl aO;replace oN:NumO u' (f 20).1 df:=oN;replace qO:Own u' (f 24).1 nz1:=qO;clear hmade hdist hph hT1 hT2;simp only [TK,Nat.reduceSub,Nat.reduceAdd]
   (try simp only [LN])
   (try simp only [VB2])
   generalize (f 20).1=b1 at *;generalize (f 24).1=b12 at *;generalize (f 9).1=b9 at *;generalize (f 19).1=b19 at *;clear f;obtain ⟨A7,n7,c7,hs7⟩:=slN_form df b1
   try simp only [numV]
   rw [hs7,HF.out.2.2];have HSL:=Zh hs7;clear hs7;have hwu:Below wr.heap.size wr u':=Upd.below (Zb _ _) hup aS;have o7':=o7.upd hup aS;have hkT:=Upd.keeps (Keeps.refl _ _) hup;have qOc:=qO.cell;have qOf:=qO.thaw;clear hup;refine effc_mem (by rfl) (fun K hK=>?_);go_simp;refine hK _ _ ((hkT.new loO _).new loO _) (fun u3 hu3=>?_);clear hK K;have hs3:=hu3.size;simp [World.setCell] at hs3;have hwu1:=((hwu.setCell loO _).setCell loO _).trans (hu3.mono (by simp [World.setCell]; exact hwu.size));have r12:=((qO.set 0 (.bool (sgnN df))).set 1 (.slice A7 n7 c7)).below hu3;have r7:=((o7'.far aT _).far aT _).below hu3;have oN1:=NumO.below ((oN.far e5 _).far e5 _) hu3;have hk1:=((hkT.new loO _).new loO _).later hu3;clear qO qOc qOf oN hkT hu3 o7' hwu;refine effc_mem (by rfl) (fun K hK=>?_);go_simp;refine hK _ _ hk1 (fun u4 hu4=>?_);clear hK K;replace r12:=r12.below hu4;replace r7:=r7.below hu4;replace oN1:=oN1.below hu4;have hwu2:=hwu1.trans (hu4.mono hwu1.size);have hs4:=hu4.size;clear hwu1 hk1 hu4;refine effc_nil ?_
   (try simp only [LN])
   have r12c:=r12.cell;have r7c:=r7.cell;have N1:=oN1.at_ HF.out.2.2;unfold numV at N1;rw [HSL.out] at N1;have HN:=Zh (Zi N1 ((G3.out.below hbel).below hwu2));clear N1 oN1;go_wp2_with fail;have q:=matrix_quotient HN.out.1 HN.out.2 Z0.out;obtain ⟨zq,hzq⟩:=Zx (df / zb);have fq:=fits_div Z0.out HF.out.2.2;rw [hzq] at q fq;replace HE:Hid (combZ Z1 Z2 j zb (k+1)=combZ Z1 Z2 j zb k++[zq]):=Zh (by rw [HE.out,hzq]);have HQ:=Zh fq;clear hzq fq;refine Zd q ?_;clear q;rintro e u5 ⟨⟨b3,rfl,g1,g2,g3⟩,hb⟩;obtain ⟨A8,n8,c8,hs8⟩:=slN_form zq b3;have N5:=g1.at_ HQ.out;simp only [numV] at N5 ⊢;rw [hs8] at N5 ⊢;have hw5:=hwu2.trans (hb.mono hwu2.size);have N5:=Zh N5;have O5:=Zh (ownsRow_stay HO.out hw5);have C5:=Zh (HC.out.below hw5);have s7:=r7.below hb;have hz5:=hw5.size;have B5:=Zh (hbel.trans (hw5.mono hkb));have OB:Hid (∀ b off,A8=some ⟨b,off,none⟩->u4.heap.size<=b/\b<u5.heap.size):=Zh (fun b off e=>by
    subst e;have h9:=slN_addr hs8;subst h9;exact ⟨g2,g3⟩)
   clear hs8 g1 g2 g3 hb r7 r7c r12 r12c hwu2 HN;go_wp2_with (at_builtin; refine wpList_append_lies _ rfl _ _ _ (by rfl) (w.heap.size+1) 40 i0 zeroN 2 32 Tryz.underlying31 hi hz0 hz1 hz2 rfl aO _ k xs (by rfl) (O5.out.alloc _) ⟨u5.heap.size,0,none⟩ 1 1 [.bool (sgnN zq),.slice A8 n8 c8] (by rfl) rfl ?c1 ?c2 aO ?c3 ?c4 ?c5 (u5.heap.size+1) aS ?_)
   case c1=>exact World.news_of_block (heap_alloc_new u5 _)
   case c2=>intro u hu; simp at hu; rcases hu with rfl | rfl <;> rfl
   case c3=>unfold maxLen; omega
   case c4=>omega
   case c5=>simp; omega
   intro g c w6 ho6 hg6 hat hlt6;have hob:∀ b,_=some b->w.heap.size+1<=b:=fun b hb=>ownBlock_ge (O5.out) hb
   have B6:=Zh (Below.grown (B5.out.alloc aO (.cells #[.bool (sgnN zq),.slice A8 n8 c8] 40)) hg6 aT (fun b hb=>by have:=hob b hb; omega));have s6:=hg6.size;simp at s6;have t7:Own w6 w.heap.size #[.bool s3,.slice A3 n3 c3]:=(s7.alloc (.cells #[.bool (sgnN zq),.slice A8 n8 c8] 40)).of_block (hg6.block _ aT (fun e=>by have:=hob _ e.symm; omega));have hc6:RowC (fun b=>w.heap.size<=b/\some b≠some g) w6 (xs++[.bool (sgnN zq),.slice A8 n8 c8]) (combZ Z1 Z2 j zb (k+1)):=by
    rw [HE.out];have hb5:Below u5.heap.size u5 (u5.alloc (.cells #[.bool (sgnN zq),.slice A8 n8 c8] 40)):=(Zb _ _).alloc (Zr _) _;refine RowC.grown hg6 (fun b hb hX=>⟨hX.2.1,hX.1,fun e=>by
     cases e;rcases hat with h | h
     ·exact hX.2.1 h.symm
     ·have:=hX.2.2; omega⟩) (X:=fun b=>w.heap.size<=b/\some b≠u10.ownBlock/\b<u5.heap.size) (RowC.snoc ?_ (N5.out.below hb5) (RowC.move hb5.size (fun b hb hX=>⟨hb5.block b hb,hX.1,hX.2,hb⟩) C5.out))
    exact ⟨_,_,_,rfl,fun b off e=>by
     have h9:=OB.out b off e;exact ⟨aT,aO,fun e=>by have:=OL.out _ e.symm; omega,h9.2⟩⟩
   have HC6:=Zh hc6;have HO6:=Zh ho6;clear hc6 ho6 hg6 hat hob s7;go_wp2;go_roundw
   case rel=>exact ⟨k+1,_,aO,by go_num,B6.out,aO,t7,HO6.out,HC6.out⟩
   case measure=>simp [intOf]; omega
  ·have hk2:k=n:=aO
   subst hk2;have q:=row_of (X:=fun b=>w.heap.size<=b) (combZ_len Z1 Z2 j zb k) HO.out (RowC.move (Zr _) (fun b _ hX=>⟨rfl,hX.1⟩) HC.out) (fun b h _=>aO);rw [<- show combZ Z1 Z2 j zb k=combZ Z1 Z2 j zb k from rfl] at q;have HQ:=Zh q;obtain ⟨Ao,co,rfl,-⟩:=q;go_wp2;go_ret;exact ⟨⟨_,rfl,HQ.out⟩,hbel⟩
def iAt (l:List Int) (i:Nat):Int:=l.getD i 0
def rAt (M:List (List Int)) (i:Nat):List Int:=M.getD i []
def I64L (l:List Int):Prop:=∀ i,i<l.length -> -9223372036854775808<=iAt l i/\iAt l i<=9223372036854775807
structure IntsAt (w:World) (A:Option Addr) (n:Nat) (l:List Int):Prop where
 len:l.length=n
 ok:I64L l
 row:0<n->∃ b off,A=some ⟨b,off,none⟩/\b<w.heap.size/\∀ i,i<n->w.cell? ⟨b,off+i,none⟩=some (.int .i64 (iAt l i))
theorem IntsAt.below {w w':World} {A:Option Addr} {n:Nat} {l:List Int} (h:IntsAt w A n l) (hb:Below w.heap.size w w'):IntsAt w' A n l:=
 ⟨h.len,h.ok,fun h0=>by
  obtain ⟨b,off,e,hlt,hc⟩:=h.row h0;exact ⟨b,off,e,Zl hlt hb.size,fun i hi=>(Zc (w:=w) (a:=⟨b,off+i,none⟩) (hb.block b hlt)).trans (hc i hi)⟩⟩
structure RowsAt (w:World) (A:Option Addr) (n:Nat) (M:List (List Int)):Prop where
 len:M.length=n
 row:0<n->∃ b off,A=some ⟨b,off,none⟩/\b<w.heap.size/\∀ i,i<n->∃ B m c,w.cell? ⟨b,off+i,none⟩=some (.slice B m c)/\m<=c/\c<=9223372036854775807/\IntsAt w B m (rAt M i)
theorem RowsAt.below {w w':World} {A:Option Addr} {n:Nat} {M:List (List Int)} (h:RowsAt w A n M) (hb:Below w.heap.size w w'):RowsAt w' A n M:=
 ⟨h.len,fun h0=>by
  obtain ⟨b,off,e,hlt,hc⟩:=h.row h0;refine ⟨b,off,e,Zl hlt hb.size,fun i hi=>?_⟩;obtain ⟨B,m,c,h1,h2,h3,h4⟩:=hc i hi;exact ⟨B,m,c,(Zc (w:=w) (a:=⟨b,off+i,none⟩) (hb.block b hlt)).trans h1,h2,h3,h4.below hb⟩⟩
def anyF (p:Nat->Bool):Nat->Bool
 | 0=>false
 | n+1=>anyF p n || p n
theorem anyF_of {p:Nat->Bool} {n k:Nat} (hk:k<n) (h:p k=true):anyF p n=true:=by
 induction n with
 | zero=>omega
 | succ n ih =>
  rw [anyF]
  by_cases e:k=n
  ·subst e; rw [h]; simp
  ·rw [ih aO]; rfl
theorem index_large {w:World} {A:Option Addr} {n:Nat} {E:Nat->Int} {p:Nat->Bool} (c:Nat) (hc:0<n->∃ b off,A=some ⟨b,off,none⟩/\b<w.heap.size/\∀ i,i<n->w.cell? ⟨b,off+i,none⟩=some (.int .i64 (E i))) (hp:∀ i,i<n->p i=largeI (E i)) (hn:n<=1000000) :
 Calls Tryz.prog 227 #[.slice A n c,.func (.func 170) #[] #[]] w fun e w'=>∃ r:Int,e = .returned (.int .i64 r)/\decide (0<=r)=anyF p n/\Below w.heap.size w w':=by
 have HP:=Zh hp;have HC:=Zh hc;clear hp hc;have hni:(n:Int)<=1000000:=aO
 go_enter Tryz.func227,Tryz.ntmps227;go_wp2;go_loopw [8] (fun i wr=>∃ k:Nat,k<=n/\i = .int .i64 k/\anyF p k=false/\Below w.heap.size w wr) (fun i _=>n - (intOf i).toNat)
 case atStart=>exact ⟨0,aO,rfl,rfl,Zb _ _⟩
 case round =>
  obtain ⟨k,hk,rfl,hA,hbel⟩:=hrel;have HA:=Zh hA;have hkb:=hbel.size;clear hA
  by_cases hlt:k<n
  ·have hlt2:(k:Int)<(n:Int):=aO
   obtain ⟨b,off,rfl,hb,hcell⟩:=HC.out aO;have hcell:=(Zc (w:=w) (a:=⟨b,off+k,none⟩) (hbel.block b hb)).trans (hcell k hlt);go_wp2_with fail;have q:=fun W=>matrix_large (w:=W) (E k)
   rw [<- HP.out k hlt] at q;have q:=q wr;obtain ⟨o,ho⟩:=Zx (p k);rw [ho] at q;refine Zd q ?_;clear q;rintro e w2 ⟨rfl,hb2⟩;have B2:=Zh (hbel.trans (hb2.mono hkb));have HO:=Zh ho;clear hb2 hcell ho;cases o
   ·go_wp2;go_roundw
    case rel=>exact ⟨k+1,aO,by go_num,by rw [anyF,HA.out,HO.out]; rfl,B2.out⟩
    case measure=>simp [intOf]; omega
   ·go_wp2;go_ret;exact ⟨_,rfl,by rw [anyF_of hlt HO.out]; exact decide_eq_true aO,B2.out⟩
  ·have hk2:k=n:=aO
   subst hk2;go_wp2;go_ret;exact ⟨_,rfl,by rw [HA.out]; rfl,hbel⟩
theorem contains_large {w:World} {A:Option Addr} {n:Nat} {E:Nat->Int} {p:Nat->Bool} (c:Nat) (hc:0<n->∃ b off,A=some ⟨b,off,none⟩/\b<w.heap.size/\∀ i,i<n->w.cell? ⟨b,off+i,none⟩=some (.int .i64 (E i))) (hp:∀ i,i<n->p i=largeI (E i)) (hn:n<=1000000) :
 Calls Tryz.prog 169 #[.slice A n c,.func (.func 170) #[] #[]] w fun e w'=>e = .returned (.bool (anyF p n))/\Below w.heap.size w w':=by
 have q:=index_large c hc hp hn;obtain ⟨o,ho⟩:=Zx (anyF p n);rw [ho] at q ⊢;have Q:=Zh q;clear q ho hp hc;go_enter Tryz.func169,Tryz.ntmps169;go_wp2_with fail;refine Zd Q.out ?_;rintro e w2 ⟨r,rfl,hr,hb⟩;have HR:=Zh hr;have HB:=Zh hb;clear hr hb
 by_cases h0:0<=r
 ·have hr2:o=true:=by rw [<- HR.out]; exact decide_eq_true h0
  subst hr2;go_wp2;go_ret;exact ⟨rfl,HB.out⟩
 ·have hr2:o=false:=by rw [<- HR.out]; exact decide_eq_false h0
  subst hr2;go_wp2;go_ret;exact ⟨ret_bool (decide_eq_false aO),HB.out⟩
theorem index_one {w:World} {A:Option Addr} {n:Nat} {E:Nat->Option Addr×Nat×Nat} {p:Nat->Bool} {bx:Nat} (c:Nat) (hc:0<n->∃ b off,A=some ⟨b,off,none⟩/\b<w.heap.size/\∀ i,i<n->w.cell? ⟨b,off+i,none⟩=some (.slice (E i).1 (E i).2.1 (E i).2.2)) (hp:∀ i W,i<n->Below w.heap.size w W->Calls Tryz.prog 196 #[.slice (E i).1 (E i).2.1 (E i).2.2,.pointer (some ⟨bx,0,none⟩)] W fun e w'=>e = .returned (.bool (p i))/\Below W.heap.size W w') (hn:n<=1000000) :
 Calls Tryz.prog 245 #[.slice A n c,.func (.func 196) #[] #[.pointer (some ⟨bx,0,none⟩)]] w fun e w'=>∃ r:Int,e = .returned (.int .i64 r)/\decide (0<=r)=anyF p n/\Below w.heap.size w w':=by
 have HP:=Zh hp;have HC:=Zh hc;clear hp hc;have hni:(n:Int)<=1000000:=aO
 go_enter Tryz.func245,Tryz.ntmps245;go_wp2;go_loopw [8] (fun i wr=>∃ k:Nat,k<=n/\i = .int .i64 k/\anyF p k=false/\Below w.heap.size w wr) (fun i _=>n - (intOf i).toNat)
 case atStart=>exact ⟨0,aO,rfl,rfl,Zb _ _⟩
 case round =>
  obtain ⟨k,hk,rfl,hA,hbel⟩:=hrel;have HA:=Zh hA;have hkb:=hbel.size;clear hA
  by_cases hlt:k<n
  ·have hlt2:(k:Int)<(n:Int):=aO
   obtain ⟨b,off,rfl,hb,hcell⟩:=HC.out aO;have hcell:=(Zc (w:=w) (a:=⟨b,off+k,none⟩) (hbel.block b hb)).trans (hcell k hlt);go_wp2_with fail;have q:=HP.out k _ hlt hbel;obtain ⟨o,ho⟩:=Zx (p k);rw [ho] at q;refine Zd q ?_;clear q;rintro e w2 ⟨rfl,hb2⟩;have B2:=Zh (hbel.trans (hb2.mono hkb));have HO:=Zh ho;clear hb2 hcell ho;cases o
   ·go_wp2;go_roundw
    case rel=>exact ⟨k+1,aO,by go_num,by rw [anyF,HA.out,HO.out]; rfl,B2.out⟩
    case measure=>simp [intOf]; omega
   ·go_wp2;go_ret;exact ⟨_,rfl,by rw [anyF_of hlt HO.out]; exact decide_eq_true aO,B2.out⟩
  ·have hk2:k=n:=aO
   subst hk2;go_wp2;go_ret;exact ⟨_,rfl,by rw [HA.out]; rfl,hbel⟩
theorem contains_one {w:World} {A:Option Addr} {n:Nat} {E:Nat->Option Addr×Nat×Nat} {p:Nat->Bool} {bx:Nat} (c:Nat) (hc:0<n->∃ b off,A=some ⟨b,off,none⟩/\b<w.heap.size/\∀ i,i<n->w.cell? ⟨b,off+i,none⟩=some (.slice (E i).1 (E i).2.1 (E i).2.2)) (hp:∀ i W,i<n->Below w.heap.size w W->Calls Tryz.prog 196 #[.slice (E i).1 (E i).2.1 (E i).2.2,.pointer (some ⟨bx,0,none⟩)] W fun e w'=>e = .returned (.bool (p i))/\Below W.heap.size W w') (hn:n<=1000000) :
 Calls Tryz.prog 195 #[.slice A n c,.func (.func 196) #[] #[.pointer (some ⟨bx,0,none⟩)]] w fun e w'=>e = .returned (.bool (anyF p n))/\Below w.heap.size w w':=by
 have q:=index_one c hc hp hn;obtain ⟨o,ho⟩:=Zx (anyF p n);rw [ho] at q ⊢;have Q:=Zh q;clear q ho hp hc;go_enter Tryz.func195,Tryz.ntmps195;go_wp2_with fail;refine Zd Q.out ?_;rintro e w2 ⟨r,rfl,hr,hb⟩;have HR:=Zh hr;have HB:=Zh hb;clear hr hb
 by_cases h0:0<=r
 ·have hr2:o=true:=by rw [<- HR.out]; exact decide_eq_true h0
  subst hr2;go_wp2;go_ret;exact ⟨rfl,HB.out⟩
 ·have hr2:o=false:=by rw [<- HR.out]; exact decide_eq_false h0
  subst hr2;go_wp2;go_ret;exact ⟨ret_bool (decide_eq_false aO),HB.out⟩
theorem index_two {w:World} {A:Option Addr} {n:Nat} {E:Nat->Option Addr×Nat×Nat} {p:Nat->Bool} (c:Nat) (hc:0<n->∃ b off,A=some ⟨b,off,none⟩/\b<w.heap.size/\∀ i,i<n->w.cell? ⟨b,off+i,none⟩=some (.slice (E i).1 (E i).2.1 (E i).2.2)) (hp:∀ i W,i<n->Below w.heap.size w W->Calls Tryz.prog 197 #[.slice (E i).1 (E i).2.1 (E i).2.2] W fun e w'=>e = .returned (.bool (p i))/\Below W.heap.size W w') (hn:n<=1000000) :
 Calls Tryz.prog 245 #[.slice A n c,.func (.func 197) #[] #[]] w fun e w'=>∃ r:Int,e = .returned (.int .i64 r)/\decide (0<=r)=anyF p n/\Below w.heap.size w w':=by
 have HP:=Zh hp;have HC:=Zh hc;clear hp hc;have hni:(n:Int)<=1000000:=aO
 go_enter Tryz.func245,Tryz.ntmps245;go_wp2;go_loopw [8] (fun i wr=>∃ k:Nat,k<=n/\i = .int .i64 k/\anyF p k=false/\Below w.heap.size w wr) (fun i _=>n - (intOf i).toNat)
 case atStart=>exact ⟨0,aO,rfl,rfl,Zb _ _⟩
 case round =>
  obtain ⟨k,hk,rfl,hA,hbel⟩:=hrel;have HA:=Zh hA;have hkb:=hbel.size;clear hA
  by_cases hlt:k<n
  ·have hlt2:(k:Int)<(n:Int):=aO
   obtain ⟨b,off,rfl,hb,hcell⟩:=HC.out aO;have hcell:=(Zc (w:=w) (a:=⟨b,off+k,none⟩) (hbel.block b hb)).trans (hcell k hlt);go_wp2_with fail;have q:=HP.out k _ hlt hbel;obtain ⟨o,ho⟩:=Zx (p k);rw [ho] at q;refine Zd q ?_;clear q;rintro e w2 ⟨rfl,hb2⟩;have B2:=Zh (hbel.trans (hb2.mono hkb));have HO:=Zh ho;clear hb2 hcell ho;cases o
   ·go_wp2;go_roundw
    case rel=>exact ⟨k+1,aO,by go_num,by rw [anyF,HA.out,HO.out]; rfl,B2.out⟩
    case measure=>simp [intOf]; omega
   ·go_wp2;go_ret;exact ⟨_,rfl,by rw [anyF_of hlt HO.out]; exact decide_eq_true aO,B2.out⟩
  ·have hk2:k=n:=aO
   subst hk2;go_wp2;go_ret;exact ⟨_,rfl,by rw [HA.out]; rfl,hbel⟩
theorem contains_two {w:World} {A:Option Addr} {n:Nat} {E:Nat->Option Addr×Nat×Nat} {p:Nat->Bool} (c:Nat) (hc:0<n->∃ b off,A=some ⟨b,off,none⟩/\b<w.heap.size/\∀ i,i<n->w.cell? ⟨b,off+i,none⟩=some (.slice (E i).1 (E i).2.1 (E i).2.2)) (hp:∀ i W,i<n->Below w.heap.size w W->Calls Tryz.prog 197 #[.slice (E i).1 (E i).2.1 (E i).2.2] W fun e w'=>e = .returned (.bool (p i))/\Below W.heap.size W w') (hn:n<=1000000) :
 Calls Tryz.prog 195 #[.slice A n c,.func (.func 197) #[] #[]] w fun e w'=>e = .returned (.bool (anyF p n))/\Below w.heap.size w w':=by
 have q:=index_two c hc hp hn;obtain ⟨o,ho⟩:=Zx (anyF p n);rw [ho] at q ⊢;have Q:=Zh q;clear q ho hp hc;go_enter Tryz.func195,Tryz.ntmps195;go_wp2_with fail;refine Zd Q.out ?_;rintro e w2 ⟨r,rfl,hr,hb⟩;have HR:=Zh hr;have HB:=Zh hb;clear hr hb
 by_cases h0:0<=r
 ·have hr2:o=true:=by rw [<- HR.out]; exact decide_eq_true h0
  subst hr2;go_wp2;go_ret;exact ⟨rfl,HB.out⟩
 ·have hr2:o=false:=by rw [<- HR.out]; exact decide_eq_false h0
  subst hr2;go_wp2;go_ret;exact ⟨ret_bool (decide_eq_false aO),HB.out⟩
def cols (M:List (List Int)):Nat:=(rAt M 0).length
def rowOf (w:World) (v:Option Addr×Nat×Nat) (l:List Int):Prop:=v.2.1<=v.2.2/\v.2.2<=9223372036854775807/\IntsAt w v.1 v.2.1 l
theorem RowsAt.pick {w:World} {A:Option Addr} {n:Nat} {M:List (List Int)} (h:RowsAt w A n M):∃ E:Nat->Option Addr×Nat×Nat,(0<n->∃ b off,A=some ⟨b,off,none⟩/\b<w.heap.size/\∀ i,i<n->w.cell? ⟨b,off+i,none⟩=some (.slice (E i).1 (E i).2.1 (E i).2.2))/\∀ i,i<n->rowOf w (E i) (rAt M i):=by
 rcases Nat.eq_zero_or_pos n with h0 | h0
 ·exact ⟨fun _=>(none,0,0),fun h=>aO,fun i hi=>aO⟩
 ·obtain ⟨b,off,rfl,hb,hc⟩:=h.row h0;have key:∀ i,∃ e:Option Addr×Nat×Nat,i<n->w.cell? ⟨b,off+i,none⟩=some (.slice e.1 e.2.1 e.2.2)/\rowOf w e (rAt M i):=fun i=>by
   by_cases hi:i<n
   ·obtain ⟨B,m,c,h1,h2,h3,h4⟩:=hc i hi;exact ⟨(B,m,c),fun _=>⟨h1,h2,h3,h4⟩⟩
   ·exact ⟨(none,0,0),fun h=>absurd h hi⟩
  exact ⟨fun i=>Classical.choose (key i),fun _=>⟨b,off,rfl,hb,fun i hi=>(Classical.choose_spec (key i) hi).1⟩,fun i hi=>(Classical.choose_spec (key i) hi).2⟩
theorem matrix_columns {w:World} {A:Option Addr} {n:Nat} {M:List (List Int)} (c:Nat) (h:RowsAt w A n M) :
 Calls Tryz.prog 123 #[.slice A n c] w fun e w'=>e = .returned (.int .i64 (cols M:Nat))/\Below w.heap.size w w':=by
 obtain ⟨E,hc,hr⟩:=h.pick;have hl:=h.len;have hW:=Zb w.heap.size w
 by_cases h0:n=0
 ·subst h0;obtain rfl:M=[]:=List.eq_nil_of_length_eq_zero hl;clear hc hr h;go_enter Tryz.func123,Tryz.ntmps123;go_wp2;go_ret;exact ⟨rfl,hW⟩
 ·obtain ⟨b,off,rfl,hb,hcell⟩:=hc aO;have q:=hcell 0 aO;rw [Nat.add_zero] at q;have q2:=(hr 0 aO).2.2.len;obtain ⟨e1,he⟩:=Zx (E 0);rw [he] at q q2;obtain ⟨m,hm⟩:=Zx (cols M);have hm2:e1.2.1=m:=by rw [<- q2]; exact hm
  rw [hm];rw [hm2] at q;clear hcell hr h hc hl q2 he hm hm2;have hn0:((n:Int)==0)=false:=beq_eq_false_iff_ne.2 aO;have hn1:(0:Int)<(n:Int):=aO
  go_enter Tryz.func123,Tryz.ntmps123;go_wp2;go_ret;exact ⟨rfl,hW⟩
theorem matrix_check1 {w:World} {B:Option Addr} {m bx k:Nat} (c:Nat) (hb:w.cell? ⟨bx,0,none⟩=some (.int .i64 (k:Nat))) :
 Calls Tryz.prog 196 #[.slice B m c,.pointer (some ⟨bx,0,none⟩)] w fun e w'=>e = .returned (.bool (decide (m≠k)))/\Below w.heap.size w w':=by
 obtain ⟨o,ho⟩:=Zx (decide (m≠k));rw [ho];have hW:=Zb w.heap.size w;have e:((m:Int) != (k:Int))=o:=by
  rw [<- ho]
  by_cases h:m=k
  ·subst h; simp
  ·rw [decide_eq_true h]; exact bne_iff_ne.2 aO
 clear ho;go_enter Tryz.func196,Tryz.ntmps196;go_wp2;go_ret;exact ⟨by first | rfl | exact ret_bool e,hW⟩
theorem matrix_check2 {w:World} {A:Option Addr} {n:Nat} {l:List Int} (c:Nat) (h:IntsAt w A n l) (hn:n<=1000000) :
 Calls Tryz.prog 197 #[.slice A n c] w fun e w'=>e = .returned (.bool (anyF (fun k=>largeI (iAt l k)) n))/\Below w.heap.size w w':=by
 have q:=contains_large (p:=fun k=>largeI (iAt l k)) c h.row (fun _ _=>rfl) hn;obtain ⟨o,ho⟩:=Zx (anyF (fun k=>largeI (iAt l k)) n);rw [ho] at q ⊢;have Q:=Zh q;clear q ho h;go_enter Tryz.func197,Tryz.ntmps197;go_wp2_with fail;refine Zd Q.out ?_;rintro e w2 ⟨rfl,hb⟩;have HB:=Zh hb;clear hb;go_wp2;go_ret;exact ⟨rfl,HB.out⟩
def matCheck (M:List (List Int)):Int:=
 if 48<M.length\/8<cols M then 2
 else if anyF (fun i=>decide ((rAt M i).length≠cols M)) M.length=true then 4
 else if anyF (fun i=>anyF (fun k=>largeI (iAt (rAt M i) k)) (rAt M i).length) M.length=true then 3
 else 0
theorem anyF_none {p:Nat->Bool} {n:Nat} (h:anyF p n=false) {k:Nat} (hk:k<n):p k=false:=by
 cases e:p k
 ·rfl
 ·rw [anyF_of hk e] at h; cases h
theorem anyF_eq {p q:Nat->Bool} {n:Nat} (h:∀ k,k<n->p k=q k):anyF p n=anyF q n:=by
 induction n with
 | zero=>rfl
 | succ n ih=>rw [anyF,anyF,ih (fun k hk=>h k aO),h n aO]
theorem matrix_check {w:World} {A:Option Addr} {n:Nat} {M:List (List Int)} (c:Nat) (h:RowsAt w A n M) :
 Calls Tryz.prog 122 #[.slice A n c] w fun e w'=>e = .returned (.int .i64 (matCheck M))/\Below w.heap.size w w':=by
 obtain ⟨E,hc,hr⟩:=h.pick;have HE:=Zh (Zi hc hr);have hl:=h.len;obtain ⟨m,hm⟩:=Zx (cols M);have q:=matrix_columns c h;rw [hm] at q;have Q:=Zh q;obtain ⟨r,hR⟩:=Zx (matCheck M);rw [hR];have HR:=Zh hR;have HM:=Zh (Zi hm hl);clear hc hr h q hR hm hl;go_enter Tryz.func122,Tryz.ntmps122;go_wp2_with fail;refine Zd Q.out ?_;rintro e w1 ⟨rfl,hb1⟩;have o3:Own (w1.alloc (.cells #[.int .i64 (m:Nat)] 3)) w1.heap.size #[.int .i64 (m:Nat)]:=aOwn;have hW2:=hb1.alloc hb1.size (.cells #[.int .i64 (m:Nat)] 3);clear hb1
 by_cases h1:48<n
 ·have h2:(48:Int)<(n:Int):=aO
  obtain rfl:r=2:=by
   rw [<- HR.out]; unfold matCheck; rw [if_pos (.inl (by rw [HM.out.2]; exact h1))]
  go_wp2;go_ret;exact ⟨rfl,hW2⟩
 ·have h2:¬ (48:Int)<(n:Int):=aO
  by_cases h3:8<m
  ·have h4:(8:Int)<(m:Int):=aO
   obtain rfl:r=2:=by
    rw [<- HR.out]; unfold matCheck; rw [if_pos (.inr (by rw [HM.out.1]; exact h3))]
   go_wp2;go_ret;exact ⟨rfl,hW2⟩
  ·go_wp2_with fail;have hc3:=o3.cell 0;obtain ⟨W2,hW2e⟩:=Zx ((w1.alloc (.cells #[.int .i64 (m:Nat)] 3)));rw [hW2e] at hW2 hc3 o3 ⊢;have hbl:w1.heap.size<W2.heap.size:=o3.lt;have q:=contains_one (w:=W2) (A:=A) (n:=n) (E:=E) (p:=fun i=>decide ((E i).2.1≠m)) (bx:=w1.heap.size) c (fun h0=>by
    obtain ⟨b,off,e,hb,hcell⟩:=HE.out.1 h0;exact ⟨b,off,e,Zl hb hW2.size,fun i hi=>(Zc (w:=w) (a:=⟨b,off+i,none⟩) (hW2.block b hb)).trans (hcell i hi)⟩)
    (fun i W hi hB=>matrix_check1 _ ((Zc (w:=W2) (a:=⟨w1.heap.size,0,none⟩) (hB.block _ hbl)).trans hc3)) aO
   have eA:anyF (fun i=>decide ((E i).2.1≠m)) n=anyF (fun i=>decide ((rAt M i).length≠cols M)) M.length:=by
    rw [HM.out.1,HM.out.2];exact anyF_eq fun i hi=>by rw [(HE.out.2 i hi).2.2.len]
   obtain ⟨o,ho⟩:=Zx (anyF (fun i=>decide ((E i).2.1≠m)) n);rw [ho] at q eA;have HA:=Zh (Zi eA ho);refine Zd q ?_;clear q eA ho hW2e;rintro e w3 ⟨rfl,hb3⟩;have B3:=Zh (hW2.trans (hb3.mono hW2.size));clear hb3 o3 hc3;cases o
   ·go_wp2_with fail;have hB:=B3.out;have q:=contains_two (w:=w3) (A:=A) (n:=n) (E:=E) (p:=fun i=>anyF (fun k=>largeI (iAt (rAt M i) k)) (rAt M i).length) c (fun h0=>by
     obtain ⟨b,off,e,hb,hcell⟩:=HE.out.1 h0;exact ⟨b,off,e,Zl hb hB.size,fun i hi=>(Zc (w:=w) (a:=⟨b,off+i,none⟩) (hB.block b hb)).trans (hcell i hi)⟩)
     (fun i W hi hB2=>by
      have h9:=(HE.out.2 i hi).2.2;have h8:=anyF_none HA.out.2 hi;have h7:(E i).2.1=m:=by
       apply Classical.byContradiction;intro hne;rw [decide_eq_true hne] at h8; cases h8
      rw [h9.len];exact matrix_check2 _ (h9.below (hB.trans (hB2.mono hB.size))) aO) aO
    obtain ⟨o,ho⟩:=Zx (anyF (fun i=>anyF (fun k=>largeI (iAt (rAt M i) k)) (rAt M i).length) n);rw [ho] at q;have HO:=Zh ho;refine Zd q ?_;clear q ho hB;rintro e w4 ⟨rfl,hb4⟩;have B4:=Zh (B3.out.trans (hb4.mono B3.out.size));clear hb4;have HR2:=HR.out;unfold matCheck at HR2;rw [if_neg (by rw [HM.out.2,HM.out.1]; omega),<- HA.out.1,if_neg aS,HM.out.2,HO.out] at HR2;cases o
    ·obtain rfl:0=r:=by rw [<- HR2]; rfl
     clear HR2;go_wp2;go_ret;exact ⟨rfl,B4.out⟩
    ·obtain rfl:3=r:=by rw [<- HR2]; rfl
     clear HR2;go_wp2;go_ret;exact ⟨rfl,B4.out⟩
   ·obtain rfl:4=r:=by
     rw [<- HR.out]; unfold matCheck;rw [if_neg (by rw [HM.out.2,HM.out.1]; omega),<- HA.out.1,if_pos rfl]
    go_wp2;go_ret;exact ⟨rfl,B3.out⟩
end Go.Proofs.YtflolbnnkbdmfaaGreat
