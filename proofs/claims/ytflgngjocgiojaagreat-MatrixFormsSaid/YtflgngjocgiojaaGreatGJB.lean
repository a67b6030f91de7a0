import Derived.Test.YtflgngjocgiojaaGreatMade5
import Derived.Test.YtflgngjocgiojaaGreatSan5
set_option linter.all false
namespace Go.Proofs.YtflgngjocgiojaaGreat
open Go.RowKit
set_option maxHeartbeats 8000000
set_option maxRecDepth 100000
structure MadeM (M:List (List Int)) (r m:Nat):Prop where
 len:M.length=r
 row:∀ i,i<r->(rAt M i).length=m/\BdI (capB i) (rAt M i)
theorem MadeM.cols {M:List (List Int)} {r m:Nat} (h:MadeM M r m) (hr:1<=r):cols M=m:=by
 have h1:=(h.row 0 aO).1;have h2:=h.len;cases M with
 | nil=>simp at h2; omega
 | cons a b=>exact h1
theorem law05_made (A:Option Addr) (n cap:Nat) (l:List Int) (x y:Int) (r m:Nat) (hx:0<=x) (hx2:x<=255) (hy:0<=y) (hy2:y<=255) (hr:1+x%8=r) (hm:1+y%8=m) (w:World) (hl:SliceI w A n l) :
 Calls Tryz.prog 10 #[.agg #[.slice A n cap,.int .u8 x,.int .u8 y]] w fun e w'=>(∃ g c M,e = .returned (.slice (some ⟨g,0,none⟩) r c)/\r<=c/\c<=9223372036854775807/\RowsAt w' (some ⟨g,0,none⟩) r M/\MadeM M r m/\w.heap.size<=g/\OwnRows (w.heap.size+2) w' (.slice (some ⟨g,0,none⟩) r c) M)/\Below w.heap.size w w':=by
 have hW:=(Zb w.heap.size w).alloc (Zr _) (.cells #[.slice A n cap,.int .u8 x,.int .u8 y] 24);have HL:=Zh (hl.below hW);obtain ⟨qx,hqx⟩:=Zx (x%8);obtain ⟨qy,hqy⟩:=Zx (y%8);have e1:x.tmod 8=qx:=by rw [Int.tmod_eq_emod_of_nonneg hx,hqx]
 have e2:y.tmod 8=qy:=by rw [Int.tmod_eq_emod_of_nonneg hy,hqy]
 rw [hqx] at hr;rw [hqy] at hm;have b1:0<=qx/\qx<8:=aO
 have b2:0<=qy/\qy<8:=aO
 have w1:IntKind.i64.wrap x=x:=by rw [IntKind.wrap_i64]; omega
 have w2:IntKind.i64.wrap y=y:=by rw [IntKind.wrap_i64]; omega
 have HB:Hid (1<=r/\r<=8/\1<=m/\m<=8):=Zh aO;clear hl;go_enter Tryz.func10,Tryz.ntmps10;go_wp2_with fail;refine Zd (ref5_Made A n cap l r m HB.out.1 HB.out.2.1 HB.out.2.2.1 HB.out.2.2.2 _ HL.out) ?_;rintro e w2 ⟨⟨g,c,M,rfl,g1,g2,g3,g4,g5,g6⟩,hb⟩;have hw2:=hW.trans (hb.mono hW.size);have HG:=Zh (Zi g3 (Zi g4 g6));simp at g5;clear g3 g4 g6 hb hW;go_wp2;go_ret;exact ⟨⟨g,c,M,rfl,g1,g2,HG.out.1,⟨HG.out.1.len,HG.out.2.1⟩,aO,by have h:=HG.out.2.2; simpa using h⟩,hw2⟩
theorem law05_right (A:Option Addr) (n cap:Nat) (l:List Int) (r:Nat) (hr1:1<=r) (hr8:r<=8) (w:World) (hl:SliceI w A n l) :
 Calls Tryz.prog 13 #[.slice A n cap,.int .i64 r] w fun e w'=>(∃ g c b,e = .returned (.slice (some ⟨g,0,none⟩) r c)/\r<=c/\c<=9223372036854775807/\IntsAt w' (some ⟨g,0,none⟩) r b/\BdI 20 b/\w.heap.size<=g/\g<w'.heap.size)/\Below w.heap.size w w':=by
 obtain ⟨i0,hi,hz0,hz1,hz2⟩:=info_parts infoI;have hri:(r:Int)<=8:=aO
 have HLI:=Zh hl;clear hl;obtain ⟨bd,hbd⟩:=Zx (w.heap.size);have hW0:=(Zb w.heap.size w).alloc (Zr _) (.cells #[.slice A n cap,.int .i64 0] 75);have hD0:=DrawAt.start (cap:=cap) (T:=75) HLI.out;have hz0':w.heap.size+1<=(w.alloc (.cells #[.slice A n cap,.int .i64 0] 75)).heap.size:=aS
 go_enter Tryz.func13,Tryz.ntmps13;go_wp2;generalize (w.alloc (.cells #[.slice A n cap,.int .i64 0] 75))=W0 at *;rw [hbd] at hD0 hz0';have HD0:=Zh hD0;have HBD:=Zh hbd;clear hD0 HLI hbd;have hw:=hW0;have hws:=hz0';clear hW0 hz0';go_loopw [6,7] (fun v i wr=>∃ (k:Nat) (b d:List Int),k<=r/\i = .int .i64 k/\Below w.heap.size w wr/\bd+1<=wr.heap.size/\DrawAt wr bd d/\wr.ownsRow (bd+1) 3 1 v k (encI b)/\b.length=k/\BdI 20 b) (fun _ i _=>r - (intOf i).toNat)
 case atStart=>exact ⟨0,[],_,aO,rfl,hw,hws,HD0.out,⟨rfl,.inl ⟨rfl,rfl⟩⟩,rfl,fun i=>by simp [iAt]⟩
 case round =>
  clear hw hws HD0;obtain ⟨k,b,d,hk,rfl,hw,hws,hd,hrow,hbl,hbb⟩:=hrel;have HD:=Zh hd;have HO:=Zh hrow;have HM:=Zh (Zi hbl hbb);have hz:=hw.size;clear hd hrow hbl hbb
  by_cases hkr:k<r
  ·have hkri:(k:Int)<(r:Int):=aO
   obtain ⟨q,hq⟩:=Zx (nextV d 41);have nb:=nextV_bd d 41 aO;rw [hq] at nb;obtain ⟨x,hx⟩:=Zx (q - 20);have hxb:-20<=x/\x<=20:=aO
   have HC:=Zh (callv (ref1_Next bd d 41 aO aO wr HD.out) (congrArg (Value.int IntKind.i64) hq));clear hq;go_wp2_with fail;refine Zd HC.out ?_;rintro e w2 ⟨rfl,hu,hd2⟩;have hw2:=Upd.below hw hu (by simp; have:=HBD.out; omega);have HO2:=Zh (ownsRow_upd HO.out hu aO);have HD2:=Zh hd2;have hs2:bd+1<=w2.heap.size:=by have:=hu.size; omega
   clear HC hu hd2 HD HO hw hws hz;go_wp2_with (at_builtin; refine wpList_append_lies _ rfl _ _ _ (by rfl) (bd+1) 3 i0 (.int .i64 0) 1 8 Tryz.underlying22 hi hz0 hz1 hz2 rfl aO _ k (encI b) (by rfl) (HO2.out.alloc _) ⟨w2.heap.size,0,none⟩ 1 1 [.int .i64 x] (by rfl) rfl ?c1 ?c2 aO ?c3 ?c4 ?c5 (w2.heap.size+1) aS ?_)
   case c1=>exact World.news_of_block (heap_alloc_new w2 _)
   case c2=>intro u hu; simp at hu; subst hu; rfl
   case c3=>unfold maxLen; omega
   case c4=>omega
   case c5=>simp; omega
   intro g cg w6 ho6 hg6 hat hlt6;have hob:∀ b,_=some b->bd+1<=b:=fun b hb=>ownBlock_ge HO2.out hb
   have hal:Below w2.heap.size w2 (w2.alloc (.cells #[.int .i64 x] 3)):=(Zb _ _).alloc (Zr _) _;have hbw:=HBD.out;have B6:=Zh (Below.grown (hw2.trans (hal.mono hw2.size)) hg6 aT (fun b hb=>by have:=hob b hb; omega));rw [encI_snoc] at ho6;have HO6:=Zh ho6;have HD6:=Zh (DrawAt.of_blocks (HD2.out.below hal) (w':=w6) (fun i hi=>hg6.block i aT (fun e=>by have:=hob i e.symm; omega)));have hs6:bd+1<=w6.heap.size:=by have:=hg6.size; simp at this; omega
   have HM6:Hid ((b++[x]).length=k+1/\BdI 20 (b++[x])):=Zh ⟨by rw [List.length_append,HM.out.1]; rfl,fun i=>by
    by_cases e:i<b.length
    ·have:iAt (b++[x]) i=iAt b i:=by unfold iAt; rw [Ze,List.getElem?_append_left e,<- Ze]
     rw [this]; exact HM.out.2 i
    ·by_cases e2:i=b.length
     ·have:iAt (b++[x]) i=x:=by unfold iAt; rw [Ze,e2,List.getElem?_append_right (Zr _),Nat.sub_self]; rfl
      rw [this]; exact hxb
     ·have:iAt (b++[x]) i=0:=by unfold iAt; rw [Ze,List.getElem?_eq_none aT]; rfl
      rw [this]; omega⟩
   clear ho6 hg6 hat hob hal hlt6 hbw hx;go_wp2;go_roundw
   case rel=>exact ⟨k+1,_,_,aO,by go_num,B6.out,hs6,HD6.out,HO6.out,HM6.out.1,HM6.out.2⟩
   case measure=>simp [intOf]; omega
  ·obtain rfl:k=r:=aO
   obtain ⟨A2,c2,rfl,g1,g2,g3,g4⟩:=ints_of_row HO.out HM.out.1 (HM.out.2.i64 aO);obtain ⟨b2,off2,rfl,_⟩:=g3.row aO;obtain ⟨rfl,h7,h8,_⟩:=g4 b2 off2 rfl;have HG:=Zh g3;clear g3 g4 HO;go_wp2;go_ret;exact ⟨⟨b2,c2,b,rfl,g1,g2,HG.out,HM.out.2,by have:=HBD.out; omega,h8⟩,hw⟩
theorem check_of {M:List (List Int)} (h1:M.length<=48) (h2:cols M<=8) (h3:∀ i,i<M.length->(rAt M i).length=cols M) (h4:∀ i,i<M.length->∀ k,k<cols M->largeI (iAt (rAt M i) k)=false):matCheck M=0:=by
 unfold matCheck;rw [if_neg aO,if_neg,if_neg]
 ·rw [anyF_no]
  ·simp
  ·intro k hk;refine anyF_no fun j hj=>h4 k hk j ?_
   rw [h3 k hk] at hj;exact hj
 ·rw [anyF_no]
  ·simp
  ·intro k hk;exact decide_eq_false (by rw [h3 k hk]; simp)
theorem not_large {x B:Int} (h1:-B<=x) (h2:x<=B) (hB:B<=2147483648):largeI x=false:=by
 unfold largeI;rw [decide_eq_false aO,decide_eq_false aO];rfl
theorem MadeM.check {M:List (List Int)} {r m:Nat} (h:MadeM M r m) (h1:1<=r) (h2:r<=8) (h3:m<=8):matCheck M=0:=by
 have hc:=h.cols h1;refine check_of (by rw [h.len]; omega) aO (fun i hi=>by rw [hc]; exact (h.row i (by rw [<- h.len]; exact hi)).1) (fun i hi k _=>?_);have hi':i<r:=by rw [<- h.len]; exact hi
 have h5:=(h.row i hi').2 k;exact not_large h5.1 h5.2 (by have:=capB_le (k:=i) aO; omega)
theorem own_of_row {w:World} {base:Nat} {e:TypeId} {g n cap:Nat} {xs:List Value} (h:w.ownsRow base e 1 (.slice (some ⟨g,0,none⟩) n cap) n xs) (hn:0<n):base<=g/\g<w.heap.size/\n<=cap/\cap<=9223372036854775807/\∃ cur,Own w g cur/\∀ i,i<n->cur[i]?=xs[i]?:=by
 have q:=ownsRow_cell h hn;rcases h.2 with ⟨e1,e2⟩ | ⟨g',cap',cur,e1,e2,e3,e4,e5,e6,e7⟩
 ·omega
 ·injection e1 with a1 a2 a3
  injection a1 with a1; injection a1 with a1
  subst a1;refine ⟨q.1,q.2.1,q.2.2.1,q.2.2.2.1,cur,⟨_,e3⟩,fun i hi=>?_⟩;have ho:Own w g cur:=⟨_,e3⟩;rw [<- ho.cell i];exact q.2.2.2.2 i aO
theorem IntsAt.upd {T:List Nat} {w u:World} {b n:Nat} {l:List Int} (h:IntsAt w (some ⟨b,0,none⟩) n l) (hT:b∉T) (k:Upd T w u):IntsAt u (some ⟨b,0,none⟩) n l:=
 ⟨h.len,h.ok,fun h0=>by
  obtain ⟨b',off,e,hlt,hc⟩:=h.row h0;cases e;exact ⟨_,_,rfl,Zl hlt k.size,fun i hi=>(Zc (w:=w) (a:=⟨b,0+i,none⟩) (k.block b hlt hT)).trans (hc i hi)⟩⟩
def ratCV (T:List Nat) (B:Nat) (z y:Int):EBS T where
 val p:=ratC z y p.1 (un1 p.2) (un3 p.2) (un2 p.2)
 R p u:=p.1∉T/\un3 p.2∉T/\NumC u p.1 (un1 p.2) z/\NumC u (un3 p.2) (un2 p.2) y/\B<=un3 p.2/\un3 p.2<u.heap.size
 st _ _ _ h k:=⟨h.1,h.2.1,h.2.2.1.upd h.1 k,h.2.2.2.1.upd h.2.1 k,h.2.2.2.2.1,Zl h.2.2.2.2.2 k.size⟩
theorem ratCV_val {T:List Nat} {B:Nat} {z y:Int} {p:Nat×Nat}:(ratCV T B z y).val p=ratC z y p.1 (un1 p.2) (un3 p.2) (un2 p.2):=rfl
theorem ratC_at {w:World} {p q:Int} {b1 C1 b2 C2:Nat} (h1:NumC w b1 C1 p) (h2:NumC w b2 C2 q) (f1:fits p=true) (f2:fits q=true):RatAt w (ratC p q b1 C1 b2 C2) p q:=by
 obtain ⟨A1,n1,c1,e1⟩:=slC_form p b1 C1;obtain ⟨A2,n2,c2,e2⟩:=slC_form q b2 C2;exact ⟨_,A1,n1,c1,_,A2,n2,c2,by rw [ratC,e1,e2],h1.at2 f1 e1,h2.at2 f2 e2⟩
theorem ref3_IntC {w:World} (n:Int) (h1:-9223372036854775808<=n) (h2:n<=9223372036854775807):Calls Tryz.prog 30 #[.int .i64 n] w fun r w'=>(∃ b1 C1 b2 C2,r = .returned (ratC n 1 b1 C1 b2 C2)/\NumC w' b1 C1 n/\NumC w' b2 C2 1/\w.heap.size<=b1/\b1<w'.heap.size/\w.heap.size<=b2/\b2<w'.heap.size)/\Below w.heap.size w w':=by
 have hW:=(Zb w.heap.size w).alloc (Zr _) (.cells nz2 37);have o4:Own (w.alloc (.cells nz2 37)) w.heap.size nz2:=aOwn;have hz:=hW.size;have hn:=Zh (Zi h1 (Zi h2 (show fits n=true from fits_small aO)));clear h1 h2;go_enter Tryz.func30,Tryz.ntmps30;go_wp2_with fail;generalize (w.alloc (.cells nz2 37))=W0 at *;refine Zd (ref3_whole n hn.out.1 hn.out.2.1) ?_;rintro e u1 ⟨⟨b1,C1,rfl,oN,loN,hiN⟩,hb1⟩;have hw1:=hW.trans (hb1.mono hz);have hz1:=hw1.size;have p4:=o4.below hb1;have l1:=Zl o4.lt loN;clear hb1 o4;go_wp2_with fail;refine Zd (ref3_whole 1 aO aO) ?_;rintro e u2 ⟨⟨b2,C2,rfl,oM,loM,hiM⟩,hb2⟩;have hwu:=hw1.trans (hb2.mono hz1);have q4:=p4.below hb2;have l2:=Zl p4.lt loM;have l3:=hb2.size;have HN:=Zh (Zi (oN.below hb2) oM);have q4c:=q4.cell;have q4f:=q4.thaw;obtain ⟨A7,n7,c7,hs7⟩:=slC_form n b1 C1;obtain ⟨A8,n8,c8,hs8⟩:=slC_form 1 b2 C2;simp only [numC];rw [hs7,hs8];have HSL:=Zh (Zi hs7 hs8);clear hs7 hs8 oN oM hb2 p4;go_wp2;refine retC (b:=w.heap.size) (v:= .agg #[.bool (sgnN n),.slice A7 n7 c7,.bool (sgnN 1),.slice A8 n8 c8]) (((((q4.set 0 (.bool (sgnN n))).set 1 (.slice A7 n7 c7)).set 2 (.bool (sgnN 1))).set 3 (.slice A8 n8 c8))) (fun w' hw'=>by simp [results,Tryz.results30,go_sem,hw']) rfl ⟨⟨b1,C1,b2,C2,by rw [ratC,HSL.out.1,HSL.out.2],((((HN.out.1).far aT _).far aT _).far aT _).far aT _,((((HN.out.2).far aT _).far aT _).far aT _).far aT _,aO,aT,aO,aT⟩,((((hwu.setCell aS _).setCell aS _).setCell aS _).setCell aS _)⟩
end Go.Proofs.YtflgngjocgiojaaGreat
namespace Go.Proofs.YtflgngjocgiojaaGreat
def crN (a:Nat) (O:Nat->Nat->Int) (cs:Nat->Nat) (j k:Nat):Int:=-gamC a (fun c x=>O x (cs c)) id (fun x=>O x j) k
def crD (a:Nat) (O:Nat->Nat->Int) (cs:Nat->Nat):Int:=minD a (fun c x=>O x (cs c)) id
theorem cr_row {a:Nat} {O:Nat->Nat->Int} {cs:Nat->Nat} {j x:Nat} (hx:x<a):sumF (fun k=>crN a O cs j k*O x (cs k)) a=crD a O cs*O x j:=by
 have h1:=minV_exp a (fun c x=>O x (cs c)) id (fun x=>O x j) x;rw [show minV a (fun c x=>O x (cs c)) id (fun x=>O x j) x=0 from minV_zero (cs:=id) (t:=x) hx] at h1;have h2:sumF (fun k=>crN a O cs j k*O x (cs k)) a=-sumF (fun k=>gamC a (fun c x=>O x (cs c)) id (fun x=>O x j) k*O x (cs k)) a:=by
  rw [<- sumF_neg];exact sumF_eq fun c _=>by unfold crN; grind
 rw [h2];unfold crD;omega
theorem crD_ne {a:Nat} {O:Nat->Nat->Int} {cs:Nat->Nat} (hd:∀ t,t<=a->minD t O cs≠0):∀ t,t<=a->crD t O cs≠0:=
 fun t ht=>transp_ne (O:=fun x c=>O x (cs c)) (f:=a) hd t ht
theorem cr_last {a:Nat} {O:Nat->Nat->Int} {cs:Nat->Nat} {j:Nat}:crN (a+1) O cs j a*minV a O cs (O a) (cs a)=crD (a+1) O cs*minV a O cs (O a) j:=by
 have e1:∀ y,minV a O cs (O a) y=minD a O cs*O a y+sumF (fun i=>gamC a O cs (O a) i*O i y) a:=fun y=>minV_exp a O cs (O a) y
 have h1:sumF (fun k=>crN (a+1) O cs j k*minV a O cs (O a) (cs k)) (a+1)=minD a O cs*sumF (fun k=>crN (a+1) O cs j k*O a (cs k)) (a+1)+sumF (fun k=>sumF (fun i=>gamC a O cs (O a) i*(crN (a+1) O cs j k*O i (cs k))) a) (a+1):=by
  rw [<- sumF_mul,<- sumF_add];refine sumF_eq fun k _=>?_
  rw [e1 (cs k),Int.mul_add,<- sumF_mul];congr 1
  ·grind
  ·exact sumF_eq fun i _=>by grind
 rw [cr_row aO,sumF_swap] at h1;have h2:sumF (fun i=>sumF (fun k=>gamC a O cs (O a) i*(crN (a+1) O cs j k*O i (cs k))) (a+1)) a=sumF (fun i=>crD (a+1) O cs*(gamC a O cs (O a) i*O i j)) a:=sumF_eq fun i hi=>by
  rw [sumF_mul,cr_row aO];grind
 rw [h2,sumF_mul,sumF,sumF_zero (fun k hk=>by rw [minV_zero hk,Int.mul_zero])] at h1;rw [e1 j];grind
theorem cr_step {a:Nat} {O:Nat->Nat->Int} {cs:Nat->Nat} (hd:∀ t,t<=a+1->minD t O cs≠0) (j:Nat) {k:Nat} (hk:k<a) :
 (crN a O cs j k*minV a O cs (O a) (cs a) - minV a O cs (O a) j*crN a O cs (cs a) k)*crD (a+1) O cs=crN (a+1) O cs j k*(crD a O cs*minV a O cs (O a) (cs a)):=by
 obtain ⟨u,hu⟩:=Zx (minV a O cs (O a) j);obtain ⟨v,hv⟩:=Zx (minV a O cs (O a) (cs a));have hl:=cr_last (a:=a) (O:=O) (cs:=cs) (j:=j);rw [hu,hv] at hl ⊢;have hz:=indep (O:=fun c x=>O x (cs c)) (cs:=id) (a:=a) (fun t ht=>crD_ne (a:=a) (fun t ht=>hd t aO) t ht)
  (fun k=>(crN a O cs j k*v - u*crN a O cs (cs a) k)*crD (a+1) O cs - crN (a+1) O cs j k*(crD a O cs*v)) (fun x hx=>by
   have h1:=cr_row (a:=a) (O:=O) (cs:=cs) (j:=j) hx;have h2:=cr_row (a:=a) (O:=O) (cs:=cs) (j:=cs a) hx;have h3:=cr_row (a:=a+1) (O:=O) (cs:=cs) (j:=j) (show x<a+1 by omega);rw [sumF] at h3;have e:sumF (fun k=>((crN a O cs j k*v - u*crN a O cs (cs a) k)*crD (a+1) O cs - crN (a+1) O cs j k*(crD a O cs*v))*O x (cs k)) a =
    (v*crD (a+1) O cs)*sumF (fun k=>crN a O cs j k*O x (cs k)) a+((-(u*crD (a+1) O cs))*sumF (fun k=>crN a O cs (cs a) k*O x (cs k)) a+(-(crD a O cs*v))*sumF (fun k=>crN (a+1) O cs j k*O x (cs k)) a):=by
    rw [<- sumF_mul,<- sumF_mul,<- sumF_mul,<- sumF_add,<- sumF_add];exact sumF_eq fun k _=>by grind
   show sumF (fun k=>((crN a O cs j k*v - u*crN a O cs (cs a) k)*crD (a+1) O cs - crN (a+1) O cs j k*(crD a O cs*v))*O x (cs k)) a=0;rw [e,h1,h2];obtain ⟨S,hS⟩:=Zx (sumF (fun k=>crN (a+1) O cs j k*O x (cs k)) a);rw [hS] at h3 ⊢;have h4:S=crD (a+1) O cs*O x j - crN (a+1) O cs j a*O x (cs a):=aO
   rw [h4];grind) k hk
 exact Int.sub_eq_zero.1 hz
theorem crN_abs {a:Nat} {O:Nat->Nat->Int} {cs:Nat->Nat} {j k B:Nat} (hO:∀ x,x<a->∀ c,c<a->(O x (cs c)).natAbs<=B) (hj:∀ x,x<a->(O x j).natAbs<=B):(crN a O cs j k).natAbs<=fac a*B^a:=by
 unfold crN;rw [Int.natAbs_neg];exact gamC_abs (fun i hi b hb=>hO b hb i hi) (fun b hb=>hj b hb)
theorem crD_abs {a:Nat} {O:Nat->Nat->Int} {cs:Nat->Nat} {B:Nat} (hO:∀ x,x<a->∀ c,c<a->(O x (cs c)).natAbs<=B):(crD a O cs).natAbs<=fac a*B^a:=
 minD_abs fun i hi b hb=>hO b hb i hi
abbrev MQ:=Nat->Nat->QI
def swpQ (Q:MQ) (a p:Nat):MQ:=fun i=>if i=p then Q a else if i=a then Q p else Q i
def sclQ (Q:MQ) (a c:Nat):MQ:=fun i j=>if i=a then divQ (Q a j) (Q a c) else Q i j
def elmQ (Q:MQ) (a c k:Nat):MQ:=fun i j=>if i<k/\i≠a then subQ (Q i j) (mulQ (Q a j) (Q i c)) else Q i j
def findQ (Q:MQ) (c:Nat):Nat->Nat->Option Nat
 | 0,_=>none
 | f+1,p=>if (Q p c).1≠0 then some p else findQ Q c f (p+1)
theorem findQ_skip {Q:MQ} {c:Nat}:∀ (d f p:Nat),(∀ q,p<=q->q<p+d->(Q q c).1=0)->findQ Q c (f+d) p=findQ Q c f (p+d)
 | 0,f,p,_=>rfl
 | d+1,f,p,h=>by
  rw [<- Nat.add_assoc,findQ,if_neg (by rw [h p (Zr _) aO]; simp),findQ_skip d f (p+1) (fun q h1 h2=>h q aO aO)];congr 1;omega
theorem findQ_none {Q:MQ} {c a n:Nat} (h:∀ q,a<=q->q<n->(Q q c).1=0):findQ Q c (n - a) a=none:=by
 have:=findQ_skip (Q:=Q) (c:=c) (n - a) 0 a (fun q h1 h2=>h q h1 aO);rw [Nat.zero_add] at this;rw [this]; rfl
theorem findQ_some {Q:MQ} {c a n p:Nat} (h:∀ q,a<=q->q<p->(Q q c).1=0) (h1:a<=p) (h2:p<n) (h3:(Q p c).1≠0):findQ Q c (n - a) a=some p:=by
 have:=findQ_skip (Q:=Q) (c:=c) (p - a) (n - p) a (fun q h4 h5=>h q h4 aO);rw [show n - p+(p - a)=n - a by omega,show a+(p - a)=p by omega] at this;rw [this,show n - p=(n - p - 1)+1 by omega,findQ,if_pos h3]
theorem findQ_eq {Q:MQ} {L:List (List Int)} {c:Nat}:∀ (f p:Nat),(∀ i,p<=i->i<p+f->((Q i c).1=0↔zAt (rAt L i) c=0))->findQ Q c f p=findP L c f p
 | 0,_,_=>rfl
 | f+1,p,h=>by
  have h1:=h p (Zr _) aO;rw [findQ,findP]
  by_cases e:zAt (rAt L p) c=0
  ·rw [if_neg (by rw [h1.2 e]; simp),if_neg (by rw [e]; simp)];exact findQ_eq f (p+1) (fun i h2 h3=>h i aO aO)
  ·rw [if_pos (fun h2=>e (h1.1 h2)),if_pos e]
theorem findQ_spec {Q:MQ} {c:Nat}:∀ (f p q:Nat),findQ Q c f p=some q->p<=q/\q<p+f/\(Q q c).1≠0
 | 0,_,_,h=>by cases h
 | f+1,p,q,h=>by
  rw [findQ] at h;split at h
  ·rename_i h1
   cases h;exact ⟨Zr _,aO,h1⟩
  ·have:=findQ_spec f (p+1) q h;exact ⟨aO,aO,this.2.2⟩
structure RS where
 Q:MQ
 l:List Nat
def stepR (n:Nat) (s:RS) (c:Nat):RS:=
 match findQ s.Q c (n - s.l.length) s.l.length with
 | none=>s
 | some p=>⟨elmQ (sclQ (swpQ s.Q s.l.length p) s.l.length c) s.l.length c n,s.l++[c]⟩
def runR (n:Nat) (Q:MQ):Nat->RS
 | 0=>⟨Q,[]⟩
 | c+1=>stepR n (runR n Q c) c
theorem stepR_none {n:Nat} {s:RS} {c:Nat} (h:findQ s.Q c (n - s.l.length) s.l.length=none):stepR n s c=s:=by unfold stepR; rw [h]
theorem stepR_some {n:Nat} {s:RS} {c p:Nat} (h:findQ s.Q c (n - s.l.length) s.l.length=some p) :
 stepR n s c=⟨elmQ (sclQ (swpQ s.Q s.l.length p) s.l.length c) s.l.length c n,s.l++[c]⟩:=by unfold stepR; rw [h]
theorem runR_len (n:Nat) (Q:MQ):∀ c,(runR n Q c).l.length<=n/\(runR n Q c).l.length<=c
 | 0=>⟨Nat.zero_le _,Nat.zero_le _⟩
 | c+1=>by
  have ih:=runR_len n Q c;rw [runR];cases h:findQ (runR n Q c).Q c (n - (runR n Q c).l.length) (runR n Q c).l.length with
  | none=>rw [stepR_none h]; omega
  | some p =>
   rw [stepR_some h,List.length_append];have:=findQ_spec _ _ _ h;simp only [List.length_cons,List.length_nil];omega
theorem runR_lt (n:Nat) (Q:MQ):∀ c,∀ t∈(runR n Q c).l,t<c
 | 0=>fun t h=>by cases h
 | c+1=>by
  have ih:=runR_lt n Q c;rw [runR];cases h:findQ (runR n Q c).Q c (n - (runR n Q c).l.length) (runR n Q c).l.length with
  | none=>rw [stepR_none h]; exact fun t ht=>Nat.lt_succ_of_lt (ih t ht)
  | some p =>
   rw [stepR_some h];intro t ht;rcases List.mem_append.1 ht with h1 | h1
   ·exact Nat.lt_succ_of_lt (ih t h1)
   ·rw [List.mem_singleton.1 h1]; exact Nat.lt_succ_self c
def GoodM (n wd:Nat) (Q:MQ):Prop:=∀ i,i<n->∀ j,j<wd->SmQ (Q i j)
structure FineT (n wd:Nat) (s:RS) (c:Nat):Prop where
 old:GoodM n wd s.Q
 scl:∀ p,findQ s.Q c (n - s.l.length) s.l.length=some p->GoodM n wd (sclQ (swpQ s.Q s.l.length p) s.l.length c)
 mul:∀ p,findQ s.Q c (n - s.l.length) s.l.length=some p->∀ i,i<n->i≠s.l.length->∀ j,j<wd->SmQ (mulQ (sclQ (swpQ s.Q s.l.length p) s.l.length c s.l.length j) (sclQ (swpQ s.Q s.l.length p) s.l.length c i c))
 new:GoodM n wd (stepR n s c).Q
def FineR (n wd k:Nat) (Q:MQ):Prop:=GoodM n wd Q/\∀ c,c<k->FineT n wd (runR n Q c) c
section
variable {a b c d:Int}
theorem div_toQ2 (hb:b≠0) (hc:c≠0) (hd:d≠0):divQ (toQ a b) (toQ c d)=toQ (a*d) (b*c):=by
 have e1:=(of_spec a hb).2.1;have e2:=(of_spec c hd).2.1;have hn:ofN c d≠0:=fun e=>by
  rw [e,Int.zero_mul] at e2;rcases Int.mul_eq_zero.1 e2.symm with h | h
  ·exact hc h
  ·exact ofD_ne c hd h
 refine toQ_eq (Int.mul_ne_zero (ofD_ne a hb) hn) (Int.mul_ne_zero hb hc) ?_;show ofN a b*ofD c d*(b*c)=a*d*(ofD a b*ofN c d);have h1:(ofN a b*b)*(c*ofD c d)=(a*ofD a b)*(c*ofD c d):=by rw [e1]
 have h2:(a*ofD a b)*(ofN c d*d)=(a*ofD a b)*(c*ofD c d):=by rw [e2]
 grind
theorem toQ_zero (hb:b≠0):(toQ a b).1=0↔a=0:=by
 have e1:=(of_spec a hb).2.1;show ofN a b=0↔a=0;constructor
 ·intro h;rw [h,Int.zero_mul] at e1;rcases Int.mul_eq_zero.1 e1.symm with h | h
  ·exact h
  ·exact absurd h (ofD_ne a hb)
 ·intro h;subst h;rw [Int.zero_mul] at e1;rcases Int.mul_eq_zero.1 e1 with h | h
  ·exact h
  ·exact absurd h hb
end
theorem rAt_swpN {L:List (List Int)} {a p i:Nat} (hi:a<L.length) (hp:p<L.length):rAt (swapL L a p) i=rAt L (swpN a p i):=by
 rw [rAt_swap hi hp];unfold swpN
 by_cases e1:i=p
 ·by_cases e2:i=a
  ·rw [if_pos e1,if_pos e2,<- e1,e2]
  ·rw [if_pos e1,if_neg e2,if_pos e1]
 ·by_cases e2:i=a
  ·rw [if_neg e1,if_pos e2,if_pos e2]
  ·rw [if_neg e1,if_neg e2,if_neg e2,if_neg e1]
theorem swpQ_eq (Q:MQ) (a p i:Nat):swpQ Q a p i=Q (swpN a p i):=by
 unfold swpQ swpN
 by_cases e1:i=p
 ·by_cases e2:i=a
  ·rw [if_pos e1,if_pos e2,<- e1,e2]
  ·rw [if_pos e1,if_neg e2,if_pos e1]
 ·by_cases e2:i=a
  ·rw [if_neg e1,if_pos e2,if_pos e2]
  ·rw [if_neg e1,if_neg e2,if_neg e2,if_neg e1]
structure RInv (L0:List (List Int)) (wd:Nat) (s:BS) (t:RS) (π cs:Nat->Nat):Prop where
 len:t.l=(List.range s.a).map cs
 top:∀ i,i<s.a->∀ j,j<wd->t.Q i j=toQ (crN s.a (fun i=>rowF L0 (π i)) cs j i) (crD s.a (fun i=>rowF L0 (π i)) cs)
 low:∀ i,s.a<=i->i<L0.length->∀ j,j<wd->t.Q i j=toQ (zAt (rAt s.L i) j) s.b
theorem RInv.start {L0:List (List Int)} {wd:Nat} {Q:MQ} (h:∀ i,i<L0.length->∀ j,j<wd->Q i j=(zAt (rAt L0 i) j,1)):RInv L0 wd ⟨L0,1,0⟩ ⟨Q,[]⟩ id id where
 len:=rfl
 top i h:=absurd h (Nat.not_lt_zero i)
 low i _ h1 j h2:=(h i h1 j h2).trans (toQ_one _).symm
theorem crN_eq {a:Nat} {O O':Nat->Nat->Int} {cs cs':Nat->Nat} {j k:Nat} (h1:∀ i,i<a->O i=O' i) (h2:∀ b,b<a->cs b=cs' b):crN a O cs j k=crN a O' cs' j k:=by
 unfold crN gamC;congr 2;refine det_eq fun x b hx hb=>?_
 split
 ·rename_i h
  show O b (cs (skip k x))=O' b (cs' (skip k x));rw [h2 _ h,h1 b hb]
 ·show O b j=O' b j;rw [h1 b hb]
theorem crD_eq {a:Nat} {O O':Nat->Nat->Int} {cs cs':Nat->Nat} (h1:∀ i,i<a->O i=O' i) (h2:∀ b,b<a->cs b=cs' b):crD a O cs=crD a O' cs':=by
 unfold crD minD;refine det_eq fun x b hx hb=>?_
 simp only [id,h1 b hb,h2 x hx]
theorem RInv.find {L0:List (List Int)} {wd:Nat} {s:BS} {t:RS} {c:Nat} {π cs:Nat->Nat} (hI:InvB L0 wd s c π cs) (h:RInv L0 wd s t π cs) (hc:c<wd):findQ t.Q c (L0.length - t.l.length) t.l.length=findP s.L c (s.L.length - s.a) s.a/\t.l.length=s.a:=by
 have hl:t.l.length=s.a:=by rw [h.len]; simp
 have hb:s.b≠0:=by rw [hI.b_eq]; exact hI.nz _ (Zr _)
 rw [hl,hI.len];exact ⟨findQ_eq _ _ fun i h1 h2=>by rw [h.low i h1 (by have:=hI.a_le; omega) c hc]; exact toQ_zero hb,rfl⟩
theorem RInv.none_ {L0:List (List Int)} {wd:Nat} {s:BS} {t:RS} {c:Nat} {π cs:Nat->Nat} (hI:InvB L0 wd s c π cs) (h:RInv L0 wd s t π cs) (hc:c<wd) (hf:findP s.L c (s.L.length - s.a) s.a=none):stepR L0.length t c=t:=
 stepR_none ((RInv.find hI h hc).1.trans hf)
theorem RInv.step {L0:List (List Int)} {wd:Nat} {s:BS} {t:RS} {c p:Nat} {π cs:Nat->Nat} (hw:Wide L0 wd) (hws:Wide s.L wd) (hI:InvB L0 wd s c π cs) (h:RInv L0 wd s t π cs) (hc:c<wd) (hf:findP s.L c (s.L.length - s.a) s.a=some p) :
 RInv L0 wd (stepB s c) (stepR L0.length t c) (fun i=>π (swpN s.a p i)) (fun t=>if t=s.a then c else cs t):=by
 have I':=hI.stepS hw hws hc hf;obtain ⟨hq,hl⟩:=h.find hI hc;have hb:s.b≠0:=by rw [hI.b_eq]; exact hI.nz _ (Zr _)
 rw [stepR_some (hq.trans hf),hl];obtain ⟨hp1,hp2,hp3⟩:=findP_spec _ _ _ hf;have hsn:=hI.len;have hale:=hI.a_le;have haN:s.a<L0.length:=aO
 have hpN:p<L0.length:=aO
 have hn:∀ i,i<s.a->swpN s.a p i=i:=fun i hi=>by unfold swpN; rw [if_neg aO,if_neg aO]
 have hna:swpN s.a p s.a=p:=if_pos rfl;have hn2:∀ i,s.a<=i->i<L0.length->s.a<=swpN s.a p i/\swpN s.a p i<L0.length:=fun i h1 h2=>by
  unfold swpN;split
  ·omega
  ·split <;> omega
 have hO:∀ i,i<s.a->rowF L0 (π i)=rowF L0 (π (swpN s.a p i)):=fun i hi=>by rw [hn i hi]
 have hcs:∀ b,b<s.a->cs b=if b=s.a then c else cs b:=fun b hb=>(if_neg aO).symm
 have ha':(stepB s c).a=s.a+1:=by rw [stepB_some hf]
 have hrow:∀ i,i<=s.a->i<L0.length->rAt (stepB s c).L i=rAt s.L (swpN s.a p i):=fun i h1 h2=>by
  rw [stepB_some hf];show rAt (elimL _ _ _ _ _) i=_;rw [rAt_elim (by rw [swapL_len]; omega),if_neg aO,rAt_swpN aO aO]
 have hv:(stepB s c).b=zAt (rAt s.L p) c:=by
  rw [stepB_some hf];show zAt (rAt (swapL s.L s.a p) s.a) c=_;rw [rAt_swpN aO aO,hna]
 have hU:∀ j,j<wd->zAt (rAt s.L p) j=minV s.a (fun i=>rowF L0 (π (swpN s.a p i))) (fun t=>if t=s.a then c else cs t) (rowF L0 (π (swpN s.a p s.a))) j:=fun j hj=>by
  have h1:=I'.high s.a aO j hj;rw [hrow s.a (Zr _) haN,hna] at h1;rw [h1,hna]
 have hscl:∀ j,j<wd->sclQ (swpQ t.Q s.a p) s.a c s.a j=toQ (zAt (rAt s.L p) j) (zAt (rAt s.L p) c):=fun j hj=>by
  show (if s.a=s.a then divQ (swpQ t.Q s.a p s.a j) (swpQ t.Q s.a p s.a c) else _)=_;rw [if_pos rfl,swpQ_eq,hna,h.low p hp1 hpN j hj,h.low p hp1 hpN c hc,div_toQ2 hb hp3 hb];exact toQ_eq (Int.mul_ne_zero hb hp3) hp3 (by grind)
 have hold:∀ i,i≠s.a->∀ j,sclQ (swpQ t.Q s.a p) s.a c i j=t.Q (swpN s.a p i) j:=fun i hi j=>by
  show (if i=s.a then _ else swpQ t.Q s.a p i j)=_;rw [if_neg hi,swpQ_eq]
 have hnz:=crD_ne (a:=s.a+1) (O:=fun i=>rowF L0 (π (swpN s.a p i))) (cs:=fun t=>if t=s.a then c else cs t) (fun t ht=>I'.nz t (by rw [ha']; exact ht));refine ⟨?_,fun i hi j hj=>?_,fun i h1 h2 j hj=>?_⟩
 ·rw [h.len,ha',List.range_succ,List.map_append];simp only [List.map_cons,List.map_nil,if_true];congr 1;exact List.map_congr_left fun b hb=>hcs b (List.mem_range.1 hb)
 ·rw [ha'] at hi ⊢;show elmQ _ _ _ _ i j=_;unfold elmQ
  by_cases e:i=s.a
  ·subst e;rw [if_neg aO,hscl j hj];refine toQ_eq hp3 (hnz _ (Zr _)) ?_;have h3:=cr_last (a:=s.a) (O:=fun i=>rowF L0 (π (swpN s.a p i))) (cs:=fun t=>if t=s.a then c else cs t) (j:=j);simp only [if_true] at h3;rw [<- hU j hj,<- hU c hc] at h3;rw [Int.mul_comm];exact h3.symm
  ·rw [if_pos ⟨aO,e⟩,hscl j hj,hold i e,hold i e,hn i aO,h.top i aO j hj,h.top i aO c hc];rw [crN_eq (j:=j) hO hcs,crN_eq (j:=c) hO hcs,crD_eq hO hcs];have hD:=hnz s.a aO;rw [mul_toQ hp3 hD,sub_toQ hD (Int.mul_ne_zero hp3 hD)];refine toQ_eq (Int.mul_ne_zero hD (Int.mul_ne_zero hp3 hD)) (hnz _ (Zr _)) ?_;have h3:=cr_step (a:=s.a) (O:=fun i=>rowF L0 (π (swpN s.a p i))) (cs:=fun t=>if t=s.a then c else cs t) (fun t ht=>I'.nz t (by rw [ha']; exact ht)) j (k:=i) aO;simp only [if_true] at h3;rw [<- hU j hj,<- hU c hc] at h3;generalize crN s.a (fun i=>rowF L0 (π (swpN s.a p i))) (fun t=>if t=s.a then c else cs t) j i=X1 at *;generalize crN s.a (fun i=>rowF L0 (π (swpN s.a p i))) (fun t=>if t=s.a then c else cs t) c i=X2 at *;generalize crD s.a (fun i=>rowF L0 (π (swpN s.a p i))) (fun t=>if t=s.a then c else cs t)=X3 at *;generalize crD (s.a+1) (fun i=>rowF L0 (π (swpN s.a p i))) (fun t=>if t=s.a then c else cs t)=X4 at *;generalize crN (s.a+1) (fun i=>rowF L0 (π (swpN s.a p i))) (fun t=>if t=s.a then c else cs t) j i=X5 at *;grind
 ·rw [ha'] at h1;show elmQ _ _ _ _ i j=_;unfold elmQ;have e:i≠s.a:=aO
  obtain ⟨k1,k2⟩:=hn2 i aO h2;have hr:∀ j,j<wd->zAt (rAt s.L (swpN s.a p i)) j=minV s.a (fun i=>rowF L0 (π (swpN s.a p i))) (fun t=>if t=s.a then c else cs t) (rowF L0 (π (swpN s.a p i))) j:=fun j hj =>
   (hI.low _ k1 k2 j hj).trans (minV_eq hO hcs)
  rw [if_pos ⟨h2,e⟩,hscl j hj,hold i e,hold i e,h.low _ k1 k2 j hj,h.low _ k1 k2 c hc,mul_toQ hp3 hb,sub_toQ hb (Int.mul_ne_zero hp3 hb),hv];refine toQ_eq (Int.mul_ne_zero hb (Int.mul_ne_zero hp3 hb)) hp3 ?_;have h3:=bareiss (O:=fun i=>rowF L0 (π (swpN s.a p i))) (cs:=fun t=>if t=s.a then c else cs t) (a:=s.a) (fun t ht=>I'.nz t (by rw [ha']; exact ht)) (rowF L0 (π (swpN s.a p i))) j;have h4:=I'.low i (by rw [ha']; omega) h2 j hj;have h5:=I'.b_eq;have h6:s.b=minD s.a (fun i=>rowF L0 (π (swpN s.a p i))) (fun t=>if t=s.a then c else cs t):=hI.b_eq.trans (minD_eq hO hcs);rw [ha'] at h4 h5;simp only [if_true] at h3;rw [<- h4,<- h5,<- h6,hv,<- hr j hj,<- hr c hc,<- hU j hj] at h3;generalize zAt (rAt (stepB s c).L i) j=X1 at *;grind
theorem RInv.run {L0:List (List Int)} {wd:Nat} {Q:MQ} (hw:Wide L0 wd) (h:∀ i,i<L0.length->∀ j,j<wd->Q i j=(zAt (rAt L0 i) j,1)):∀ c,c<=wd->∃ π cs,InvB L0 wd (runB ⟨L0,1,0⟩ c) c π cs/\RInv L0 wd (runB ⟨L0,1,0⟩ c) (runR L0.length Q c) π cs
 | 0,_=>⟨id,id,InvB.start L0 wd,RInv.start h⟩
 | c+1,hc=>by
  obtain ⟨π,cs,hI,hR⟩:=RInv.run hw h c aO;rw [runB,runR];cases hf:findP (runB ⟨L0,1,0⟩ c).L c ((runB ⟨L0,1,0⟩ c).L.length - (runB ⟨L0,1,0⟩ c).a) (runB ⟨L0,1,0⟩ c).a with
  | none =>
   rw [RInv.none_ hI hR aO hf,stepB_none hf];refine ⟨π,cs,?_,hR⟩;have hz:=findP_zero _ _ hf;refine ⟨hI.perm,hI.inj,hI.sur,hI.len,hI.a_le,fun t ht=>Nat.lt_succ_of_lt (hI.col t ht),hI.inc,hI.low,hI.high,hI.b_eq,hI.nz,fun i h1 h2 c' h3=>?_⟩
   by_cases e:c'=c
   ·subst e; exact hz i h1 (by rw [hI.len]; have:=hI.a_le; omega)
   ·exact hI.zero i h1 h2 c' aO
  | some p=>exact ⟨_,_,hI.stepS hw (runB_wide hw c) aO hf,hR.step hw (runB_wide hw c) hI aO hf⟩
end Go.Proofs.YtflgngjocgiojaaGreat
