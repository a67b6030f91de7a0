import Derived.Test.YtflolbnnkbdmfaaGreatFull
set_option linter.all false
namespace Go.Proofs.YtflolbnnkbdmfaaGreat
open Go.RowKit
set_option maxHeartbeats 8000000
set_option maxRecDepth 100000
def rollN:Nat->V3->V3
 | 0,v=>v
 | k+1,v=>⟨(rollN k v).z,(rollN k v).x,(rollN k v).y⟩
theorem roll_N {t:Nat} (ht:t<3) (v:V3):roll (t:Int) v=rollN t v:=by
 match t,ht with
 | 0,_=>rfl
 | 1,_=>rfl
 | 2,_=>rfl
theorem ref20_rolled (v:V3) (t:Nat) (ht:t<3) (w:World):Calls Tryz.prog 87 #[v.v,.int .i64 t] w fun e w'=>e = .returned (roll (t:Int) v).v/\Below w.heap.size w w':=by
 obtain ⟨x,y,z⟩:=v;rw [roll_N ht];obtain ⟨u,hu⟩:=Zx (rollN t ⟨x,y,z⟩);rw [hu];have HU:=Zh hu;clear hu;have ho1:Own ((w.alloc (.cells #[.int .i64 x,.int .i64 y,.int .i64 z] 44)).alloc (.cells nv3 44)) w.heap.size #[.int .i64 x,.int .i64 y,.int .i64 z]:=aOwn;have ho2:Own ((w.alloc (.cells #[.int .i64 x,.int .i64 y,.int .i64 z] 44)).alloc (.cells nv3 44)) (w.heap.size+1) nv3:=aOwn;have hw0:Below w.heap.size w ((w.alloc (.cells #[.int .i64 x,.int .i64 y,.int .i64 z] 44)).alloc (.cells nv3 44)):=aBel;have HO1:=Zh ho1;have HO2:=Zh ho2;have HW0:=Zh hw0;clear ho1 ho2 hw0;go_enter Tryz.func87,Tryz.ntmps87;go_wp2;go_loopw [5] (fun i wr=>∃ k:Nat,k<=t/\i = .int .i64 k/\Below w.heap.size w wr/\Own wr w.heap.size #[.int .i64 (rollN k ⟨x,y,z⟩).x,.int .i64 (rollN k ⟨x,y,z⟩).y,.int .i64 (rollN k ⟨x,y,z⟩).z]/\Own wr (w.heap.size+1) nv3) (fun i _=>t - (intOf i).toNat)
 case atStart=>exact ⟨0,aO,rfl,HW0.out,HO1.out,HO2.out⟩
 case round =>
  clear HW0 HO1 HO2;obtain ⟨k,hk,rfl,hw,ho1,ho2⟩:=hrel;have c1:=ho1.cell;have f1:=ho1.thaw;have c2:=ho2.cell;have f2:=ho2.thaw
  by_cases hlt:k<t
  ·have hlti:(k:Int)<(t:Int):=aO
   obtain ⟨x1,hx1⟩:=Zx ((rollN k ⟨x,y,z⟩).x);obtain ⟨y1,hy1⟩:=Zx ((rollN k ⟨x,y,z⟩).y);obtain ⟨zz,hz1⟩:=Zx ((rollN k ⟨x,y,z⟩).z);rw [hx1,hy1,hz1] at ho1 c1;have hr:rollN (k+1) ⟨x,y,z⟩=⟨zz,x1,y1⟩:=by rw [<- hx1,<- hy1,<- hz1]; rfl
   have HR:=Zh hr;clear hx1 hy1 hz1 hr;go_wp2;go_roundw
   case rel=>exact ⟨k+1,aO,by go_num,((hw.setCell (Zr _) _).setCell (Zr _) _).setCell (Zr _) _,by rw [HR.out]; exact ((ho1.set 0 _).set 1 _).set 2 _,((ho2.far aS _).far aS _).far aS _⟩
   case measure=>simp [intOf]; omega
  ·obtain rfl:k=t:=aO
   rw [HU.out] at ho1 c1;go_wp2;refine retC (b:=w.heap.size+1) (v:=u.v) (((ho2.set 0 (.int .i64 u.x)).set 1 (.int .i64 u.y)).set 2 (.int .i64 u.z)) (fun w' hw'=>by simp [results,Tryz.results87,go_sem,hw']) rfl ⟨rfl,((hw.setCell aS _).setCell aS _).setCell aS _⟩
def ownL (v:Value):List Nat:=v.ownBlock.toList
theorem mem_ownL {v:Value} {b:Nat}:b∈ownL v↔v.ownBlock=some b:=by unfold ownL; simp
theorem keeps_grown {T:List Nat} {w u v:World} {row:Option Nat} (h:Keeps T w u) (hg:u.grownBy v row) (hr:∀ r,row=some r->r∈T\/w.heap.size<=r):Keeps T w v:=
 ⟨Zm h.1 hg.size,fun b hb hT=>(hg.block b (Zl hb h.1) (fun e=>by
  rcases hr b e.symm with h1 | h1
  ·exact hT h1
  ·omega)).trans (h.2 b hb hT)⟩
theorem Upd.more {T T':List Nat} {w w':World} (h:Upd T w w') (hs:∀ b,b∈T->b∈T'):Upd T' w w':=⟨h.os,h.tape,h.output,h.size,fun b hb hT=>h.block b hb fun h2=>hT (hs b h2)⟩
theorem drawDrop {u:World} {bd:Nat} {l:List Int} {k:Nat} (h:DrawAt u bd (l.drop k).tail):DrawAt u bd (l.drop (k+1)):=by
 rw [List.tail_drop] at h; exact h
def encL (l:Loc):List Value:=[.int .i64 l.p.x,.int .i64 l.p.y,.int .i64 l.p.z,.int .i64 l.n.x,.int .i64 l.n.y,.int .i64 l.n.z,.int .i64 l.lo,.int .i64 l.hi]
def encLs (L:List Loc):List Value:=L.flatMap encL
theorem encLs_snoc (L:List Loc) (l:Loc):encLs L++encL l=encLs (L++[l]):=by unfold encLs; simp
theorem encLs_len (L:List Loc):(encLs L).length=L.length*8:=by
 induction L with
 | nil=>rfl
 | cons l ls ih=>unfold encLs at ih ⊢; rw [List.flatMap_cons,List.length_append,ih]; simp [encL]; omega
theorem encLs_one (L:List Loc):∀ u∈encLs L,u.oneCell'=true:=fun u hu=>by
 unfold encLs at hu;obtain ⟨l,_,h⟩:=List.mem_flatMap.1 hu;simp [encL] at h;rcases h with rfl | rfl | rfl | rfl | rfl | rfl | rfl | rfl <;> rfl
theorem encLs_at {L:List Loc} {k j:Nat} (hk:k<L.length) (hj:j<8):(encLs L)[k*8+j]?=(encL (lAt L k))[j]?:=by
 induction L generalizing k with
 | nil=>simp at hk
 | cons l ls ih =>
  have e:encLs (l::ls)=encL l++encLs ls:=by unfold encLs; simp
  have hl:(encL l).length=8:=rfl;rw [e];cases k with
  | zero=>rw [List.getElem?_append_left aO]; simp [lAt]
  | succ k =>
   rw [List.getElem?_append_right aO,hl,show (k+1)*8+j - 8=k*8+j by omega,ih (by simp at hk; omega)];simp [lAt]
theorem locs_of_row {w:World} {base:Nat} {v:Value} {n:Nat} {L:List Loc} (h:w.ownsRow base 69 8 v n (encLs L)) (hn:L.length=n) (hI:∀ i,i<n->(lAt L i).I) :
 ∃ A c,v = .slice A n c/\n<=c/\c<=9223372036854775807/\LocsAt w A n L/\(0<n->∃ g,A=some ⟨g,0,none⟩/\base<=g/\g<w.heap.size):=by
 rcases h.2 with ⟨rfl,h0⟩ | ⟨g,cap,cur,rfl,h1,h2,h3,h4,h5,h6⟩
 ·subst h0;exact ⟨none,0,rfl,Zr _,aO,⟨hn,hI,fun h=>absurd h (Nat.lt_irrefl 0)⟩,fun h=>absurd h (Nat.lt_irrefl 0)⟩
 ·have hg:g<w.heap.size:=by
   rcases Nat.lt_or_ge g w.heap.size with h | h
   ·exact h
   ·rw [Array.getElem?_eq_none h] at h2; cases h2
  unfold maxLen at h4;refine ⟨some ⟨g,0,none⟩,cap,rfl,h3,h4,⟨hn,hI,fun h0=>⟨g,0,rfl,hg,fun i hi=>?_⟩⟩,fun _=>⟨g,rfl,h1,hg⟩⟩;have q:=fun j (hj:j<n*8)=>(ownsRow_cell (xs:=encLs L) (size:=8) (e:=69) ⟨h.1,.inr ⟨g,cap,cur,rfl,h1,h2,h3,by unfold maxLen; exact h4,h5,h6⟩⟩ h0).2.2.2.2 j hj
  have p:=fun j (hj:j<8)=>(q (i*8+j) aO).trans (encLs_at (L:=L) (k:=i) aO hj)
  simp only [Nat.zero_add];exact ⟨p 0 aO,p 1 aO,p 2 aO,p 3 aO,p 4 aO,p 5 aO,p 6 aO,p 7 aO⟩
theorem infoLoc:(Tryz.prog.info? 69).map (fun i=>(i.zero,i.size,i.bytes))=some (some (.agg nv8),8,64):=aK
def mdCells (l:List Int):Array Value:=#[.int .i64 (mdP l 0).x,.int .i64 (mdP l 0).y,.int .i64 (mdP l 0).z,.int .i64 (mdP l 1).x,.int .i64 (mdP l 1).y,.int .i64 (mdP l 1).z,.int .i64 (mdP l 2).x,.int .i64 (mdP l 2).y,.int .i64 (mdP l 2).z,.int .i64 (mdP l 3).x,.int .i64 (mdP l 3).y,.int .i64 (mdP l 3).z,.int .i64 (mdP l 4).x,.int .i64 (mdP l 4).y,.int .i64 (mdP l 4).z,.int .i64 (mdP l 5).x,.int .i64 (mdP l 5).y,.int .i64 (mdP l 5).z]
theorem mdCells_at (l:List Int) {k:Nat} (hk:k<6):(mdCells l)[k*3]?=some (.int .i64 (mdP l k).x)/\(mdCells l)[k*3+1]?=some (.int .i64 (mdP l k).y)/\(mdCells l)[k*3+2]?=some (.int .i64 (mdP l k).z):=by
 match k,hk with
 | 0,_=>exact ⟨rfl,rfl,rfl⟩
 | 1,_=>exact ⟨rfl,rfl,rfl⟩
 | 2,_=>exact ⟨rfl,rfl,rfl⟩
 | 3,_=>exact ⟨rfl,rfl,rfl⟩
 | 4,_=>exact ⟨rfl,rfl,rfl⟩
 | 5,_=>exact ⟨rfl,rfl,rfl⟩
theorem mdL_I (l:List Int) (k:Nat):(mdL l k).I:=by
 have h:=mdL_ok l k;have h1:=h.nx;have h2:=h.ny;have h3:=h.nz;have h4:=h.px;have h5:=h.py;have h6:=h.pz;have h7:=h.lh;unfold Loc.I I64;omega
theorem lAt_made (l:List Int) {k:Nat} (hk:k<6):lAt (madeL l) k=mdL l k:=by
 unfold lAt madeL;simp [hk]
theorem mds_snoc (l:List Int) (k:Nat):encLs ((List.range k).map (mdL l))++encL (mdL l k)=encLs ((List.range (k+1)).map (mdL l)):=by
 rw [encLs_snoc,List.range_succ,List.map_append]; rfl
theorem ref20_Made (A:Option Addr) (n cap:Nat) (l:List Int) (w:World) (hl:SliceI w A n l):Calls Tryz.prog 24 #[.slice A n cap] w fun e w'=>(∃ g c,e = .returned (.slice (some ⟨g,0,none⟩) 6 c)/\6<=c/\c<=9223372036854775807/\LocsAt w' (some ⟨g,0,none⟩) 6 (madeL l)/\w.heap.size<=g/\g<w'.heap.size)/\Below w.heap.size w w':=by
 obtain ⟨i0,hi0,hy0,hy1,hy2⟩:=info_parts infoLoc;obtain ⟨q0,hq0⟩:=Zx (nextV (l.drop 0) 3);have nb0:=nextV_bd (l.drop 0) 3 aO;rw [hq0] at nb0;have HQ0:=Zh hq0;clear hq0;obtain ⟨q1,hq1⟩:=Zx (nextV (l.drop 1) 2);have nb1:=nextV_bd (l.drop 1) 2 aO;rw [hq1] at nb1;have HQ1:=Zh hq1;clear hq1;obtain ⟨q2,hq2⟩:=Zx (nextV (l.drop 2) 9);have nb2:=nextV_bd (l.drop 2) 9 aO;rw [hq2] at nb2;have HQ2:=Zh hq2;clear hq2;obtain ⟨q3,hq3⟩:=Zx (nextV (l.drop 3) 9);have nb3:=nextV_bd (l.drop 3) 9 aO;rw [hq3] at nb3;have HQ3:=Zh hq3;clear hq3;obtain ⟨q4,hq4⟩:=Zx (nextV (l.drop 4) 9);have nb4:=nextV_bd (l.drop 4) 9 aO;rw [hq4] at nb4;have HQ4:=Zh hq4;clear hq4;obtain ⟨q5,hq5⟩:=Zx (nextV (l.drop 5) 6);have nb5:=nextV_bd (l.drop 5) 6 aO;rw [hq5] at nb5;have HQ5:=Zh hq5;clear hq5;obtain ⟨q6,hq6⟩:=Zx (nextV (l.drop 6) 6);have nb6:=nextV_bd (l.drop 6) 6 aO;rw [hq6] at nb6;have HQ6:=Zh hq6;clear hq6;obtain ⟨q7,hq7⟩:=Zx (nextV (l.drop 7) 5);have nb7:=nextV_bd (l.drop 7) 5 aO;rw [hq7] at nb7;have HQ7:=Zh hq7;clear hq7;obtain ⟨q8,hq8⟩:=Zx (nextV (l.drop 8) 5);have HQ8:=Zh hq8;clear hq8;obtain ⟨q9,hq9⟩:=Zx (nextV (l.drop 9) 5);have HQ9:=Zh hq9;clear hq9;obtain ⟨q10,hq10⟩:=Zx (nextV (l.drop 10) 5);have nb10:=nextV_bd (l.drop 10) 5 aO;rw [hq10] at nb10;have HQ10:=Zh hq10;clear hq10;obtain ⟨q11,hq11⟩:=Zx (nextV (l.drop 11) 5);have HQ11:=Zh hq11;clear hq11;obtain ⟨x1,he_x1⟩:=Zx (q1*2);obtain ⟨s,he_s⟩:=Zx (x1 - 1);obtain ⟨a,he_a⟩:=Zx (q2 - 4);obtain ⟨b,he_b⟩:=Zx (q3 - 4);obtain ⟨z,he_z⟩:=Zx (q4 - 4);obtain ⟨x,he_x⟩:=Zx (1+q5);obtain ⟨y,he_y⟩:=Zx (1+q6);obtain ⟨ax,he_ax⟩:=Zx (a+x);obtain ⟨ae,he_ae⟩:=Zx (a+q7);obtain ⟨bd_y,he_bd_y⟩:=Zx (b+y);obtain ⟨bq,he_bq⟩:=Zx (b+q10);have hbds:(-1<=s/\s<=1)/\(-4<=a/\a<=4)/\(-4<=b/\b<=4)/\(-4<=z/\z<=4)/\(1<=x/\x<=6)/\(1<=y/\y<=6)/\(-4<=ax/\ax<=10)/\(-4<=ae/\ae<=8)/\(-4<=bd_y/\bd_y<=10)/\(-4<=bq/\bq<=8):=aO
 obtain ⟨hb_s,hb_a,hb_b,hb_z,hb_x,hb_y,hb_ax,hb_ae,hb_bdy,hb_bq⟩:=hbds;have hS:mdS l=s:=by unfold mdS dr; rw [HQ1.out]; omega
 have hT0:nextV l 3=q0:=HQ0.out;have hCE:#[.int .i64 a,.int .i64 b,.int .i64 z,.int .i64 ax,.int .i64 b,.int .i64 z,.int .i64 ae,.int .i64 bd_y,.int .i64 z,.int .i64 a,.int .i64 b,.int .i64 q8,.int .i64 ax,.int .i64 b,.int .i64 q9,.int .i64 a,.int .i64 bq,.int .i64 q11]=mdCells l:=by
  unfold mdCells;simp only [mdP,mdA,mdB,mdZ,dr,HQ2.out,HQ3.out,HQ4.out,HQ5.out,HQ6.out,HQ7.out,HQ8.out,HQ9.out,HQ10.out,HQ11.out,he_a,he_b,he_z,he_x,he_y,he_ax,he_ae,he_bd_y,he_bq]
 have HCE:=Zh hCE;have HS:=Zh hS;have HT0:=Zh hT0;clear hCE hS hT0;obtain ⟨t,rfl⟩:∃ t:Nat,q0=t:=⟨q0.toNat,aO⟩;have HLI:=Zh hl;clear hl;obtain ⟨bd,hbd⟩:=Zx (w.heap.size);have hW0:=(Zb w.heap.size w).alloc (Zr _) (.cells #[.slice A n cap,.int .i64 0] 141);have hD0:=DrawAt.start (cap:=cap) (T:=141) HLI.out;have hz0':w.heap.size+1<=(w.alloc (.cells #[.slice A n cap,.int .i64 0] 141)).heap.size:=aS
 go_enter Tryz.func24,Tryz.ntmps24;go_wp2_with fail;generalize (w.alloc (.cells #[.slice A n cap,.int .i64 0] 141))=W0 at *;rw [hbd] at hD0 hz0';have HD0:RowKit.Hid (DrawAt W0 bd (l.drop 0)):=hD0;have HBD:=Zh hbd;have HW0:=Zh hW0;have HZ0:=Zh hz0';clear hD0 HLI hbd hW0 hz0';refine Zd (callv (ref1_Next bd (l.drop 0) 3 aO aO _ HD0.out) (congrArg (Value.int IntKind.i64) HQ0.out)) ?_;rintro e w1 ⟨rfl,hu,hd⟩;have HU1:=Zh (hu);have HD1:=Zh (drawDrop hd);clear hu hd HD0;go_wp2_with fail;refine Zd (callv (ref1_Next bd (l.drop 1) 2 aO aO _ HD1.out) (congrArg (Value.int IntKind.i64) HQ1.out)) ?_;rintro e w2 ⟨rfl,hu,hd⟩;have HU2:=Zh (HU1.out.trans hu);have HD2:=Zh (drawDrop hd);clear hu hd HD1 HU1;go_wp2_with fail;refine Zd (callv (ref1_Next bd (l.drop 2) 9 aO aO _ HD2.out) (congrArg (Value.int IntKind.i64) HQ2.out)) ?_;rintro e w3 ⟨rfl,hu,hd⟩;have HU3:=Zh (HU2.out.trans hu);have HD3:=Zh (drawDrop hd);clear hu hd HD2 HU2;go_wp2_with fail;refine Zd (callv (ref1_Next bd (l.drop 3) 9 aO aO _ HD3.out) (congrArg (Value.int IntKind.i64) HQ3.out)) ?_;rintro e w4 ⟨rfl,hu,hd⟩;have HU4:=Zh (HU3.out.trans hu);have HD4:=Zh (drawDrop hd);clear hu hd HD3 HU3;go_wp2_with fail;refine Zd (callv (ref1_Next bd (l.drop 4) 9 aO aO _ HD4.out) (congrArg (Value.int IntKind.i64) HQ4.out)) ?_;rintro e w5 ⟨rfl,hu,hd⟩;have HU5:=Zh (HU4.out.trans hu);have HD5:=Zh (drawDrop hd);clear hu hd HD4 HU4;go_wp2_with fail;refine Zd (callv (ref1_Next bd (l.drop 5) 6 aO aO _ HD5.out) (congrArg (Value.int IntKind.i64) HQ5.out)) ?_;rintro e w6 ⟨rfl,hu,hd⟩;have HU6:=Zh (HU5.out.trans hu);have HD6:=Zh (drawDrop hd);clear hu hd HD5 HU5;go_wp2_with fail;refine Zd (callv (ref1_Next bd (l.drop 6) 6 aO aO _ HD6.out) (congrArg (Value.int IntKind.i64) HQ6.out)) ?_;rintro e w7 ⟨rfl,hu,hd⟩;have HU7:=Zh (HU6.out.trans hu);have HD7:=Zh (drawDrop hd);clear hu hd HD6 HU6;go_wp2_with fail;refine Zd (callv (ref1_Next bd (l.drop 7) 5 aO aO _ HD7.out) (congrArg (Value.int IntKind.i64) HQ7.out)) ?_;rintro e w8 ⟨rfl,hu,hd⟩;have HU8:=Zh (HU7.out.trans hu);have HD8:=Zh (drawDrop hd);clear hu hd HD7 HU7;go_wp2_with fail;refine Zd (callv (ref1_Next bd (l.drop 8) 5 aO aO _ HD8.out) (congrArg (Value.int IntKind.i64) HQ8.out)) ?_;rintro e w9 ⟨rfl,hu,hd⟩;have HU9:=Zh (HU8.out.trans hu);have HD9:=Zh (drawDrop hd);clear hu hd HD8 HU8;go_wp2_with fail;refine Zd (callv (ref1_Next bd (l.drop 9) 5 aO aO _ HD9.out) (congrArg (Value.int IntKind.i64) HQ9.out)) ?_;rintro e w10 ⟨rfl,hu,hd⟩;have HU10:=Zh (HU9.out.trans hu);have HD10:=Zh (drawDrop hd);clear hu hd HD9 HU9;go_wp2_with fail;refine Zd (callv (ref1_Next bd (l.drop 10) 5 aO aO _ HD10.out) (congrArg (Value.int IntKind.i64) HQ10.out)) ?_;rintro e w11 ⟨rfl,hu,hd⟩;have HU11:=Zh (HU10.out.trans hu);have HD11:=Zh (drawDrop hd);clear hu hd HD10 HU10;go_wp2_with fail;refine Zd (callv (ref1_Next bd (l.drop 11) 5 aO aO _ HD11.out) (congrArg (Value.int IntKind.i64) HQ11.out)) ?_;rintro e w12 ⟨rfl,hu,hd⟩;have HU12:=Zh (HU11.out.trans hu);have HD12:=Zh (drawDrop hd);clear hu hd HD11 HU11;go_wp2_with fail;have hs12:=HU12.out.size;have hz12:bd+1<=w12.heap.size:=by have:=HZ0.out; omega
 have hw12:Below w.heap.size w w12:=Upd.below HW0.out HU12.out (by simp; have:=HBD.out; omega);have hw2:=hw12.alloc hw12.size (.cells #[.int .i64 a,.int .i64 b,.int .i64 z,.int .i64 ax,.int .i64 b,.int .i64 z,.int .i64 ae,.int .i64 bd_y,.int .i64 z,.int .i64 a,.int .i64 b,.int .i64 q8,.int .i64 ax,.int .i64 b,.int .i64 q9,.int .i64 a,.int .i64 bq,.int .i64 q11] 44);have hT2:Own (w12.alloc (.cells #[.int .i64 a,.int .i64 b,.int .i64 z,.int .i64 ax,.int .i64 b,.int .i64 z,.int .i64 ae,.int .i64 bd_y,.int .i64 z,.int .i64 a,.int .i64 b,.int .i64 q8,.int .i64 ax,.int .i64 b,.int .i64 q9,.int .i64 a,.int .i64 bq,.int .i64 q11] 44)) w12.heap.size #[.int .i64 a,.int .i64 b,.int .i64 z,.int .i64 ax,.int .i64 b,.int .i64 z,.int .i64 ae,.int .i64 bd_y,.int .i64 z,.int .i64 a,.int .i64 b,.int .i64 q8,.int .i64 ax,.int .i64 b,.int .i64 q9,.int .i64 a,.int .i64 bq,.int .i64 q11]:=Own.new rfl;have hD2:DrawAt (w12.alloc (.cells #[.int .i64 a,.int .i64 b,.int .i64 z,.int .i64 ax,.int .i64 b,.int .i64 z,.int .i64 ae,.int .i64 bd_y,.int .i64 z,.int .i64 a,.int .i64 b,.int .i64 q8,.int .i64 ax,.int .i64 b,.int .i64 q9,.int .i64 a,.int .i64 bq,.int .i64 q11] 44)) bd (l.drop 12):=HD12.out.alloc _;have hz2:w12.heap.size+1<=(w12.alloc (.cells #[.int .i64 a,.int .i64 b,.int .i64 z,.int .i64 ax,.int .i64 b,.int .i64 z,.int .i64 ae,.int .i64 bd_y,.int .i64 z,.int .i64 a,.int .i64 b,.int .i64 q8,.int .i64 ax,.int .i64 b,.int .i64 q9,.int .i64 a,.int .i64 bq,.int .i64 q11] 44)).heap.size:=aS
 generalize (w12.alloc (.cells #[.int .i64 a,.int .i64 b,.int .i64 z,.int .i64 ax,.int .i64 b,.int .i64 z,.int .i64 ae,.int .i64 bd_y,.int .i64 z,.int .i64 a,.int .i64 b,.int .i64 q8,.int .i64 ax,.int .i64 b,.int .i64 q9,.int .i64 a,.int .i64 bq,.int .i64 q11] 44))=W2 at *;rw [HCE.out] at hT2;obtain ⟨ba,hba⟩:=Zx (w12.heap.size);rw [hba] at hT2 hz2 hz12 ⊢;have hbw:w.heap.size<=bd:=by have:=HBD.out; omega
 have HD2:=Zh hD2;have HT2:=Zh hT2;clear HU12 HD12 hba hs12 hw12 HW0 HZ0 HCE hD2 hT2;go_loopw [12,13] (fun v i wr=>∃ k:Nat,k<=6/\i = .int .i64 k/\Below w.heap.size w wr/\ba+1<=wr.heap.size/\DrawAt wr bd (l.drop (12+2*k))/\Own wr ba (mdCells l)/\wr.ownsRow (ba+1) 69 8 v k (encLs ((List.range k).map (mdL l)))) (fun _ i _=>6 - (intOf i).toNat)
 case atStart=>exact ⟨0,aO,rfl,hw2,hz2,HD2.out,HT2.out,⟨rfl,.inl ⟨rfl,rfl⟩⟩⟩
 case round =>
  clear hw2 hz2 HD2 HT2;obtain ⟨k,hk,rfl,hw,hz,hd,hT,hrow⟩:=hrel;have HD:=Zh hd;have HT:=Zh hT;have HO:=Zh hrow;clear hd hT hrow
  by_cases hk6:k<6
  ·have hki:(k:Int)<6:=aO
   obtain ⟨c0,c1,c2⟩:=mdCells_at l hk6;obtain ⟨px,hpx⟩:=Zx ((mdP l k).x);obtain ⟨py,hpy⟩:=Zx ((mdP l k).y);obtain ⟨pz,hpz⟩:=Zx ((mdP l k).z);rw [hpx] at c0;rw [hpy] at c1;rw [hpz] at c2;have hP:mdP l k=⟨px,py,pz⟩:=by rw [<- hpx,<- hpy,<- hpz]
   have HP:=Zh hP;clear hpx hpy hpz hP;obtain ⟨rp,hrp⟩:=Zx (roll (t:Int) ⟨px,py,pz⟩);obtain ⟨rpx,rpy,rpz⟩:=rp;have HRP:=Zh hrp;have HRPV:=Zh (congrArg V3.v hrp);clear hrp;obtain ⟨ql,hql⟩:=Zx (nextV (l.drop (12+2*k)) 20);have nbl:=nextV_bd (l.drop (12+2*k)) 20 aO;rw [hql] at nbl;have HQL:=Zh hql;obtain ⟨qh,hqh⟩:=Zx (nextV (l.drop (12+2*k+1)) 40);have nbh:=nextV_bd (l.drop (12+2*k+1)) 40 aO;rw [hqh] at nbh;have HQH:=Zh hqh;clear hql hqh;obtain ⟨lo,hlo⟩:=Zx (-ql);obtain ⟨hi',hhi⟩:=Zx (lo+qh);have hhib:-20<=hi'/\hi'<=40:=aO
   by_cases hc2:k<=2
   ·have g2:¬ (2:Int)<(k:Int):=aO
    have g4:¬ (4:Int)<(k:Int):=aO
    obtain ⟨rn,hrn⟩:=Zx (roll (t:Int) ⟨0,0,s⟩);obtain ⟨rnx,rny,rnz⟩:=rn;have HRN:=Zh hrn;have HRNV:=Zh (congrArg V3.v hrn);clear hrn;go_wp2_with fail;refine Zd (callv (ref1_Next bd (l.drop (12+2*k)) 20 aO aO _ (HD.out.alloc _)) (congrArg (Value.int IntKind.i64) HQL.out)) ?_;rintro e wn ⟨rfl,hu,hd⟩;have hUn:Upd [bd] wr wn:=((Upd.refl _ _).alloc _).trans hu;have HDn:=Zh (drawDrop hd);have hTn:=HT.out.upd hUn aT;have hNn:Own wn wr.heap.size #[.int .i64 0,.int .i64 0,.int .i64 s]:=(Own.new rfl:Own (wr.alloc (.cells #[.int .i64 0,.int .i64 0,.int .i64 s] 44)) wr.heap.size #[.int .i64 0,.int .i64 0,.int .i64 s]).upd hu aT;have HOn:=Zh (ownsRow_upd HO.out hUn aO);have hwn:=Upd.below hw hUn aT;have hzn:wr.heap.size+1<=wn.heap.size:=by have:=hu.size; simp at this; omega
    have t0:=(hTn.cell (k*3)).trans c0;have t1:=(hTn.cell (k*3+1)).trans c1;have t2:=(hTn.cell (k*3+2)).trans c2;have HTn:=Zh hTn;have hov:=fun b hb=>Zi (ownBlock_ge HO.out (g:=b) hb) (ownBlock_lt HO.out (b:=b) hb)
    have hbaT:ba∉bd::ownL u12:=by rw [List.mem_cons,mem_ownL]; rintro (h | h); omega; have:=(hov ba h).1; omega
    have hnT:wr.heap.size∉bd::ownL u12:=by rw [List.mem_cons,mem_ownL]; rintro (h | h); omega; have:=(hov wr.heap.size h).2; omega
    have HOV:=Zh hov;clear hov;clear hu hd hUn HD HT HO hTn c0 c1 c2;go_wp2;refine region_gen (T:=bd::ownL u12) [.step 13 (.int .i64 qh)] 16 1 40 (fun j u=>DrawAt u bd (l.drop (12+2*k+1+j))/\u.ownsRow (ba+1) 69 8 u12 k (encLs ((List.range k).map (mdL l)))) (fun _ _ _ h hb=>⟨h.1.below hb,ownsRow_stay h.2 hb⟩) ⟨HDn.out,HOn.out⟩ aK aK (by rfl) ?_;unfold genWalk;apply Zs;apply Zi
    ·apply Piece.mk
     ·intro f v hv hr hne;simp only [TK,Nat.reduceSub,Nat.reduceAdd];have f0:=later_cell (T:=bd::ownL u12) (w:=wn) (v:=v) aO hbaT t0;have f1:=later_cell (T:=bd::ownL u12) (w:=wn) (v:=v) aO hbaT t1;have f2:=later_cell (T:=bd::ownL u12) (w:=wn) (v:=v) aO hbaT t2;have fn:=fun x=>(hNn.later (v:=v) (T:=bd::ownL u12) hnT x).cell
      repeat (go_big_quiet_step (first | (go_at_call 87; with_reducible exact lateB (callv (ref20_rolled ⟨px,py,pz⟩ t aO _) HRPV.out)) | (go_at_call 87; with_reducible exact lateB (callv (ref20_rolled ⟨0,0,s⟩ t aO _) HRNV.out))))
      refine wpQuiet_nil ?_;exact rfl
     ·intro f; kernel_rfl
     ·intro f f' hf; kernel_rfl
    refine one_of (by rfl) ⟨fun f=>⟨rfl,fun u hu hp=>?_⟩,?_⟩
    ·(try simp only [LN])
     go_simp;refine (ref1_Next bd _ 40 aO aO _ hp.1).mono ?_;rintro e w' ⟨rfl,hup,hd⟩;exact ⟨_,rfl,congrArg (Value.int IntKind.i64) (by simpa using HQH.out),hup.more aS,⟨by have h:=drawDrop hd; simpa using h,ownsRow_upd hp.2 hup aO⟩⟩
    unfold genWalk;refine ⟨_,pz15,?_⟩;intro f9 u' hup hp hmade hdist;clear hmade hdist;have hp9:DrawAt u' bd (l.drop (12+2*k+1+1))/\_:=hp;obtain ⟨hp,hOu⟩:=hp9;simp only [TK,Nat.reduceSub,Nat.reduceAdd]
    (try simp only [LN])
    have hk':=Upd.keeps (Keeps.refl _ _) hup;have hTu:=HTn.out.upd hup hbaT;have hwu:=Upd.below hwn hup (fun b hb=>by rw [List.mem_cons,mem_ownL] at hb; rcases hb with hb | hb; omega; have:=(HOV.out b hb).1; omega);have hsu:=hup.size;refine effc_mem (by rfl) (fun K hK=>?_);go_simp;refine hK _ _ (hk'.alloc _) (fun u2 hu2=>?_);clear hK K;have hb2:Below u'.heap.size u' u2:=((Zb _ _).alloc (Zr _) _).trans (hu2.mono aS);have hsb:u'.heap.size<u2.heap.size:=by have:=hu2.size; simp at this; omega
    have hnew:=(hu2.block u'.heap.size aS).trans (heap_alloc_new u' _);have HTu2:=Zh (hTu.below hb2);have hO2:=ownsRow_stay hOu hb2;have HD2:=Zh (hp.below hb2);have hw2:=hwu.trans (hb2.mono hwu.size);have hk2:=(hk'.alloc _).later hu2;clear hTu hOu hp hwu hk' hu2 hb2;refine effc_mem (by rfl) (fun K hK=>?_);refine late_append _ _ 27 rfl (ba+1) 69 i0 (.agg nv8) 8 64 Tryz.underlying27 hi0 hy0 hy1 hy2 rfl aO _ k (encLs ((List.range k).map (mdL l))) (by rfl) hO2 ⟨u'.heap.size,0,none⟩ 1 1 (encL ⟨⟨rpx,rpy,rpz⟩,⟨rnx,rny,rnz⟩,lo,hi'⟩) (by rfl) rfl (World.news_of_block hnew) ?_ aO (by unfold maxLen; omega) aO aO u2.heap.size rfl ?_
    ·intro y hy; simp [encL] at hy; rcases hy with rfl | rfl | rfl | rfl | rfl | rfl | rfl | rfl <;> rfl
    intro g2 c9 u3 ho3 hg3 hat3 hlt3;have hob:∀ b,_=some b->ba+1<=b:=fun b hb=>ownBlock_ge hO2 hb
    have hk3:=keeps_grown hk2 hg3 (fun r e=>.inl (by rw [List.mem_cons,mem_ownL]; exact .inr e));have hw3:=Below.grown hw2 hg3 aO (fun b hb=>by have:=hob b hb; omega);have hT3:Own u3 ba (mdCells l):=HTu2.out.of_block (hg3.block ba HTu2.out.lt (fun e=>by have:=hob ba e.symm; omega));have hD3:=DrawAt.of_blocks HD2.out (w':=u3) (fun i hi=>hg3.block i aO (fun e=>by have:=hob i e.symm; omega));have hRL:mdL l k=⟨⟨rpx,rpy,rpz⟩,⟨rnx,rny,rnz⟩,lo,hi'⟩:=by
     unfold mdL;rw [HT0.out,HP.out,HRP.out,(show mdN l k=⟨0,0,s⟩ from by unfold mdN; rw [if_neg aO,if_neg aO,HS.out]),HRN.out];unfold mdHi mdLo dr;rw [HQL.out,show 13+2*k=12+2*k+1 by omega,HQH.out];simp only [hlo,hhi]
    rw [<- hRL,mds_snoc] at ho3;have HO3:=Zh ho3;have HT3:=Zh hT3;have HD3:=Zh hD3;clear hRL ho3 hT3 hD3 hO2 HD2 HTu2 hk2 hg3 hat3 hlt3 hob hw2 hnew hsu hup;refine hK _ _ hk3 (fun u4 hu4=>?_);clear hK K;refine effc_mem (by rfl) (fun K hK=>?_);go_simp;refine hK _ _ (hk3.later hu4) (fun u5 hu5=>?_);clear hK K;have hb5:=hu4.trans (hu5.mono hu4.size);have hw5:=hw3.trans (hb5.mono hw3.size);have HO5:=Zh (ownsRow_stay HO3.out hb5);have HT5:=Zh (HT3.out.below hb5);have HD5:=Zh (HD3.out.below hb5);have hz5:ba+1<=u5.heap.size:=by have:=HT5.out.lt; omega
    clear hu4 hu5 hb5 hw3 HO3 HT3 HD3 hk3;refine effc_nil ?_
    (try simp only [LN])
    go_wp2;go_roundw
    case rel=>exact ⟨k+1,aO,by go_num,hw5,hz5,by rw [show 12+2*(k+1)=12+2*k+1+1 by omega]; exact HD5.out,HT5.out,HO5.out⟩
    case measure=>simp [intOf]; omega
   ·skip
    by_cases hc4:k<=4
    ·have g2:(2:Int)<(k:Int):=aO
     have g4:¬ (4:Int)<(k:Int):=aO
     obtain ⟨rn,hrn⟩:=Zx (roll (t:Int) ⟨0,1,0⟩);obtain ⟨rnx,rny,rnz⟩:=rn;have HRN:=Zh hrn;have HRNV:=Zh (congrArg V3.v hrn);clear hrn;go_wp2_with fail;refine Zd (callv (ref1_Next bd (l.drop (12+2*k)) 20 aO aO _ (HD.out.alloc _)) (congrArg (Value.int IntKind.i64) HQL.out)) ?_;rintro e wn ⟨rfl,hu,hd⟩;have hUn:Upd [bd] wr wn:=((Upd.refl _ _).alloc _).trans hu;have HDn:=Zh (drawDrop hd);have hTn:=HT.out.upd hUn aT;have hNn:Own wn wr.heap.size #[.int .i64 0,.int .i64 1,.int .i64 0]:=(Own.new rfl:Own (wr.alloc (.cells #[.int .i64 0,.int .i64 1,.int .i64 0] 44)) wr.heap.size #[.int .i64 0,.int .i64 1,.int .i64 0]).upd hu aT;have HOn:=Zh (ownsRow_upd HO.out hUn aO);have hwn:=Upd.below hw hUn aT;have hzn:wr.heap.size+1<=wn.heap.size:=by have:=hu.size; simp at this; omega
     have t0:=(hTn.cell (k*3)).trans c0;have t1:=(hTn.cell (k*3+1)).trans c1;have t2:=(hTn.cell (k*3+2)).trans c2;have HTn:=Zh hTn;have hov:=fun b hb=>Zi (ownBlock_ge HO.out (g:=b) hb) (ownBlock_lt HO.out (b:=b) hb)
     have hbaT:ba∉bd::ownL u12:=by rw [List.mem_cons,mem_ownL]; rintro (h | h); omega; have:=(hov ba h).1; omega
     have hnT:wr.heap.size∉bd::ownL u12:=by rw [List.mem_cons,mem_ownL]; rintro (h | h); omega; have:=(hov wr.heap.size h).2; omega
     have HOV:=Zh hov;clear hov;clear hu hd hUn HD HT HO hTn c0 c1 c2;go_wp2;refine region_gen (T:=bd::ownL u12) [.step 13 (.int .i64 qh)] 16 1 40 (fun j u=>DrawAt u bd (l.drop (12+2*k+1+j))/\u.ownsRow (ba+1) 69 8 u12 k (encLs ((List.range k).map (mdL l)))) (fun _ _ _ h hb=>⟨h.1.below hb,ownsRow_stay h.2 hb⟩) ⟨HDn.out,HOn.out⟩ aK aK (by rfl) ?_;unfold genWalk;apply Zs;apply Zi
     ·apply Piece.mk
      ·intro f v hv hr hne;simp only [TK,Nat.reduceSub,Nat.reduceAdd];have f0:=later_cell (T:=bd::ownL u12) (w:=wn) (v:=v) aO hbaT t0;have f1:=later_cell (T:=bd::ownL u12) (w:=wn) (v:=v) aO hbaT t1;have f2:=later_cell (T:=bd::ownL u12) (w:=wn) (v:=v) aO hbaT t2;have fn:=fun x=>(hNn.later (v:=v) (T:=bd::ownL u12) hnT x).cell
       repeat (go_big_quiet_step (first | (go_at_call 87; with_reducible exact lateB (callv (ref20_rolled ⟨px,py,pz⟩ t aO _) HRPV.out)) | (go_at_call 87; with_reducible exact lateB (callv (ref20_rolled ⟨0,1,0⟩ t aO _) HRNV.out))))
       refine wpQuiet_nil ?_;exact rfl
      ·intro f; kernel_rfl
      ·intro f f' hf; kernel_rfl
     refine one_of (by rfl) ⟨fun f=>⟨rfl,fun u hu hp=>?_⟩,?_⟩
     ·(try simp only [LN])
      go_simp;refine (ref1_Next bd _ 40 aO aO _ hp.1).mono ?_;rintro e w' ⟨rfl,hup,hd⟩;exact ⟨_,rfl,congrArg (Value.int IntKind.i64) (by simpa using HQH.out),hup.more aS,⟨by have h:=drawDrop hd; simpa using h,ownsRow_upd hp.2 hup aO⟩⟩
     unfold genWalk;refine ⟨_,pz15,?_⟩;intro f9 u' hup hp hmade hdist;clear hmade hdist;have hp9:DrawAt u' bd (l.drop (12+2*k+1+1))/\_:=hp;obtain ⟨hp,hOu⟩:=hp9;simp only [TK,Nat.reduceSub,Nat.reduceAdd]
     (try simp only [LN])
     have hk':=Upd.keeps (Keeps.refl _ _) hup;have hTu:=HTn.out.upd hup hbaT;have hwu:=Upd.below hwn hup (fun b hb=>by rw [List.mem_cons,mem_ownL] at hb; rcases hb with hb | hb; omega; have:=(HOV.out b hb).1; omega);have hsu:=hup.size;refine effc_mem (by rfl) (fun K hK=>?_);go_simp;refine hK _ _ (hk'.alloc _) (fun u2 hu2=>?_);clear hK K;have hb2:Below u'.heap.size u' u2:=((Zb _ _).alloc (Zr _) _).trans (hu2.mono aS);have hsb:u'.heap.size<u2.heap.size:=by have:=hu2.size; simp at this; omega
     have hnew:=(hu2.block u'.heap.size aS).trans (heap_alloc_new u' _);have HTu2:=Zh (hTu.below hb2);have hO2:=ownsRow_stay hOu hb2;have HD2:=Zh (hp.below hb2);have hw2:=hwu.trans (hb2.mono hwu.size);have hk2:=(hk'.alloc _).later hu2;clear hTu hOu hp hwu hk' hu2 hb2;refine effc_mem (by rfl) (fun K hK=>?_);refine late_append _ _ 27 rfl (ba+1) 69 i0 (.agg nv8) 8 64 Tryz.underlying27 hi0 hy0 hy1 hy2 rfl aO _ k (encLs ((List.range k).map (mdL l))) (by rfl) hO2 ⟨u'.heap.size,0,none⟩ 1 1 (encL ⟨⟨rpx,rpy,rpz⟩,⟨rnx,rny,rnz⟩,lo,hi'⟩) (by rfl) rfl (World.news_of_block hnew) ?_ aO (by unfold maxLen; omega) aO aO u2.heap.size rfl ?_
     ·intro y hy; simp [encL] at hy; rcases hy with rfl | rfl | rfl | rfl | rfl | rfl | rfl | rfl <;> rfl
     intro g2 c9 u3 ho3 hg3 hat3 hlt3;have hob:∀ b,_=some b->ba+1<=b:=fun b hb=>ownBlock_ge hO2 hb
     have hk3:=keeps_grown hk2 hg3 (fun r e=>.inl (by rw [List.mem_cons,mem_ownL]; exact .inr e));have hw3:=Below.grown hw2 hg3 aO (fun b hb=>by have:=hob b hb; omega);have hT3:Own u3 ba (mdCells l):=HTu2.out.of_block (hg3.block ba HTu2.out.lt (fun e=>by have:=hob ba e.symm; omega));have hD3:=DrawAt.of_blocks HD2.out (w':=u3) (fun i hi=>hg3.block i aO (fun e=>by have:=hob i e.symm; omega));have hRL:mdL l k=⟨⟨rpx,rpy,rpz⟩,⟨rnx,rny,rnz⟩,lo,hi'⟩:=by
      unfold mdL;rw [HT0.out,HP.out,HRP.out,(show mdN l k=⟨0,1,0⟩ from by unfold mdN; rw [if_neg aO,if_pos aO]),HRN.out];unfold mdHi mdLo dr;rw [HQL.out,show 13+2*k=12+2*k+1 by omega,HQH.out];simp only [hlo,hhi]
     rw [<- hRL,mds_snoc] at ho3;have HO3:=Zh ho3;have HT3:=Zh hT3;have HD3:=Zh hD3;clear hRL ho3 hT3 hD3 hO2 HD2 HTu2 hk2 hg3 hat3 hlt3 hob hw2 hnew hsu hup;refine hK _ _ hk3 (fun u4 hu4=>?_);clear hK K;refine effc_mem (by rfl) (fun K hK=>?_);go_simp;refine hK _ _ (hk3.later hu4) (fun u5 hu5=>?_);clear hK K;have hb5:=hu4.trans (hu5.mono hu4.size);have hw5:=hw3.trans (hb5.mono hw3.size);have HO5:=Zh (ownsRow_stay HO3.out hb5);have HT5:=Zh (HT3.out.below hb5);have HD5:=Zh (HD3.out.below hb5);have hz5:ba+1<=u5.heap.size:=by have:=HT5.out.lt; omega
     clear hu4 hu5 hb5 hw3 HO3 HT3 HD3 hk3;refine effc_nil ?_
     (try simp only [LN])
     go_wp2;go_roundw
     case rel=>exact ⟨k+1,aO,by go_num,hw5,hz5,by rw [show 12+2*(k+1)=12+2*k+1+1 by omega]; exact HD5.out,HT5.out,HO5.out⟩
     case measure=>simp [intOf]; omega
    ·skip;have g2:(2:Int)<(k:Int):=aO
     have g4:(4:Int)<(k:Int):=aO
     obtain ⟨ns,hns⟩:=Zx (-s);have hnsb:-1<=ns/\ns<=1:=aO
     obtain ⟨rn,hrn⟩:=Zx (roll (t:Int) ⟨ns,0,0⟩);obtain ⟨rnx,rny,rnz⟩:=rn;have HRN:=Zh hrn;have HRNV:=Zh (congrArg V3.v hrn);clear hrn;go_wp2_with fail;refine Zd (callv (ref1_Next bd (l.drop (12+2*k)) 20 aO aO _ (HD.out.alloc _)) (congrArg (Value.int IntKind.i64) HQL.out)) ?_;rintro e wn ⟨rfl,hu,hd⟩;have hUn:Upd [bd] wr wn:=((Upd.refl _ _).alloc _).trans hu;have HDn:=Zh (drawDrop hd);have hTn:=HT.out.upd hUn aT;have hNn:Own wn wr.heap.size #[.int .i64 ns,.int .i64 0,.int .i64 0]:=(Own.new rfl:Own (wr.alloc (.cells #[.int .i64 ns,.int .i64 0,.int .i64 0] 44)) wr.heap.size #[.int .i64 ns,.int .i64 0,.int .i64 0]).upd hu aT;have HOn:=Zh (ownsRow_upd HO.out hUn aO);have hwn:=Upd.below hw hUn aT;have hzn:wr.heap.size+1<=wn.heap.size:=by have:=hu.size; simp at this; omega
     have t0:=(hTn.cell (k*3)).trans c0;have t1:=(hTn.cell (k*3+1)).trans c1;have t2:=(hTn.cell (k*3+2)).trans c2;have HTn:=Zh hTn;have hov:=fun b hb=>Zi (ownBlock_ge HO.out (g:=b) hb) (ownBlock_lt HO.out (b:=b) hb)
     have hbaT:ba∉bd::ownL u12:=by rw [List.mem_cons,mem_ownL]; rintro (h | h); omega; have:=(hov ba h).1; omega
     have hnT:wr.heap.size∉bd::ownL u12:=by rw [List.mem_cons,mem_ownL]; rintro (h | h); omega; have:=(hov wr.heap.size h).2; omega
     have HOV:=Zh hov;clear hov;clear hu hd hUn HD HT HO hTn c0 c1 c2;go_wp2;refine region_gen (T:=bd::ownL u12) [.step 13 (.int .i64 qh)] 16 1 40 (fun j u=>DrawAt u bd (l.drop (12+2*k+1+j))/\u.ownsRow (ba+1) 69 8 u12 k (encLs ((List.range k).map (mdL l)))) (fun _ _ _ h hb=>⟨h.1.below hb,ownsRow_stay h.2 hb⟩) ⟨HDn.out,HOn.out⟩ aK aK (by rfl) ?_;unfold genWalk;apply Zs;apply Zi
     ·apply Piece.mk
      ·intro f v hv hr hne;simp only [TK,Nat.reduceSub,Nat.reduceAdd];have f0:=later_cell (T:=bd::ownL u12) (w:=wn) (v:=v) aO hbaT t0;have f1:=later_cell (T:=bd::ownL u12) (w:=wn) (v:=v) aO hbaT t1;have f2:=later_cell (T:=bd::ownL u12) (w:=wn) (v:=v) aO hbaT t2;have fn:=fun x=>(hNn.later (v:=v) (T:=bd::ownL u12) hnT x).cell
       repeat (go_big_quiet_step (first | (go_at_call 87; with_reducible exact lateB (callv (ref20_rolled ⟨px,py,pz⟩ t aO _) HRPV.out)) | (go_at_call 87; with_reducible exact lateB (callv (ref20_rolled ⟨ns,0,0⟩ t aO _) HRNV.out))))
       refine wpQuiet_nil ?_;exact rfl
      ·intro f; kernel_rfl
      ·intro f f' hf; kernel_rfl
     refine one_of (by rfl) ⟨fun f=>⟨rfl,fun u hu hp=>?_⟩,?_⟩
     ·(try simp only [LN])
      go_simp;refine (ref1_Next bd _ 40 aO aO _ hp.1).mono ?_;rintro e w' ⟨rfl,hup,hd⟩;exact ⟨_,rfl,congrArg (Value.int IntKind.i64) (by simpa using HQH.out),hup.more aS,⟨by have h:=drawDrop hd; simpa using h,ownsRow_upd hp.2 hup aO⟩⟩
     unfold genWalk;refine ⟨_,pz15,?_⟩;intro f9 u' hup hp hmade hdist;clear hmade hdist;have hp9:DrawAt u' bd (l.drop (12+2*k+1+1))/\_:=hp;obtain ⟨hp,hOu⟩:=hp9;simp only [TK,Nat.reduceSub,Nat.reduceAdd]
     (try simp only [LN])
     have hk':=Upd.keeps (Keeps.refl _ _) hup;have hTu:=HTn.out.upd hup hbaT;have hwu:=Upd.below hwn hup (fun b hb=>by rw [List.mem_cons,mem_ownL] at hb; rcases hb with hb | hb; omega; have:=(HOV.out b hb).1; omega);have hsu:=hup.size;refine effc_mem (by rfl) (fun K hK=>?_);go_simp;refine hK _ _ (hk'.alloc _) (fun u2 hu2=>?_);clear hK K;have hb2:Below u'.heap.size u' u2:=((Zb _ _).alloc (Zr _) _).trans (hu2.mono aS);have hsb:u'.heap.size<u2.heap.size:=by have:=hu2.size; simp at this; omega
     have hnew:=(hu2.block u'.heap.size aS).trans (heap_alloc_new u' _);have HTu2:=Zh (hTu.below hb2);have hO2:=ownsRow_stay hOu hb2;have HD2:=Zh (hp.below hb2);have hw2:=hwu.trans (hb2.mono hwu.size);have hk2:=(hk'.alloc _).later hu2;clear hTu hOu hp hwu hk' hu2 hb2;refine effc_mem (by rfl) (fun K hK=>?_);refine late_append _ _ 27 rfl (ba+1) 69 i0 (.agg nv8) 8 64 Tryz.underlying27 hi0 hy0 hy1 hy2 rfl aO _ k (encLs ((List.range k).map (mdL l))) (by rfl) hO2 ⟨u'.heap.size,0,none⟩ 1 1 (encL ⟨⟨rpx,rpy,rpz⟩,⟨rnx,rny,rnz⟩,lo,hi'⟩) (by rfl) rfl (World.news_of_block hnew) ?_ aO (by unfold maxLen; omega) aO aO u2.heap.size rfl ?_
     ·intro y hy; simp [encL] at hy; rcases hy with rfl | rfl | rfl | rfl | rfl | rfl | rfl | rfl <;> rfl
     intro g2 c9 u3 ho3 hg3 hat3 hlt3;have hob:∀ b,_=some b->ba+1<=b:=fun b hb=>ownBlock_ge hO2 hb
     have hk3:=keeps_grown hk2 hg3 (fun r e=>.inl (by rw [List.mem_cons,mem_ownL]; exact .inr e));have hw3:=Below.grown hw2 hg3 aO (fun b hb=>by have:=hob b hb; omega);have hT3:Own u3 ba (mdCells l):=HTu2.out.of_block (hg3.block ba HTu2.out.lt (fun e=>by have:=hob ba e.symm; omega));have hD3:=DrawAt.of_blocks HD2.out (w':=u3) (fun i hi=>hg3.block i aO (fun e=>by have:=hob i e.symm; omega));have hRL:mdL l k=⟨⟨rpx,rpy,rpz⟩,⟨rnx,rny,rnz⟩,lo,hi'⟩:=by
      unfold mdL;rw [HT0.out,HP.out,HRP.out,(show mdN l k=⟨ns,0,0⟩ from by unfold mdN; rw [if_pos aO,HS.out,hns]),HRN.out];unfold mdHi mdLo dr;rw [HQL.out,show 13+2*k=12+2*k+1 by omega,HQH.out];simp only [hlo,hhi]
     rw [<- hRL,mds_snoc] at ho3;have HO3:=Zh ho3;have HT3:=Zh hT3;have HD3:=Zh hD3;clear hRL ho3 hT3 hD3 hO2 HD2 HTu2 hk2 hg3 hat3 hlt3 hob hw2 hnew hsu hup;refine hK _ _ hk3 (fun u4 hu4=>?_);clear hK K;refine effc_mem (by rfl) (fun K hK=>?_);go_simp;refine hK _ _ (hk3.later hu4) (fun u5 hu5=>?_);clear hK K;have hb5:=hu4.trans (hu5.mono hu4.size);have hw5:=hw3.trans (hb5.mono hw3.size);have HO5:=Zh (ownsRow_stay HO3.out hb5);have HT5:=Zh (HT3.out.below hb5);have HD5:=Zh (HD3.out.below hb5);have hz5:ba+1<=u5.heap.size:=by have:=HT5.out.lt; omega
     clear hu4 hu5 hb5 hw3 HO3 HT3 HD3 hk3;refine effc_nil ?_
     (try simp only [LN])
     go_wp2;go_roundw
     case rel=>exact ⟨k+1,aO,by go_num,hw5,hz5,by rw [show 12+2*(k+1)=12+2*k+1+1 by omega]; exact HD5.out,HT5.out,HO5.out⟩
     case measure=>simp [intOf]; omega
  ·obtain rfl:k=6:=aO
   obtain ⟨A9,c9,e9,h1,h2,h3,h4⟩:=locs_of_row (L:=madeL l) HO.out (madeL_len l) (fun i hi=>by rw [lAt_made l hi]; exact mdL_I l i);obtain ⟨g,rfl,hg1,hg2⟩:=h4 aO;subst e9;have HF:=Zh (Zi h1 (Zi h2 h3));clear h1 h2 h3 h4 HO HT HD;go_wp2;go_ret;exact ⟨⟨g,c9,rfl,HF.out.1,HF.out.2.1,HF.out.2.2,aO,hg2⟩,hw⟩
end Go.Proofs.YtflolbnnkbdmfaaGreat
