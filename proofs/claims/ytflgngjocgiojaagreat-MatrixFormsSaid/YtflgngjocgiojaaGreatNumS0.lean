import Derived.Test.YtflgngjocgiojaaGreatNumP
set_option linter.all false
namespace Go.Proofs.YtflgngjocgiojaaGreat
open Go.RowKit
set_option maxHeartbeats 8000000
set_option maxRecDepth 100000
theorem sg_self (z:Int):sg (decide (z<0)) z.natAbs=z:=by
 unfold sg
 by_cases h:z<0
 ·simp [h]; omega
 ·simp [h]; omega
theorem sg_not (z:Int):sg (!decide (z<0)) z.natAbs=-z:=by
 unfold sg
 by_cases h:z<0
 ·simp [h]; omega
 ·simp [h]; omega
theorem sg_mul (a b:Int):sg (decide (a<0) != decide (b<0)) (a.natAbs*b.natAbs)=a*b:=by
 rcases Int.natAbs_eq a with ha | ha <;> rcases Int.natAbs_eq b with hb | hb
 all_goals
  generalize a.natAbs=x at *;generalize b.natAbs=y at *;subst ha;subst hb;unfold sg;simp only [Int.natCast_mul,Int.neg_mul,Int.mul_neg,Int.neg_neg]
 ·have e1:¬ (x:Int)<0:=aO
  have e2:¬ (y:Int)<0:=aO
  simp [e1,e2]
 ·have e1:¬ (x:Int)<0:=aO
  rcases Nat.eq_zero_or_pos y with h | h
  ·subst h; simp
  ·have e2:-(y:Int)<0:=aO
   simp [e1,e2];omega
 ·have e1:¬ (y:Int)<0:=aO
  rcases Nat.eq_zero_or_pos x with h | h
  ·subst h; simp
  ·have e2:-(x:Int)<0:=aO
   simp [e1,e2];omega
 ·rcases Nat.eq_zero_or_pos x with h | h
  ·subst h; simp
  ·rcases Nat.eq_zero_or_pos y with h' | h'
   ·subst h'; simp
   ·simp [h,h']
theorem num_Add {w:World} {v1 v2:Value} {z1 z2:Int} (h1:NumAt w v1 z1) (h2:NumAt w v2 z2):Calls Tryz.prog 74 #[v1,v2] w (RetN w (z1+z2)):=by
 obtain ⟨z,hz⟩:=Zx (z1+z2);rw [hz];have G1:=Zh h1;have G2:=Zh h2;obtain ⟨r1,k1⟩:=h1.raw;obtain ⟨r2,k2⟩:=h2.raw;obtain ⟨A1,n1,c1,rfl,hc1,hm1,hl1,d1⟩:=h1;obtain ⟨A2,n2,c2,rfl,hc2,hm2,hl2,d2⟩:=h2;obtain ⟨s1,hs1⟩:=Zx (decide (z1<0));obtain ⟨s2,hs2⟩:=Zx (decide (z2<0));rw [hs1] at r1 k1 G1 ⊢;rw [hs2] at r2 k2 G2 ⊢;have H:=Zh (Zi hz (Zi hs1 hs2));clear hz hs1 hs2 d1 d2 r1 k1 r2 k2;go_enter Tryz.func74,Tryz.ntmps74;have hW:=((((Zb w.heap.size w).alloc (Zr _) (.cells #[.bool s1,.slice A1 n1 c1] 35)).alloc aS (.cells #[.bool s2,.slice A2 n2 c2] 35)).alloc aT (.cells nz1 35));go_wp2_with fail;have o6:Own (((w.alloc (.cells #[.bool s1,.slice A1 n1 c1] 35)).alloc (.cells #[.bool s2,.slice A2 n2 c2] 35)).alloc (.cells nz1 35)) (w.heap.size+1+1) nz1:=aOwn;generalize (((w.alloc (.cells #[.bool s1,.slice A1 n1 c1] 35)).alloc (.cells #[.bool s2,.slice A2 n2 c2] 35)).alloc (.cells nz1 35))=W0 at *;have q:=num_sum s2 (G1.out.below hW) (G2.out.below hW);rw [<- H.out.2.2,sg_self,H.out.1,H.out.2.2] at q;refine Zd q ?_;rintro e w9 ⟨⟨b,rfl,hb1,hb2,hb3⟩,hb4⟩;have hbB:=hW.trans (hb4.mono hW.size);have q6:=o6.below hb4;have q6c:=q6.cell;have q6f:=q6.thaw;have o6z:=o6.lt;have hzN:=hW.size;have HB:=Zh (Zi hb1 (Zi hb2 hb3));clear o6 hb1 hb2 hb3 hb4;obtain ⟨A9,n9,c9,hsl⟩:=slN_form z b;simp only [numV];rw [hsl];have HSL:=Zh hsl;clear hsl;go_wp2;refine retC (b:=w.heap.size+1+1) (v:= .tuple #[.agg #[.bool (sgnN z),.slice A9 n9 c9],.bool (fits z)]) ((q6.set 0 _).set 1 _) (fun w' hw'=>by simp [results,Tryz.results74,go_sem,hw']) rfl ⟨⟨b,by rw [numV,HSL.out],Zm hzN HB.out.1,by simp; exact HB.out.2.1,(HB.out.2.2.far (by simp; have:=HB.out.1; omega) _).far (by simp; have:=HB.out.1; omega) _⟩,(hbB.setCell aT _).setCell aT _⟩
theorem num_Sub {w:World} {v1 v2:Value} {z1 z2:Int} (h1:NumAt w v1 z1) (h2:NumAt w v2 z2):Calls Tryz.prog 104 #[v1,v2] w (RetN w (z1 - z2)):=by
 obtain ⟨z,hz⟩:=Zx (z1 - z2);rw [hz];have G1:=Zh h1;have G2:=Zh h2;obtain ⟨r1,k1⟩:=h1.raw;obtain ⟨r2,k2⟩:=h2.raw;obtain ⟨A1,n1,c1,rfl,hc1,hm1,hl1,d1⟩:=h1;obtain ⟨A2,n2,c2,rfl,hc2,hm2,hl2,d2⟩:=h2;obtain ⟨s1,hs1⟩:=Zx (decide (z1<0));obtain ⟨s2,hs2⟩:=Zx (decide (z2<0));rw [hs1] at r1 k1 G1 ⊢;rw [hs2] at r2 k2 G2 ⊢;have H:=Zh (Zi hz (Zi hs1 hs2));clear hz hs1 hs2 d1 d2 r1 k1 r2 k2;go_enter Tryz.func104,Tryz.ntmps104;have hW:=((((Zb w.heap.size w).alloc (Zr _) (.cells #[.bool s1,.slice A1 n1 c1] 35)).alloc aS (.cells #[.bool s2,.slice A2 n2 c2] 35)).alloc aT (.cells nz1 35));go_wp2_with fail;have o6:Own (((w.alloc (.cells #[.bool s1,.slice A1 n1 c1] 35)).alloc (.cells #[.bool s2,.slice A2 n2 c2] 35)).alloc (.cells nz1 35)) (w.heap.size+1+1) nz1:=aOwn;generalize (((w.alloc (.cells #[.bool s1,.slice A1 n1 c1] 35)).alloc (.cells #[.bool s2,.slice A2 n2 c2] 35)).alloc (.cells nz1 35))=W0 at *;have q:=num_sum (!s2) (G1.out.below hW) (G2.out.below hW);rw [<- H.out.2.2,sg_not,<- Int.sub_eq_add_neg,H.out.1,H.out.2.2] at q;refine Zd q ?_;rintro e w9 ⟨⟨b,rfl,hb1,hb2,hb3⟩,hb4⟩;have hbB:=hW.trans (hb4.mono hW.size);have q6:=o6.below hb4;have q6c:=q6.cell;have q6f:=q6.thaw;have o6z:=o6.lt;have hzN:=hW.size;have HB:=Zh (Zi hb1 (Zi hb2 hb3));clear o6 hb1 hb2 hb3 hb4;obtain ⟨A9,n9,c9,hsl⟩:=slN_form z b;simp only [numV];rw [hsl];have HSL:=Zh hsl;clear hsl;go_wp2;refine retC (b:=w.heap.size+1+1) (v:= .tuple #[.agg #[.bool (sgnN z),.slice A9 n9 c9],.bool (fits z)]) ((q6.set 0 _).set 1 _) (fun w' hw'=>by simp [results,Tryz.results104,go_sem,hw']) rfl ⟨⟨b,by rw [numV,HSL.out],Zm hzN HB.out.1,by simp; exact HB.out.2.1,(HB.out.2.2.far (by simp; have:=HB.out.1; omega) _).far (by simp; have:=HB.out.1; omega) _⟩,(hbB.setCell aT _).setCell aT _⟩
theorem num_Mul {w:World} {v1 v2:Value} {z1 z2:Int} (h1:NumAt w v1 z1) (h2:NumAt w v2 z2):Calls Tryz.prog 101 #[v1,v2] w (RetN w (z1*z2)):=by
 obtain ⟨z,hz⟩:=Zx (z1*z2);rw [hz];obtain ⟨r1,k1⟩:=h1.raw;obtain ⟨r2,k2⟩:=h2.raw;obtain ⟨A1,n1,c1,rfl,hc1,hm1,hl1,d1⟩:=h1;obtain ⟨A2,n2,c2,rfl,hc2,hm2,hl2,d2⟩:=h2;obtain ⟨s1,hs1⟩:=Zx (decide (z1<0));obtain ⟨s2,hs2⟩:=Zx (decide (z2<0));rw [hs1] at r1 k1 ⊢;rw [hs2] at r2 k2 ⊢;have H:=Zh (Zi hz (Zi hs1 hs2));have D1:=Zh d1;have D2:=Zh d2;have R1:=Zh (Zi r1 k1);have R2:=Zh (Zi r2 k2);clear hz hs1 hs2 d1 d2 r1 k1 r2 k2;go_enter Tryz.func101,Tryz.ntmps101;have hW:=((((Zb w.heap.size w).alloc (Zr _) (.cells #[.bool s1,.slice A1 n1 c1] 35)).alloc aS (.cells #[.bool s2,.slice A2 n2 c2] 35)).alloc aT (.cells nz1 35));go_wp2_with fail;have o3:Own (((w.alloc (.cells #[.bool s1,.slice A1 n1 c1] 35)).alloc (.cells #[.bool s2,.slice A2 n2 c2] 35)).alloc (.cells nz1 35)) w.heap.size #[.bool s1,.slice A1 n1 c1]:=aOwn;have o4:Own (((w.alloc (.cells #[.bool s1,.slice A1 n1 c1] 35)).alloc (.cells #[.bool s2,.slice A2 n2 c2] 35)).alloc (.cells nz1 35)) (w.heap.size+1) #[.bool s2,.slice A2 n2 c2]:=aOwn;have o6:Own (((w.alloc (.cells #[.bool s1,.slice A1 n1 c1] 35)).alloc (.cells #[.bool s2,.slice A2 n2 c2] 35)).alloc (.cells nz1 35)) (w.heap.size+1+1) nz1:=aOwn;generalize (((w.alloc (.cells #[.bool s1,.slice A1 n1 c1] 35)).alloc (.cells #[.bool s2,.slice A2 n2 c2] 35)).alloc (.cells nz1 35))=W0 at *;refine Zd (right_ok ⟨R1.out.1.below hW,R1.out.2⟩) ?_;rintro e u1 ⟨rfl,hb1⟩;have hz0:=hW.size;have hW1:=hW.trans (hb1.mono hz0);have p3:=o3.below hb1;have p4:=o4.below hb1;have p6:=o6.below hb1;clear o3 o4 o6 hb1;have p4c:=p4.cell;go_wp2_with fail;refine Zd (right_ok ⟨R2.out.1.below hW1,R2.out.2⟩) ?_;rintro e u2 ⟨rfl,hb2⟩;have hz1:=hW1.size;have hWW:=hW1.trans (hb2.mono hz1);replace p3:=p3.below hb2;replace p4:=p4.below hb2;replace p6:=p6.below hb2;clear p4c hb2 hW1;have X1:=Zh (D1.out.below hWW);have X2:=Zh (D2.out.below hWW);have p6z:=p6.lt;clear D1 D2 R1 R2 hz0 hz1 hW;obtain ⟨N,hN⟩:=Zx (z1.natAbs*z2.natAbs);have HN:=Zh hN;clear hN;go_wp2;have hTu:∀ u:World,Keeps [w.heap.size+1+1] u2 u->u.heap.size∉[w.heap.size+1+1]:=fun u hu hm=>by
  have h1:=List.mem_singleton.1 hm;have h2:=hu.1;omega
 have hTb:∀ b,b∈[w.heap.size+1+1]->b<u2.heap.size:=fun b hm=>by
  have h1:=List.mem_singleton.1 hm;omega
 have hTn:∀ b∈[w.heap.size+1+1],∃ cs,Own u2 b cs/\noU cs:=fun b hm=>by
  have h1:=List.mem_singleton.1 hm;subst h1;exact ⟨_,p6,noU_zero⟩
 have hwT:∀ u,Upd [w.heap.size+1+1] u2 u->Below w.heap.size w u:=fun u hu=>Upd.below hWW hu aT
 refine region_gen (T:=[w.heap.size+1+1]) [.make 4 [] (newB _ N),.make 10 [4] (numB _ z),.need 11 [10]] 13 0 40 (fun _ u=>Own u (w.heap.size+1+1) nz1) (fun _ _ _ h k=>h.below k) p6 aK aK (by rfl) ?_;have q_d3:=fun v y=>(p3.later (v:=v) (T:=[w.heap.size+1+1]) aT y).cell
 have q_d4:=fun v y=>(p4.later (v:=v) (T:=[w.heap.size+1+1]) aS y).cell
 unfold genWalk;refine ⟨_,pz1,?_⟩;refine one_of (by rfl) ⟨fun f=>⟨rfl,fun u hu _=>?_⟩,?_⟩
 ·refine make_call (f:=127) (args:=#[.slice A1 n1 c1,.slice A2 n2 c2]) (by (try simp only [LN]); (try simp only [newB_val,numB_val]); go_simp) ?_;have q:=mag_times (w:=u) c1 c2 (X1.out.keepU hu hTn) (X2.out.keepU hu hTn) aO aO;rw [digs_val,digs_val,HN.out] at q;refine q.mono ?_;rintro e wx ⟨⟨C,rfl,q1,q2,q3,q4⟩,hbx⟩;exact ⟨(u.heap.size,C),rfl,Zr _,q4,hbx,hTu u hu,q1,q2,q3⟩
 have q_d3:=fun v y=>(p3.later (v:=v) (T:=[w.heap.size+1+1]) aT y).cell
 have q_d4:=fun v y=>(p4.later (v:=v) (T:=[w.heap.size+1+1]) aS y).cell
 unfold genWalk;refine ⟨_,pz12,?_⟩;refine one_of (by rfl) ⟨fun f=>⟨rfl,fun u hu hm=>?_⟩,?_⟩
 ·refine make_call (f:=61) (args:=#[.slice (some ⟨(f 4).1,0,none⟩) (digs N).length (f 4).2,.bool (!(s1==s2))]) (by (try simp only [LN]); (try simp only [newB_val,numB_val]); go_simp) ?_;have hR:(newB [w.heap.size+1+1] N).R (f 4) u:=hm 4 aS;obtain ⟨r0,r1,r2,r3⟩:=hR;have q:=r3.number (z:=z) (f 4).2 r1 aO (neg:=!(s1==s2)) (by rw [digs_val,<- HN.out,<- H.out.2.1,<- H.out.2.2]; exact (sg_mul z1 z2).trans H.out.1);refine q.mono ?_;rintro e wx ⟨⟨b,rfl,q1,q2,q3⟩,hbx⟩;exact ⟨(b,0),rfl,q1,q2,hbx,fun hm=>absurd (hTb b hm) (by have:=hu.1; omega),q3⟩
 unfold genWalk;refine ⟨_,pz12,?_⟩;unfold genWalk;refine ⟨_,pz12,?_⟩;intro f u' hup hph hmade hdist;obtain ⟨⟨hT9,oN⟩,loN,hiN⟩:=hmade 10 aO rfl;replace oN:NumO u' (f 10).1 z:=oN;clear hmade hdist;simp only [TK,Nat.reduceSub,Nat.reduceAdd]
 (try simp only [LN])
 (try simp only [newB_val,numB_val])
 generalize (f 10).1=b9 at *;generalize (f 4).1=b8 at *;generalize (f 4).2=c8 at *;clear f;have q6:Own u' (w.heap.size+1+1) nz1:=hph;have hwu:Below w.heap.size w u':=hwT u' hup;clear hph;obtain ⟨A9,n9,c9,hsl⟩:=slN_form z b9;simp only [numV];rw [hsl];have HSL:=Zh hsl;clear hsl;have q6c:=q6.cell;have q6f:=q6.thaw;have hkT:=Upd.keeps (Keeps.refl _ _) hup;refine effc_mem (by rfl) (fun K hK=>?_);go_simp;refine hK _ _ ((hkT.set aS _).set aS _) (fun u1 hu1=>?_);clear hK K;have hwu1:Below w.heap.size w u1:=((hwu.setCell aT _).setCell aT _).trans (hu1.mono (by simp [World.setCell]; exact hwu.size));have q7:=((q6.set 0 (.bool (sgnN z))).set 1 (.slice A9 n9 c9)).below hu1;have oN1:=NumO.below (NumO.far (p:=⟨w.heap.size+1+1,1,none⟩) (NumO.far (p:=⟨w.heap.size+1+1,0,none⟩) oN aT (.bool (sgnN z))) aT (.slice A9 n9 c9)) hu1;have hlt1:b9<u1.heap.size:=by have:=hu1.size; simp [World.setCell] at this; omega
 have hk1:=(((hkT.set aS _).set aS _).later hu1);clear q6 q6c q6f oN hu1;refine effc_mem (by rfl) (fun K hK=>?_);go_simp;refine hK _ _ hk1 (fun u2 hu2=>?_);clear hK K;have q8:=q7.below hu2;have oN2:=oN1.below hu2;have hwu2:=hwu1.trans (hu2.mono hwu1.size);have hlt2:=Zl hlt1 hu2.size;refine effc_nil ?_
 (try simp only [LN])
 go_wp2;refine retC (b:=w.heap.size+1+1) (v:= .tuple #[.agg #[.bool (sgnN z),.slice A9 n9 c9],.bool (fits z)]) q8 (fun w' hw'=>by simp [results,Tryz.results101,go_sem,hw']) rfl ⟨⟨b9,by rw [numV,HSL.out],?_,hlt2,oN2⟩,hwu2⟩;omega
theorem ordI_range (a b:Int):-1<=ordI a b/\ordI a b<=1:=by
 unfold ordI;split
 ·omega
 ·split <;> omega
theorem ord_nn {a b:Int} (h1:a<0) (h2:b<0):- ordI (a.natAbs:Nat) (b.natAbs:Nat)=ordI a b:=by
 rcases Int.lt_trichotomy a b with h | h | h
 ·rw [ordI_lt h,ordI_gt aO]
 ·rw [h,ordI_eq,ordI_eq]; rfl
 ·rw [ordI_gt h,ordI_lt aO]; rfl
theorem ord_pp {a b:Int} (h1:¬ a<0) (h2:¬ b<0):ordI (a.natAbs:Nat) (b.natAbs:Nat)=ordI a b:=by
 have e1:((a.natAbs:Nat):Int)=a:=aO
 have e2:((b.natAbs:Nat):Int)=b:=aO
 rw [e1,e2]
theorem num_Cmp {w:World} {v1 v2:Value} {z1 z2:Int} (h1:NumAt w v1 z1) (h2:NumAt w v2 z2):Calls Tryz.prog 26 #[v1,v2] w fun r w'=>r = .returned (.int .i64 (ordI z1 z2))/\Below w.heap.size w w':=by
 obtain ⟨z,hz⟩:=Zx (ordI z1 z2);rw [hz];obtain ⟨r1,k1⟩:=h1.raw;obtain ⟨r2,k2⟩:=h2.raw;obtain ⟨A1,n1,c1,rfl,hc1,hm1,hl1,d1⟩:=h1;obtain ⟨A2,n2,c2,rfl,hc2,hm2,hl2,d2⟩:=h2;obtain ⟨s1,hs1⟩:=Zx (decide (z1<0));obtain ⟨s2,hs2⟩:=Zx (decide (z2<0));rw [hs1] at r1 k1 ⊢;rw [hs2] at r2 k2 ⊢;have H:=Zh (Zi hz (Zi hs1 hs2));have D1:=Zh d1;have D2:=Zh d2;have R1:=Zh (Zi r1 k1);have R2:=Zh (Zi r2 k2);clear hz hs1 hs2 d1 d2 r1 k1 r2 k2;go_enter Tryz.func26,Tryz.ntmps26;have hW:=(((Zb w.heap.size w).alloc (Zr _) (.cells #[.bool s1,.slice A1 n1 c1] 35)).alloc aS (.cells #[.bool s2,.slice A2 n2 c2] 35));go_wp2_with fail;have o3:Own ((w.alloc (.cells #[.bool s1,.slice A1 n1 c1] 35)).alloc (.cells #[.bool s2,.slice A2 n2 c2] 35)) w.heap.size #[.bool s1,.slice A1 n1 c1]:=aOwn;have o4:Own ((w.alloc (.cells #[.bool s1,.slice A1 n1 c1] 35)).alloc (.cells #[.bool s2,.slice A2 n2 c2] 35)) (w.heap.size+1) #[.bool s2,.slice A2 n2 c2]:=aOwn;generalize ((w.alloc (.cells #[.bool s1,.slice A1 n1 c1] 35)).alloc (.cells #[.bool s2,.slice A2 n2 c2] 35))=W0 at *;refine Zd (right_ok ⟨R1.out.1.below hW,R1.out.2⟩) ?_;rintro e u1 ⟨rfl,hb1⟩;have hz0:=hW.size;have hW1:=hW.trans (hb1.mono hz0);have p3:=o3.below hb1;have p4:=o4.below hb1;clear o3 o4 hb1;have p4c:=p4.cell;go_wp2_with fail;refine Zd (right_ok ⟨R2.out.1.below hW1,R2.out.2⟩) ?_;rintro e u2 ⟨rfl,hb2⟩;have hz1:=hW1.size;have hWW:=hW1.trans (hb2.mono hz1);replace p3:=p3.below hb2;replace p4:=p4.below hb2;clear p4c hb2 hW1;have X1:=Zh (D1.out.below hWW);have X2:=Zh (D2.out.below hWW);have hzW:=hWW.size;clear D1 D2 R1 R2 hz0 hz1 hW;obtain ⟨o,ho⟩:=Zx (ordI (z1.natAbs:Nat) (z2.natAbs:Nat));have p3c:=p3.cell;have p4c:=p4.cell;go_wp2_with fail;refine Zd (mag_compare c1 c2 X1.out X2.out aO aO hc1 hm1) ?_;rintro e w5 ⟨rfl,hb5⟩;have hwN:=hWW.trans (hb5.mono hzW);replace p3c:=(p3.below hb5).cell;replace p4c:=(p4.below hb5).cell;have hr:=ordI_range (z1.natAbs:Nat) (z2.natAbs:Nat);rw [ho] at hr ⊢;have hr1:=hr.1;have hr2:=hr.2;have HO:=Zh ho;clear ho hr p3 p4;cases s1 <;> cases s2
 ·go_wp2;go_ret;exact ⟨by rw [<- HO.out,ord_pp (of_decide_eq_false H.out.2.1) (of_decide_eq_false H.out.2.2),H.out.1]; rfl,hwN⟩
 ·go_wp2;go_ret;exact ⟨by
   have a1:=of_decide_eq_false H.out.2.1;have a2:=of_decide_eq_true H.out.2.2;have e:=H.out.1;rw [ordI_gt aO] at e;rw [<- e]; rfl,hwN⟩
 ·go_wp2;go_ret;exact ⟨by
   have a1:=of_decide_eq_true H.out.2.1;have a2:=of_decide_eq_false H.out.2.2;have e:=H.out.1;rw [ordI_lt aO] at e;rw [<- e]; rfl,hwN⟩
 ·obtain ⟨m,hm⟩:=Zx (-o);have HM:=Zh hm;have hmw:IntKind.i64.wrap (-o)=m:=by rw [hm,IntKind.wrap_i64]; omega
  go_wp2;go_ret;exact ⟨by rw [<- HM.out,<- HO.out,ord_nn (of_decide_eq_true H.out.2.1) (of_decide_eq_true H.out.2.2),H.out.1]; rfl,hwN⟩
end Go.Proofs.YtflgngjocgiojaaGreat
namespace Go.Proofs.YtflgngjocgiojaaGreat
theorem div_pos {z1 z2 q r:Int} (h:r+z2*q=z1) (h0:0<=r) (h1:r<z2):z1 / z2=q/\z1%z2=r:=(Int.ediv_emod_unique aO).2 ⟨h,h0,h1⟩
theorem div_any {z1 z2 q r:Int} (h:r+z2*q=z1) (h0:0<=r) (h1:r<(z2.natAbs:Nat)):z1 / z2=q/\z1%z2=r:=by
 rcases Int.lt_or_le z2 0 with hn | hp
 ·have e:z2=-((z2.natAbs:Nat):Int):=aO
  generalize ((z2.natAbs:Nat):Int)=b at *;subst e;obtain ⟨a1,a2⟩:=div_pos (z1:=z1) (z2:=b) (q:=-q) (r:=r) (by rw [<- h,Int.mul_neg,Int.neg_mul]) h0 h1;rw [Int.ediv_neg,Int.emod_neg,a1,a2,Int.neg_neg];exact ⟨rfl,rfl⟩
 ·have e:((z2.natAbs:Nat):Int)=z2:=aO
  rw [e] at h1;exact div_pos h h0 h1
theorem div_no {z1 z2:Int} (h0:z2≠0) (h:decide (z1<0)=false\/z1.natAbs%z2.natAbs=0):sg (!(decide (z1<0)==decide (z2<0))) (z1.natAbs / z2.natAbs)=z1 / z2/\sg false (z1.natAbs%z2.natAbs)=z1%z2:=by
 have hd:=Nat.div_add_mod z1.natAbs z2.natAbs;have hm:=Nat.mod_lt z1.natAbs (show 0<z2.natAbs by omega);have hdi:((z2.natAbs:Nat):Int)*((z1.natAbs / z2.natAbs:Nat):Int)+((z1.natAbs%z2.natAbs:Nat):Int)=((z1.natAbs:Nat):Int):=by
  rw [<- Int.natCast_mul,<- Int.natCast_add,hd]
 suffices hs:z1 / z2=sg (!(decide (z1<0)==decide (z2<0))) (z1.natAbs / z2.natAbs)/\z1%z2=sg false (z1.natAbs%z2.natAbs) from ⟨hs.1.symm,hs.2.symm⟩
 apply div_any
 ·generalize z1.natAbs / z2.natAbs=q at *;generalize z1.natAbs%z2.natAbs=r at *
  by_cases a1:z1<0
  ·have hr:r=0:=by
    rcases h with h | h
    ·simp [a1] at h
    ·exact h
   subst hr;have e1:z1=-((z1.natAbs:Nat):Int):=aO
   by_cases a2:z2<0
   ·have e2:z2=-((z2.natAbs:Nat):Int):=aO
    simp only [a1,a2,sg,decide_true];generalize ((z2.natAbs:Nat):Int)=y at *;generalize ((z1.natAbs:Nat):Int)=x at *;subst e1 e2;simp;grind
   ·have e2:z2=((z2.natAbs:Nat):Int):=aO
    simp only [a1,a2,sg,decide_true,decide_false];generalize ((z2.natAbs:Nat):Int)=y at *;generalize ((z1.natAbs:Nat):Int)=x at *;subst e1 e2;simp;grind
  ·have e1:z1=((z1.natAbs:Nat):Int):=aO
   by_cases a2:z2<0
   ·have e2:z2=-((z2.natAbs:Nat):Int):=aO
    simp only [a1,a2,sg,decide_true,decide_false];generalize ((z2.natAbs:Nat):Int)=y at *;generalize ((z1.natAbs:Nat):Int)=x at *;subst e1 e2;simp;grind
   ·have e2:z2=((z2.natAbs:Nat):Int):=aO
    simp only [a1,a2,sg,decide_false];generalize ((z2.natAbs:Nat):Int)=y at *;generalize ((z1.natAbs:Nat):Int)=x at *;subst e1 e2;simp;grind
 ·unfold sg; simp <;> omega
 ·unfold sg; simp <;> omega
theorem div_adj {z1 z2:Int} (h0:z2≠0) (a1:decide (z1<0)=true) (hr:0<z1.natAbs%z2.natAbs):sg (!(decide (z1<0)==decide (z2<0))) (z1.natAbs / z2.natAbs+1)=z1 / z2/\sg false (z2.natAbs - z1.natAbs%z2.natAbs)=z1%z2:=by
 have hd:=Nat.div_add_mod z1.natAbs z2.natAbs;have hm:=Nat.mod_lt z1.natAbs (show 0<z2.natAbs by omega);have hdi:((z2.natAbs:Nat):Int)*((z1.natAbs / z2.natAbs:Nat):Int)+((z1.natAbs%z2.natAbs:Nat):Int)=((z1.natAbs:Nat):Int):=by
  rw [<- Int.natCast_mul,<- Int.natCast_add,hd]
 suffices hs:z1 / z2=sg (!(decide (z1<0)==decide (z2<0))) (z1.natAbs / z2.natAbs+1)/\z1%z2=sg false (z2.natAbs - z1.natAbs%z2.natAbs) from ⟨hs.1.symm,hs.2.symm⟩
 have a1':=of_decide_eq_true a1;have e1:z1=-((z1.natAbs:Nat):Int):=aO
 have e3:((z2.natAbs - z1.natAbs%z2.natAbs:Nat):Int)=((z2.natAbs:Nat):Int) - ((z1.natAbs%z2.natAbs:Nat):Int):=aO
 apply div_any
 ·have ev:sg false (z2.natAbs - z1.natAbs%z2.natAbs)=((z2.natAbs:Nat):Int) - ((z1.natAbs%z2.natAbs:Nat):Int):=e3;rw [ev];generalize z1.natAbs / z2.natAbs=q at *;generalize z1.natAbs%z2.natAbs=r at *
  by_cases a2:z2<0
  ·have e2:z2=-((z2.natAbs:Nat):Int):=aO
   simp only [a1,a2,sg,decide_true];generalize ((z2.natAbs:Nat):Int)=y at *;generalize ((z1.natAbs:Nat):Int)=x at *;subst e1 e2;simp;grind
  ·have e2:z2=((z2.natAbs:Nat):Int):=aO
   simp only [a1,a2,sg,decide_false];generalize ((z2.natAbs:Nat):Int)=y at *;generalize ((z1.natAbs:Nat):Int)=x at *;subst e1 e2;simp;grind
 ·unfold sg; simp <;> omega
 ·unfold sg; simp <;> omega
theorem fits_le {a b:Int} (h:a.natAbs<=b.natAbs) (hb:fits b=true):fits a=true:=by
 have h1:=digs_mono h;have h2:(digs b.natAbs).length<=64:=of_decide_eq_true hb;exact decide_eq_true aO
theorem NumAt.fits {w:World} {v:Value} {z:Int} (h:NumAt w v z):Go.Proofs.YtflgngjocgiojaaGreat.fits z=true:=by
 obtain ⟨A,n,c,e,h1,h2,h3,h4⟩:=h;exact decide_eq_true (by rw [h4.len]; exact h3)
theorem fits_div {z1 z2:Int} (h0:z2≠0) (h:fits z1=true):fits (z1 / z2)=true:=by
 refine fits_le ?_ h;have hd:=Nat.div_add_mod z1.natAbs z2.natAbs;have hp:1<=z2.natAbs:=aO
 have hq:=Nat.mul_le_mul_right (z1.natAbs / z2.natAbs) hp
 by_cases ha:decide (z1<0)=false\/z1.natAbs%z2.natAbs=0
 ·have e:=(div_no h0 ha).1;rw [<- e,sg_abs];omega
 ·have e:=(div_adj h0 (by cases hh:decide (z1<0); exact absurd (.inl hh) ha; rfl) (by
   rcases Nat.eq_zero_or_pos (z1.natAbs%z2.natAbs) with h | h
   ·exact absurd (.inr h) ha
   ·exact h)).1
  rw [<- e,sg_abs];have:z1.natAbs%z2.natAbs≠0:=fun h=>ha (.inr h)
  omega
end Go.Proofs.YtflgngjocgiojaaGreat
