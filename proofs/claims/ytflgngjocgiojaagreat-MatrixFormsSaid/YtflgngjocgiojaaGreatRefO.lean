import Derived.Test.YtflgngjocgiojaaGreatRefN
set_option linter.all false
namespace Go.Proofs.YtflgngjocgiojaaGreat
open Go.RowKit
def newRB (T:List Nat) (N:Nat):EBS T where
 val p:= .slice (some ⟨p.1,0,none⟩) (digs N).length p.2
 R p u:=p.1∉T/\(digs N).length<=p.2/\p.2<=9223372036854775807/\DigsAt u (some ⟨p.1,0,none⟩) (digs N).length (digs N)
 st _ _ _ h k:=⟨h.1,h.2.1,h.2.2.1,h.2.2.2.updT k (fun b off e _=>by cases e; exact h.1)⟩
theorem newRB_val {T:List Nat} {N:Nat} {p:Nat×Nat}:(newRB T N).val p = .slice (some ⟨p.1,0,none⟩) (digs N).length p.2:=rfl
def numMB (T:List Nat) (z:Int):EBS T where
 val p:= .tuple #[numC z p.1 p.2,.bool (fits z)]
 R p u:=p.1∉T/\NumC u p.1 p.2 z
 st _ _ _ h k:=⟨h.1,h.2.upd h.1 k⟩
theorem numMB_val {T:List Nat} {z:Int} {p:Nat×Nat}:(numMB T z).val p = .tuple #[numC z p.1 p.2,.bool (fits z)]:=rfl
theorem sg_same {a b:Int} (h:decide (a<0)=decide (b<0)):sg (decide (a<0)) (a.natAbs+b.natAbs)=a+b:=by
 unfold sg
 by_cases h1:a<0
 ·have h2:b<0:=by rw [decide_eq_true h1] at h; exact of_decide_eq_true h.symm
  rw [if_pos (decide_eq_true h1)];omega
 ·have h2:¬ b<0:=by rw [decide_eq_false h1] at h; exact of_decide_eq_false h.symm
  rw [if_neg (by rw [decide_eq_false h1]; simp)];omega
theorem sg_big {a b:Int} (h:decide (a<0)≠decide (b<0)) (hab:a.natAbs<=b.natAbs):sg (decide (b<0)) (b.natAbs - a.natAbs)=b+a:=by
 unfold sg
 by_cases h1:b<0
 ·have h2:¬ a<0:=fun h2=>h (by rw [decide_eq_true h1,decide_eq_true h2])
  rw [if_pos (decide_eq_true h1)];omega
 ·have h2:a<0:=by
   apply Classical.byContradiction;intro h2;exact h (by rw [decide_eq_false h1,decide_eq_false h2])
  rw [if_neg (by rw [decide_eq_false h1]; simp)];omega
theorem big_pos {a b:Int} (h:decide (a<0)≠decide (b<0)) (hab:a.natAbs<=b.natAbs):0<b.natAbs:=by
 rcases Nat.eq_zero_or_pos b.natAbs with h0 | h0
 ·have h1:a=0:=aO
  have h2:b=0:=aO
  subst h1;subst h2;exact absurd rfl h
 ·exact h0
theorem digs_pos {M:Nat} (h:0<M):0<(digs M).length:=by
 rcases Nat.eq_zero_or_pos (digs M).length with h0 | h0
 ·have:=digs_nil.1 (List.eq_nil_of_length_eq_zero h0);omega
 ·exact h0
set_option maxRecDepth 100000 in
set_option maxHeartbeats 4000000 in
theorem ref1_Mul {w:World} {v1 v2:Value} {z1 z2:Int} (h1:NumAt w v1 z1) (h2:NumAt w v2 z2):Calls Tryz.prog 83 #[v1,v2] w (RetM w (z1*z2)):=by
 obtain ⟨z,hz⟩:=Zx (z1*z2);rw [hz];have G1:=Zh h1;have G2:=Zh h2;obtain ⟨r1,k1⟩:=h1.raw;obtain ⟨r2,k2⟩:=h2.raw;obtain ⟨A1,n1,c1,rfl,hc1,hm1,hl1,d1⟩:=h1;obtain ⟨A2,n2,c2,rfl,hc2,hm2,hl2,d2⟩:=h2;obtain ⟨s1,hs1⟩:=Zx (decide (z1<0));obtain ⟨s2,hs2⟩:=Zx (decide (z2<0));rw [hs1] at r1 k1 G1 ⊢;rw [hs2] at r2 k2 G2 ⊢;have H:=Zh (Zi hz (Zi hs1 hs2));have D1:=Zh d1;have D2:=Zh d2;have R1:=Zh (Zi r1 k1);have R2:=Zh (Zi r2 k2);clear hz hs1 hs2 d1 d2 r1 k1 r2 k2;go_enter Tryz.func83,Tryz.ntmps83;have hW:=((((Zb w.heap.size w).alloc (Zr _) (.cells #[.bool s1,.slice A1 n1 c1] 35)).alloc aS (.cells #[.bool s2,.slice A2 n2 c2] 35)).alloc aT (.cells #[.bool false,.slice none 0 0] 35));go_wp2_with fail;have o3:Own (((w.alloc (.cells #[.bool s1,.slice A1 n1 c1] 35)).alloc (.cells #[.bool s2,.slice A2 n2 c2] 35)).alloc (.cells #[.bool false,.slice none 0 0] 35)) w.heap.size #[.bool s1,.slice A1 n1 c1]:=aOwn;have o4:Own (((w.alloc (.cells #[.bool s1,.slice A1 n1 c1] 35)).alloc (.cells #[.bool s2,.slice A2 n2 c2] 35)).alloc (.cells #[.bool false,.slice none 0 0] 35)) (w.heap.size+1) #[.bool s2,.slice A2 n2 c2]:=aOwn;have o6:Own (((w.alloc (.cells #[.bool s1,.slice A1 n1 c1] 35)).alloc (.cells #[.bool s2,.slice A2 n2 c2] 35)).alloc (.cells #[.bool false,.slice none 0 0] 35)) (w.heap.size+1+1) #[.bool false,.slice none 0 0]:=aOwn;generalize (((w.alloc (.cells #[.bool s1,.slice A1 n1 c1] 35)).alloc (.cells #[.bool s2,.slice A2 n2 c2] 35)).alloc (.cells #[.bool false,.slice none 0 0] 35))=W0 at *;refine Zd (ref_right (G1.out.below hW)) ?_;rintro e u1 ⟨rfl,hb1⟩;have hz0:=hW.size;have hW1:=hW.trans (hb1.mono hz0);have p3:=o3.below hb1;have p4:=o4.below hb1;have p6:=o6.below hb1;clear o3 o4 o6 hb1;have p4c:=p4.cell;go_wp2_with fail;refine Zd (ref_right (G2.out.below hW1)) ?_;rintro e u2 ⟨rfl,hb2⟩;have hz1:=hW1.size;have hWW:=hW1.trans (hb2.mono hz1);replace p3:=p3.below hb2;replace p4:=p4.below hb2;replace p6:=p6.below hb2;clear p4c hb2 hW1;have X1:=Zh (D1.out.below hWW);have X2:=Zh (D2.out.below hWW);have hzW:=hWW.size;have p6z:=p6.lt;clear D1 D2 R1 R2 hz0 hz1 hW;obtain ⟨N,hN⟩:=Zx (z1.natAbs*z2.natAbs);have HN:=Zh hN;clear hN;go_wp2;have hTu:∀ u:World,Keeps [w.heap.size+1+1] u2 u->u.heap.size∉[w.heap.size+1+1]:=fun u hu hm=>by
  have h1:=List.mem_singleton.1 hm;have h2:=hu.1;omega
 have hTb:∀ b,b∈[w.heap.size+1+1]->b<u2.heap.size:=fun b hm=>by
  have h1:=List.mem_singleton.1 hm;omega
 have hTn:∀ b∈[w.heap.size+1+1],∃ cs,Own u2 b cs/\noU cs:=fun b hm=>by
  have h1:=List.mem_singleton.1 hm;subst h1;exact ⟨_,p6,noU_zero⟩
 have hwT:∀ u,Upd [w.heap.size+1+1] u2 u->Below w.heap.size w u:=fun u hu=>Upd.below hWW hu aT
 refine region_gen (T:=[w.heap.size+1+1]) [.make 9 [] (newRB _ N),.make 10 [9] (numMB _ z),.need 11 [10]] 13 0 40 (fun _ u=>Own u (w.heap.size+1+1) #[.bool false,.slice none 0 0]) (fun _ _ _ h k=>h.below k) p6 aK aK (by rfl) ?_;unfold genWalk;apply Zs;apply Zi
 ·apply Piece.mk
  ·intro f v hv hr hne;simp only [List.take_succ_cons,List.take_zero,List.drop_succ_cons,List.drop_zero,Nat.reduceSub,Nat.reduceAdd];have d3:=fun y=>(p3.later (v:=v) (T:=[w.heap.size+1+1]) aT y).cell
   have d4:=fun y=>(p4.later (v:=v) (T:=[w.heap.size+1+1]) aS y).cell
   repeat (go_big_quiet_step (fail))
   refine wpQuiet_nil ?_;exact rfl
  ·intro f; kernel_rfl
  ·intro f f' hf; kernel_rfl
 simp only [List.take_succ_cons,List.take_zero,List.drop_succ_cons,List.drop_zero,Nat.reduceSub,Nat.reduceAdd,oneOp];refine ⟨fun f=>⟨rfl,fun u hu _=>?_⟩,?_⟩
 ·refine make_call (f:=120) (args:=#[.slice A1 n1 c1,.slice A2 n2 c2]) (by (try simp only [LN]); (try simp only [newB_val,numB_val,ownB_val,newRB_val,numMB_val]); go_simp) ?_;have q:=ref1_timesN (w:=u) c1 c2 (X1.out.keepU hu hTn) (X2.out.keepU hu hTn) aO aO;rw [HN.out] at q;refine q.mono ?_;rintro e wx ⟨⟨b,C,rfl,q1,q2,q3,q4,q5⟩,hbx⟩;have hus:=hu.1;exact ⟨(b,C),rfl,q4,q5,hbx,fun hm=>absurd (hTb b hm) aO,q1,q2,q3⟩
 unfold genWalk;apply Zs;apply Zi
 ·apply Piece.mk
  ·intro f v hv hr hne;simp only [List.take_succ_cons,List.take_zero,List.drop_succ_cons,List.drop_zero,Nat.reduceSub,Nat.reduceAdd]
   (try simp only [LN])
   (try simp only [newB_val,numB_val,ownB_val,newRB_val,numMB_val])
   have d3:=fun y=>(p3.later (v:=v) (T:=[w.heap.size+1+1]) aT y).cell
   have d4:=fun y=>(p4.later (v:=v) (T:=[w.heap.size+1+1]) aS y).cell
   repeat (go_big_quiet_step (fail))
   refine wpQuiet_nil ?_;exact rfl
  ·intro f; kernel_rfl
  ·intro f f' hf; simp
 simp only [List.take_succ_cons,List.take_zero,List.drop_succ_cons,List.drop_zero,Nat.reduceSub,Nat.reduceAdd,oneOp];refine ⟨fun f=>⟨rfl,fun u hu hm=>?_⟩,?_⟩
 ·refine make_call (f:=115) (args:=#[.bool (!(s1==s2)),.slice (some ⟨(f 9).1,0,none⟩) (digs N).length (f 9).2]) (by (try simp only [LN]); (try simp only [newB_val,numB_val,ownB_val,newRB_val,numMB_val]); go_simp) ?_;have hR:(newRB [w.heap.size+1+1] N).R (f 9) u:=hm 9 aS;obtain ⟨r0,r1,r2,r3⟩:=hR;have q:=ref1_signed (z:=z) (neg:=(!(s1==s2))) (f 9).2 r3 r1 r2 (by rw [digs_val,<- HN.out,<- H.out.2.1,<- H.out.2.2]; exact (sg_mul z1 z2).trans H.out.1);refine q.mono ?_;rintro e wx ⟨⟨b,C,rfl,q1,q2,q3⟩,hbx⟩;have hus:=hu.1;exact ⟨(b,C),rfl,q2,q3,hbx,fun hm=>absurd (hTb b hm) aO,q1⟩
 unfold genWalk;apply Zs;apply Zi
 ·apply Piece.mk
  ·intro f v hv hr hne;simp only [List.take_succ_cons,List.take_zero,List.drop_succ_cons,List.drop_zero,Nat.reduceSub,Nat.reduceAdd]
   (try simp only [LN])
   (try simp only [newB_val,numB_val,ownB_val,newRB_val,numMB_val])
   repeat (go_big_quiet_step (fail))
   refine wpQuiet_nil ?_;exact rfl
  ·intro f; kernel_rfl
  ·intro f f' hf; simp
 unfold genWalk;apply Zs;apply Zi
 ·apply Piece.mk
  ·intro f v hv hr hne;simp only [List.take_succ_cons,List.take_zero,List.drop_succ_cons,List.drop_zero,Nat.reduceSub,Nat.reduceAdd]
   (try simp only [LN])
   (try simp only [newB_val,numB_val,ownB_val,newRB_val,numMB_val])
   repeat (go_big_quiet_step (fail))
   refine wpQuiet_nil ?_;exact rfl
  ·intro f; kernel_rfl
  ·intro f f' hf; first | (simp; done) | (simp [hf 10 aS])
 intro f u' hup hph hmade hdist;obtain ⟨⟨hT9,oN⟩,loN,hiN⟩:=hmade 10 aO rfl;replace oN:NumC u' (f 10).1 (f 10).2 z:=oN;clear hmade hdist;simp only [List.take_succ_cons,List.take_zero,List.drop_succ_cons,List.drop_zero,Nat.reduceSub,Nat.reduceAdd]
 (try simp only [LN])
 (try simp only [newB_val,numB_val,ownB_val,newRB_val,numMB_val])
 generalize (f 10).1=b9 at *;generalize (f 10).2=C9 at *;generalize (f 9).1=b8 at *;generalize (f 9).2=c8 at *;clear f;have q6:Own u' (w.heap.size+1+1) #[.bool false,.slice none 0 0]:=hph;have hwu:Below w.heap.size w u':=hwT u' hup;clear hph;obtain ⟨A9,n9,c9,hsl⟩:=slC_form z b9 C9;simp only [numC];rw [hsl];have HSL:=Zh hsl;clear hsl;have q6c:=q6.cell;have q6f:=q6.thaw;have q6z:=q6.lt;have hkT:=Upd.keeps (Keeps.refl _ _) hup;refine effc_mem (by rfl) (fun K hK=>?_);go_simp;refine hK _ _ ((hkT.set aS _).set aS _) (fun u1 hu1=>?_);clear hK K;have hwu1:Below w.heap.size w u1:=((hwu.setCell (p:=⟨w.heap.size+1+1,0,none⟩) aT _).setCell (p:=⟨w.heap.size+1+1,1,none⟩) aT _).trans (hu1.mono (by simp [World.setCell]; exact hwu.size));have q7:=((q6.set 0 (.bool (sgnN z))).set 1 (.slice A9 n9 c9)).below hu1;have oN1:=NumC.below (NumC.far (p:=⟨w.heap.size+1+1,1,none⟩) (NumC.far (p:=⟨w.heap.size+1+1,0,none⟩) oN aT (.bool (sgnN z))) aT (.slice A9 n9 c9)) hu1;have hlt1:b9<u1.heap.size:=by have:=hu1.size; simp [World.setCell] at this; omega
 have hk1:=(((hkT.set (p:=⟨w.heap.size+1+1,0,none⟩) aS (.bool (sgnN z))).set (p:=⟨w.heap.size+1+1,1,none⟩) aS (.slice A9 n9 c9)).later hu1);clear q6 q6c q6f q6z oN hu1;refine effc_mem (by rfl) (fun K hK=>?_);go_simp;refine hK _ _ hk1 (fun u2' hu2=>?_);clear hK K;have q8:=q7.below hu2;have oN2:=oN1.below hu2;have hwu2:=hwu1.trans (hu2.mono hwu1.size);have hlt2:=Zl hlt1 hu2.size;refine effc_nil ?_
 (try simp only [LN])
 go_wp2;refine retC (b:=w.heap.size+1+1) (v:= .tuple #[.agg #[.bool (sgnN z),.slice A9 n9 c9],.bool (fits z)]) q8 (fun w' hw'=>by simp [results,Tryz.results83,go_sem,hw']) rfl ⟨⟨b9,C9,by rw [numC,HSL.out],oN2,?_,hlt2⟩,hwu2⟩;omega
set_option maxRecDepth 100000 in
set_option maxHeartbeats 4000000 in
theorem ref1_Add {w:World} {v1 v2:Value} {z1 z2:Int} (h1:NumAt w v1 z1) (h2:NumAt w v2 z2):Calls Tryz.prog 87 #[v1,v2] w (RetM w (z1+z2)):=by
 obtain ⟨z,hz⟩:=Zx (z1+z2);rw [hz];have G1:=Zh h1;have G2:=Zh h2;obtain ⟨r1,k1⟩:=h1.raw;obtain ⟨r2,k2⟩:=h2.raw;obtain ⟨A1,n1,c1,rfl,hc1,hm1,hl1,d1⟩:=h1;obtain ⟨A2,n2,c2,rfl,hc2,hm2,hl2,d2⟩:=h2;obtain ⟨s1,hs1⟩:=Zx (decide (z1<0));obtain ⟨s2,hs2⟩:=Zx (decide (z2<0));rw [hs1] at r1 k1 G1 ⊢;rw [hs2] at r2 k2 G2 ⊢;have H:=Zh (Zi hz (Zi hs1 hs2));have D1:=Zh d1;have D2:=Zh d2;have R1:=Zh (Zi r1 k1);have R2:=Zh (Zi r2 k2);clear hz hs1 hs2 d1 d2 r1 k1 r2 k2;go_enter Tryz.func87,Tryz.ntmps87;have hW:=((((Zb w.heap.size w).alloc (Zr _) (.cells #[.bool s1,.slice A1 n1 c1] 35)).alloc aS (.cells #[.bool s2,.slice A2 n2 c2] 35)).alloc aT (.cells #[.bool false,.slice none 0 0] 35));go_wp2_with fail;have o3:Own (((w.alloc (.cells #[.bool s1,.slice A1 n1 c1] 35)).alloc (.cells #[.bool s2,.slice A2 n2 c2] 35)).alloc (.cells #[.bool false,.slice none 0 0] 35)) w.heap.size #[.bool s1,.slice A1 n1 c1]:=aOwn;have o4:Own (((w.alloc (.cells #[.bool s1,.slice A1 n1 c1] 35)).alloc (.cells #[.bool s2,.slice A2 n2 c2] 35)).alloc (.cells #[.bool false,.slice none 0 0] 35)) (w.heap.size+1) #[.bool s2,.slice A2 n2 c2]:=aOwn;have o6:Own (((w.alloc (.cells #[.bool s1,.slice A1 n1 c1] 35)).alloc (.cells #[.bool s2,.slice A2 n2 c2] 35)).alloc (.cells #[.bool false,.slice none 0 0] 35)) (w.heap.size+1+1) #[.bool false,.slice none 0 0]:=aOwn;generalize (((w.alloc (.cells #[.bool s1,.slice A1 n1 c1] 35)).alloc (.cells #[.bool s2,.slice A2 n2 c2] 35)).alloc (.cells #[.bool false,.slice none 0 0] 35))=W0 at *;refine Zd (ref_right (G1.out.below hW)) ?_;rintro e u1 ⟨rfl,hb1⟩;have hz0:=hW.size;have hW1:=hW.trans (hb1.mono hz0);have p3:=o3.below hb1;have p4:=o4.below hb1;have p6:=o6.below hb1;clear o3 o4 o6 hb1;have p4c:=p4.cell;go_wp2_with fail;refine Zd (ref_right (G2.out.below hW1)) ?_;rintro e u2 ⟨rfl,hb2⟩;have hz1:=hW1.size;have hWW:=hW1.trans (hb2.mono hz1);replace p3:=p3.below hb2;replace p4:=p4.below hb2;replace p6:=p6.below hb2;clear p4c hb2 hW1;have X1:=Zh (D1.out.below hWW);have X2:=Zh (D2.out.below hWW);have hzW:=hWW.size;have p6z:=p6.lt;clear D1 D2 R1 R2 hz0 hz1 hW
 by_cases he:s1=s2
 ·have hss:(s1==s2)=true:=beq_iff_eq.2 he;obtain ⟨N,hN⟩:=Zx (z1.natAbs+z2.natAbs);have hz9:sg s1 N=z:=by rw [<- hN,<- H.out.1,<- H.out.2.1]; exact sg_same (by rw [H.out.2.1,H.out.2.2]; exact he)
  have HN:=Zh (Zi hN hz9);have p3c:=p3.cell;have p4c:=p4.cell;clear hN hz9 he;go_wp2;have hTu:∀ u:World,Keeps [w.heap.size+1+1] u2 u->u.heap.size∉[w.heap.size+1+1]:=fun u hu hm=>by
   have h1:=List.mem_singleton.1 hm;have h2:=hu.1;omega
  have hTb:∀ b,b∈[w.heap.size+1+1]->b<u2.heap.size:=fun b hm=>by
   have h1:=List.mem_singleton.1 hm;omega
  have hTn:∀ b∈[w.heap.size+1+1],∃ cs,Own u2 b cs/\noU cs:=fun b hm=>by
   have h1:=List.mem_singleton.1 hm;subst h1;exact ⟨_,p6,noU_zero⟩
  have hwT:∀ u,Upd [w.heap.size+1+1] u2 u->Below w.heap.size w u:=fun u hu=>Upd.below hWW hu aT
  refine region_gen (T:=[w.heap.size+1+1]) [.make 6 [] (newRB _ N),.make 7 [6] (numMB _ z),.need 8 [7]] 10 0 40 (fun _ u=>Own u (w.heap.size+1+1) #[.bool false,.slice none 0 0]) (fun _ _ _ h k=>h.below k) p6 aK aK (by rfl) ?_;unfold genWalk;apply Zs;apply Zi
  ·apply Piece.mk
   ·intro f v hv hr hne;simp only [List.take_succ_cons,List.take_zero,List.drop_succ_cons,List.drop_zero,Nat.reduceSub,Nat.reduceAdd];have d3:=fun y=>(p3.later (v:=v) (T:=[w.heap.size+1+1]) aT y).cell
    have d4:=fun y=>(p4.later (v:=v) (T:=[w.heap.size+1+1]) aS y).cell
    repeat (go_big_quiet_step (fail))
    refine wpQuiet_nil ?_;exact rfl
   ·intro f; kernel_rfl
   ·intro f f' hf; kernel_rfl
  simp only [List.take_succ_cons,List.take_zero,List.drop_succ_cons,List.drop_zero,Nat.reduceSub,Nat.reduceAdd,oneOp];refine ⟨fun f=>⟨rfl,fun u hu _=>?_⟩,?_⟩
  ·refine make_call (f:=118) (args:=#[.slice A1 n1 c1,.slice A2 n2 c2]) (by (try simp only [LN]); (try simp only [newB_val,numB_val,ownB_val,newRB_val,numMB_val]); go_simp) ?_;have q:=ref1_plusN (w:=u) c1 c2 (X1.out.keepU hu hTn) (X2.out.keepU hu hTn) aO aO;rw [HN.out.1] at q;refine q.mono ?_;rintro e wx ⟨⟨b,C,rfl,q1,q2,q3,q4,q5⟩,hbx⟩;have hus:=hu.1;exact ⟨(b,C),rfl,q4,q5,hbx,fun hm=>absurd (hTb b hm) aO,q1,q2,q3⟩
  unfold genWalk;apply Zs;apply Zi
  ·apply Piece.mk
   ·intro f v hv hr hne;simp only [List.take_succ_cons,List.take_zero,List.drop_succ_cons,List.drop_zero,Nat.reduceSub,Nat.reduceAdd]
    (try simp only [LN])
    (try simp only [newB_val,numB_val,ownB_val,newRB_val,numMB_val])
    have d3:=fun y=>(p3.later (v:=v) (T:=[w.heap.size+1+1]) aT y).cell
    have d4:=fun y=>(p4.later (v:=v) (T:=[w.heap.size+1+1]) aS y).cell
    repeat (go_big_quiet_step (fail))
    refine wpQuiet_nil ?_;exact rfl
   ·intro f; kernel_rfl
   ·intro f f' hf; simp
  simp only [List.take_succ_cons,List.take_zero,List.drop_succ_cons,List.drop_zero,Nat.reduceSub,Nat.reduceAdd,oneOp];refine ⟨fun f=>⟨rfl,fun u hu hm=>?_⟩,?_⟩
  ·refine make_call (f:=115) (args:=#[.bool (s1),.slice (some ⟨(f 6).1,0,none⟩) (digs N).length (f 6).2]) (by (try simp only [LN]); (try simp only [newB_val,numB_val,ownB_val,newRB_val,numMB_val]); go_simp) ?_;have hR:(newRB [w.heap.size+1+1] N).R (f 6) u:=hm 6 aS;obtain ⟨r0,r1,r2,r3⟩:=hR;have q:=ref1_signed (z:=z) (neg:=(s1)) (f 6).2 r3 r1 r2 (by rw [digs_val]; exact HN.out.2);refine q.mono ?_;rintro e wx ⟨⟨b,C,rfl,q1,q2,q3⟩,hbx⟩;have hus:=hu.1;exact ⟨(b,C),rfl,q2,q3,hbx,fun hm=>absurd (hTb b hm) aO,q1⟩
  unfold genWalk;apply Zs;apply Zi
  ·apply Piece.mk
   ·intro f v hv hr hne;simp only [List.take_succ_cons,List.take_zero,List.drop_succ_cons,List.drop_zero,Nat.reduceSub,Nat.reduceAdd]
    (try simp only [LN])
    (try simp only [newB_val,numB_val,ownB_val,newRB_val,numMB_val])
    repeat (go_big_quiet_step (fail))
    refine wpQuiet_nil ?_;exact rfl
   ·intro f; kernel_rfl
   ·intro f f' hf; simp
  unfold genWalk;apply Zs;apply Zi
  ·apply Piece.mk
   ·intro f v hv hr hne;simp only [List.take_succ_cons,List.take_zero,List.drop_succ_cons,List.drop_zero,Nat.reduceSub,Nat.reduceAdd]
    (try simp only [LN])
    (try simp only [newB_val,numB_val,ownB_val,newRB_val,numMB_val])
    repeat (go_big_quiet_step (fail))
    refine wpQuiet_nil ?_;exact rfl
   ·intro f; kernel_rfl
   ·intro f f' hf; first | (simp; done) | (simp [hf 7 aS])
  intro f u' hup hph hmade hdist;obtain ⟨⟨hT9,oN⟩,loN,hiN⟩:=hmade 7 aO rfl;replace oN:NumC u' (f 7).1 (f 7).2 z:=oN;clear hmade hdist;simp only [List.take_succ_cons,List.take_zero,List.drop_succ_cons,List.drop_zero,Nat.reduceSub,Nat.reduceAdd]
  (try simp only [LN])
  (try simp only [newB_val,numB_val,ownB_val,newRB_val,numMB_val])
  generalize (f 7).1=b9 at *;generalize (f 7).2=C9 at *;generalize (f 6).1=b8 at *;generalize (f 6).2=c8 at *;clear f;have q6:Own u' (w.heap.size+1+1) #[.bool false,.slice none 0 0]:=hph;have hwu:Below w.heap.size w u':=hwT u' hup;clear hph;obtain ⟨A9,n9,c9,hsl⟩:=slC_form z b9 C9;simp only [numC];rw [hsl];have HSL:=Zh hsl;clear hsl;have q6c:=q6.cell;have q6f:=q6.thaw;have q6z:=q6.lt;have hkT:=Upd.keeps (Keeps.refl _ _) hup;refine effc_mem (by rfl) (fun K hK=>?_);go_simp;refine hK _ _ ((hkT.set aS _).set aS _) (fun u1 hu1=>?_);clear hK K;have hwu1:Below w.heap.size w u1:=((hwu.setCell (p:=⟨w.heap.size+1+1,0,none⟩) aT _).setCell (p:=⟨w.heap.size+1+1,1,none⟩) aT _).trans (hu1.mono (by simp [World.setCell]; exact hwu.size));have q7:=((q6.set 0 (.bool (sgnN z))).set 1 (.slice A9 n9 c9)).below hu1;have oN1:=NumC.below (NumC.far (p:=⟨w.heap.size+1+1,1,none⟩) (NumC.far (p:=⟨w.heap.size+1+1,0,none⟩) oN aT (.bool (sgnN z))) aT (.slice A9 n9 c9)) hu1;have hlt1:b9<u1.heap.size:=by have:=hu1.size; simp [World.setCell] at this; omega
  have hk1:=(((hkT.set (p:=⟨w.heap.size+1+1,0,none⟩) aS (.bool (sgnN z))).set (p:=⟨w.heap.size+1+1,1,none⟩) aS (.slice A9 n9 c9)).later hu1);clear q6 q6c q6f q6z oN hu1;refine effc_mem (by rfl) (fun K hK=>?_);go_simp;refine hK _ _ hk1 (fun u2' hu2=>?_);clear hK K;have q8:=q7.below hu2;have oN2:=oN1.below hu2;have hwu2:=hwu1.trans (hu2.mono hwu1.size);have hlt2:=Zl hlt1 hu2.size;refine effc_nil ?_
  (try simp only [LN])
  go_wp2;refine retC (b:=w.heap.size+1+1) (v:= .tuple #[.agg #[.bool (sgnN z),.slice A9 n9 c9],.bool (fits z)]) q8 (fun w' hw'=>by simp [results,Tryz.results87,go_sem,hw']) rfl ⟨⟨b9,C9,by rw [numC,HSL.out],oN2,?_,hlt2⟩,hwu2⟩;omega
 ·have hss:(s1==s2)=false:=beq_false_of_ne he;have hd12:decide (z1<0)≠decide (z2<0):=by rw [H.out.2.1,H.out.2.2]; exact he
  have HD12:=Zh hd12;have p3c:=p3.cell;have p4c:=p4.cell;obtain ⟨oc,hoc⟩:=Zx (ordI (z1.natAbs:Nat) (z2.natAbs:Nat));have HOC:=Zh hoc;clear hoc he hd12;go_wp2_with fail;refine Zd (callv (ref1_compare c1 c2 X1.out X2.out aO aO) (congrArg (Value.int IntKind.i64) HOC.out)) ?_;rintro e u3 ⟨rfl,hb3⟩;have Y1:=Zh (X1.out.below hb3);have Y2:=Zh (X2.out.below hb3);have hWW3:=hWW.trans (hb3.mono hWW.size);replace p3:=p3.below hb3;replace p4:=p4.below hb3;replace p6:=p6.below hb3;clear p3c p4c X1 X2 hb3 hzW p6z hWW;have p6z:=p6.lt;have hWW:=hWW3;clear hWW3;have hzW:=hWW.size;have el1:=Y1.out.len;have el2:=Y2.out.len
  by_cases hlt:z1.natAbs<z2.natAbs
  ·have hneg:oc<0:=by rw [<- HOC.out,ordI_lt aO]; omega
   obtain ⟨N,hN⟩:=Zx (z2.natAbs - z1.natAbs);have hz9:sg s2 N=z:=by rw [<- hN,<- H.out.1,<- H.out.2.2,Int.add_comm]; exact sg_big HD12.out (Nat.le_of_lt hlt)
   have h0n:0<n2:=by rw [<- el2]; exact digs_pos aO
   have hnn:n1<=n2:=by rw [<- el1,<- el2]; exact digs_mono (Nat.le_of_lt hlt)
   have HN:=Zh (Zi hN (Zi hz9 hlt));clear hN hz9 hlt;go_wp2;have hTu:∀ u:World,Keeps [w.heap.size+1+1] u3 u->u.heap.size∉[w.heap.size+1+1]:=fun u hu hm=>by
    have h1:=List.mem_singleton.1 hm;have h2:=hu.1;omega
   have hTb:∀ b,b∈[w.heap.size+1+1]->b<u3.heap.size:=fun b hm=>by
    have h1:=List.mem_singleton.1 hm;omega
   have hTn:∀ b∈[w.heap.size+1+1],∃ cs,Own u3 b cs/\noU cs:=fun b hm=>by
    have h1:=List.mem_singleton.1 hm;subst h1;exact ⟨_,p6,noU_zero⟩
   have hwT:∀ u,Upd [w.heap.size+1+1] u3 u->Below w.heap.size w u:=fun u hu=>Upd.below hWW hu aT
   refine region_gen (T:=[w.heap.size+1+1]) [.make 6 [] (newRB _ N),.make 7 [6] (numMB _ z),.need 8 [7]] 10 0 40 (fun _ u=>Own u (w.heap.size+1+1) #[.bool false,.slice none 0 0]) (fun _ _ _ h k=>h.below k) p6 aK aK (by rfl) ?_;unfold genWalk;apply Zs;apply Zi
   ·apply Piece.mk
    ·intro f v hv hr hne;simp only [List.take_succ_cons,List.take_zero,List.drop_succ_cons,List.drop_zero,Nat.reduceSub,Nat.reduceAdd];have d3:=fun y=>(p3.later (v:=v) (T:=[w.heap.size+1+1]) aT y).cell
     have d4:=fun y=>(p4.later (v:=v) (T:=[w.heap.size+1+1]) aS y).cell
     repeat (go_big_quiet_step (fail))
     refine wpQuiet_nil ?_;exact rfl
    ·intro f; kernel_rfl
    ·intro f f' hf; kernel_rfl
   simp only [List.take_succ_cons,List.take_zero,List.drop_succ_cons,List.drop_zero,Nat.reduceSub,Nat.reduceAdd,oneOp];refine ⟨fun f=>⟨rfl,fun u hu _=>?_⟩,?_⟩
   ·refine make_call (f:=119) (args:=#[.slice A2 n2 c2,.slice A1 n1 c1]) (by (try simp only [LN]); (try simp only [newB_val,numB_val,ownB_val,newRB_val,numMB_val]); go_simp) ?_;have q9:=ref1_minusN (w:=u) c2 c1 (Y2.out.keepU hu hTn) (Y1.out.keepU hu hTn) aO hnn (Nat.le_of_lt HN.out.2.2);have q:=q9.mono fun _ _ h=>Zi (h.1.2 h0n) h.2
    clear q9;rw [HN.out.1] at q;refine q.mono ?_;rintro e wx ⟨⟨b,C,rfl,q1,q2,q3,q4,q5⟩,hbx⟩;have hus:=hu.1;exact ⟨(b,C),rfl,q4,q5,hbx,fun hm=>absurd (hTb b hm) aO,q1,q2,q3⟩
   unfold genWalk;apply Zs;apply Zi
   ·apply Piece.mk
    ·intro f v hv hr hne;simp only [List.take_succ_cons,List.take_zero,List.drop_succ_cons,List.drop_zero,Nat.reduceSub,Nat.reduceAdd]
     (try simp only [LN])
     (try simp only [newB_val,numB_val,ownB_val,newRB_val,numMB_val])
     have d3:=fun y=>(p3.later (v:=v) (T:=[w.heap.size+1+1]) aT y).cell
     have d4:=fun y=>(p4.later (v:=v) (T:=[w.heap.size+1+1]) aS y).cell
     repeat (go_big_quiet_step (fail))
     refine wpQuiet_nil ?_;exact rfl
    ·intro f; kernel_rfl
    ·intro f f' hf; simp
   simp only [List.take_succ_cons,List.take_zero,List.drop_succ_cons,List.drop_zero,Nat.reduceSub,Nat.reduceAdd,oneOp];refine ⟨fun f=>⟨rfl,fun u hu hm=>?_⟩,?_⟩
   ·refine make_call (f:=115) (args:=#[.bool (s2),.slice (some ⟨(f 6).1,0,none⟩) (digs N).length (f 6).2]) (by (try simp only [LN]); (try simp only [newB_val,numB_val,ownB_val,newRB_val,numMB_val]); go_simp) ?_;have hR:(newRB [w.heap.size+1+1] N).R (f 6) u:=hm 6 aS;obtain ⟨r0,r1,r2,r3⟩:=hR;have q:=ref1_signed (z:=z) (neg:=(s2)) (f 6).2 r3 r1 r2 (by rw [digs_val]; exact HN.out.2.1);refine q.mono ?_;rintro e wx ⟨⟨b,C,rfl,q1,q2,q3⟩,hbx⟩;have hus:=hu.1;exact ⟨(b,C),rfl,q2,q3,hbx,fun hm=>absurd (hTb b hm) aO,q1⟩
   unfold genWalk;apply Zs;apply Zi
   ·apply Piece.mk
    ·intro f v hv hr hne;simp only [List.take_succ_cons,List.take_zero,List.drop_succ_cons,List.drop_zero,Nat.reduceSub,Nat.reduceAdd]
     (try simp only [LN])
     (try simp only [newB_val,numB_val,ownB_val,newRB_val,numMB_val])
     repeat (go_big_quiet_step (fail))
     refine wpQuiet_nil ?_;exact rfl
    ·intro f; kernel_rfl
    ·intro f f' hf; simp
   unfold genWalk;apply Zs;apply Zi
   ·apply Piece.mk
    ·intro f v hv hr hne;simp only [List.take_succ_cons,List.take_zero,List.drop_succ_cons,List.drop_zero,Nat.reduceSub,Nat.reduceAdd]
     (try simp only [LN])
     (try simp only [newB_val,numB_val,ownB_val,newRB_val,numMB_val])
     repeat (go_big_quiet_step (fail))
     refine wpQuiet_nil ?_;exact rfl
    ·intro f; kernel_rfl
    ·intro f f' hf; first | (simp; done) | (simp [hf 7 aS])
   intro f u' hup hph hmade hdist;obtain ⟨⟨hT9,oN⟩,loN,hiN⟩:=hmade 7 aO rfl;replace oN:NumC u' (f 7).1 (f 7).2 z:=oN;clear hmade hdist;simp only [List.take_succ_cons,List.take_zero,List.drop_succ_cons,List.drop_zero,Nat.reduceSub,Nat.reduceAdd]
   (try simp only [LN])
   (try simp only [newB_val,numB_val,ownB_val,newRB_val,numMB_val])
   generalize (f 7).1=b9 at *;generalize (f 7).2=C9 at *;generalize (f 6).1=b8 at *;generalize (f 6).2=c8 at *;clear f;have q6:Own u' (w.heap.size+1+1) #[.bool false,.slice none 0 0]:=hph;have hwu:Below w.heap.size w u':=hwT u' hup;clear hph;obtain ⟨A9,n9,c9,hsl⟩:=slC_form z b9 C9;simp only [numC];rw [hsl];have HSL:=Zh hsl;clear hsl;have q6c:=q6.cell;have q6f:=q6.thaw;have q6z:=q6.lt;have hkT:=Upd.keeps (Keeps.refl _ _) hup;refine effc_mem (by rfl) (fun K hK=>?_);go_simp;refine hK _ _ ((hkT.set aS _).set aS _) (fun u1 hu1=>?_);clear hK K;have hwu1:Below w.heap.size w u1:=((hwu.setCell (p:=⟨w.heap.size+1+1,0,none⟩) aT _).setCell (p:=⟨w.heap.size+1+1,1,none⟩) aT _).trans (hu1.mono (by simp [World.setCell]; exact hwu.size));have q7:=((q6.set 0 (.bool (sgnN z))).set 1 (.slice A9 n9 c9)).below hu1;have oN1:=NumC.below (NumC.far (p:=⟨w.heap.size+1+1,1,none⟩) (NumC.far (p:=⟨w.heap.size+1+1,0,none⟩) oN aT (.bool (sgnN z))) aT (.slice A9 n9 c9)) hu1;have hlt1:b9<u1.heap.size:=by have:=hu1.size; simp [World.setCell] at this; omega
   have hk1:=(((hkT.set (p:=⟨w.heap.size+1+1,0,none⟩) aS (.bool (sgnN z))).set (p:=⟨w.heap.size+1+1,1,none⟩) aS (.slice A9 n9 c9)).later hu1);clear q6 q6c q6f q6z oN hu1;refine effc_mem (by rfl) (fun K hK=>?_);go_simp;refine hK _ _ hk1 (fun u2' hu2=>?_);clear hK K;have q8:=q7.below hu2;have oN2:=oN1.below hu2;have hwu2:=hwu1.trans (hu2.mono hwu1.size);have hlt2:=Zl hlt1 hu2.size;refine effc_nil ?_
   (try simp only [LN])
   go_wp2;refine retC (b:=w.heap.size+1+1) (v:= .tuple #[.agg #[.bool (sgnN z),.slice A9 n9 c9],.bool (fits z)]) q8 (fun w' hw'=>by simp [results,Tryz.results87,go_sem,hw']) rfl ⟨⟨b9,C9,by rw [numC,HSL.out],oN2,?_,hlt2⟩,hwu2⟩;omega
  ·have hneg:¬ oc<0:=by
    rw [<- HOC.out];unfold ordI;rw [if_neg aO];split <;> omega
   obtain ⟨N,hN⟩:=Zx (z1.natAbs - z2.natAbs);have hle:z2.natAbs<=z1.natAbs:=aO
   have hz9:sg s1 N=z:=by rw [<- hN,<- H.out.1,<- H.out.2.1]; exact sg_big (fun e=>HD12.out e.symm) hle
   have h0n:0<n1:=by rw [<- el1]; exact digs_pos (big_pos (fun e=>HD12.out e.symm) hle)
   have hnn:n2<=n1:=by rw [<- el1,<- el2]; exact digs_mono hle
   have HN:=Zh (Zi hN (Zi hz9 hle));clear hN hz9 hlt hle;go_wp2;have hTu:∀ u:World,Keeps [w.heap.size+1+1] u3 u->u.heap.size∉[w.heap.size+1+1]:=fun u hu hm=>by
    have h1:=List.mem_singleton.1 hm;have h2:=hu.1;omega
   have hTb:∀ b,b∈[w.heap.size+1+1]->b<u3.heap.size:=fun b hm=>by
    have h1:=List.mem_singleton.1 hm;omega
   have hTn:∀ b∈[w.heap.size+1+1],∃ cs,Own u3 b cs/\noU cs:=fun b hm=>by
    have h1:=List.mem_singleton.1 hm;subst h1;exact ⟨_,p6,noU_zero⟩
   have hwT:∀ u,Upd [w.heap.size+1+1] u3 u->Below w.heap.size w u:=fun u hu=>Upd.below hWW hu aT
   refine region_gen (T:=[w.heap.size+1+1]) [.make 6 [] (newRB _ N),.make 7 [6] (numMB _ z),.need 8 [7]] 10 0 40 (fun _ u=>Own u (w.heap.size+1+1) #[.bool false,.slice none 0 0]) (fun _ _ _ h k=>h.below k) p6 aK aK (by rfl) ?_;unfold genWalk;apply Zs;apply Zi
   ·apply Piece.mk
    ·intro f v hv hr hne;simp only [List.take_succ_cons,List.take_zero,List.drop_succ_cons,List.drop_zero,Nat.reduceSub,Nat.reduceAdd];have d3:=fun y=>(p3.later (v:=v) (T:=[w.heap.size+1+1]) aT y).cell
     have d4:=fun y=>(p4.later (v:=v) (T:=[w.heap.size+1+1]) aS y).cell
     repeat (go_big_quiet_step (fail))
     refine wpQuiet_nil ?_;exact rfl
    ·intro f; kernel_rfl
    ·intro f f' hf; kernel_rfl
   simp only [List.take_succ_cons,List.take_zero,List.drop_succ_cons,List.drop_zero,Nat.reduceSub,Nat.reduceAdd,oneOp];refine ⟨fun f=>⟨rfl,fun u hu _=>?_⟩,?_⟩
   ·refine make_call (f:=119) (args:=#[.slice A1 n1 c1,.slice A2 n2 c2]) (by (try simp only [LN]); (try simp only [newB_val,numB_val,ownB_val,newRB_val,numMB_val]); go_simp) ?_;have q9:=ref1_minusN (w:=u) c1 c2 (Y1.out.keepU hu hTn) (Y2.out.keepU hu hTn) aO hnn HN.out.2.2;have q:=q9.mono fun _ _ h=>Zi (h.1.2 h0n) h.2
    clear q9;rw [HN.out.1] at q;refine q.mono ?_;rintro e wx ⟨⟨b,C,rfl,q1,q2,q3,q4,q5⟩,hbx⟩;have hus:=hu.1;exact ⟨(b,C),rfl,q4,q5,hbx,fun hm=>absurd (hTb b hm) aO,q1,q2,q3⟩
   unfold genWalk;apply Zs;apply Zi
   ·apply Piece.mk
    ·intro f v hv hr hne;simp only [List.take_succ_cons,List.take_zero,List.drop_succ_cons,List.drop_zero,Nat.reduceSub,Nat.reduceAdd]
     (try simp only [LN])
     (try simp only [newB_val,numB_val,ownB_val,newRB_val,numMB_val])
     have d3:=fun y=>(p3.later (v:=v) (T:=[w.heap.size+1+1]) aT y).cell
     have d4:=fun y=>(p4.later (v:=v) (T:=[w.heap.size+1+1]) aS y).cell
     repeat (go_big_quiet_step (fail))
     refine wpQuiet_nil ?_;exact rfl
    ·intro f; kernel_rfl
    ·intro f f' hf; simp
   simp only [List.take_succ_cons,List.take_zero,List.drop_succ_cons,List.drop_zero,Nat.reduceSub,Nat.reduceAdd,oneOp];refine ⟨fun f=>⟨rfl,fun u hu hm=>?_⟩,?_⟩
   ·refine make_call (f:=115) (args:=#[.bool (s1),.slice (some ⟨(f 6).1,0,none⟩) (digs N).length (f 6).2]) (by (try simp only [LN]); (try simp only [newB_val,numB_val,ownB_val,newRB_val,numMB_val]); go_simp) ?_;have hR:(newRB [w.heap.size+1+1] N).R (f 6) u:=hm 6 aS;obtain ⟨r0,r1,r2,r3⟩:=hR;have q:=ref1_signed (z:=z) (neg:=(s1)) (f 6).2 r3 r1 r2 (by rw [digs_val]; exact HN.out.2.1);refine q.mono ?_;rintro e wx ⟨⟨b,C,rfl,q1,q2,q3⟩,hbx⟩;have hus:=hu.1;exact ⟨(b,C),rfl,q2,q3,hbx,fun hm=>absurd (hTb b hm) aO,q1⟩
   unfold genWalk;apply Zs;apply Zi
   ·apply Piece.mk
    ·intro f v hv hr hne;simp only [List.take_succ_cons,List.take_zero,List.drop_succ_cons,List.drop_zero,Nat.reduceSub,Nat.reduceAdd]
     (try simp only [LN])
     (try simp only [newB_val,numB_val,ownB_val,newRB_val,numMB_val])
     repeat (go_big_quiet_step (fail))
     refine wpQuiet_nil ?_;exact rfl
    ·intro f; kernel_rfl
    ·intro f f' hf; simp
   unfold genWalk;apply Zs;apply Zi
   ·apply Piece.mk
    ·intro f v hv hr hne;simp only [List.take_succ_cons,List.take_zero,List.drop_succ_cons,List.drop_zero,Nat.reduceSub,Nat.reduceAdd]
     (try simp only [LN])
     (try simp only [newB_val,numB_val,ownB_val,newRB_val,numMB_val])
     repeat (go_big_quiet_step (fail))
     refine wpQuiet_nil ?_;exact rfl
    ·intro f; kernel_rfl
    ·intro f f' hf; first | (simp; done) | (simp [hf 7 aS])
   intro f u' hup hph hmade hdist;obtain ⟨⟨hT9,oN⟩,loN,hiN⟩:=hmade 7 aO rfl;replace oN:NumC u' (f 7).1 (f 7).2 z:=oN;clear hmade hdist;simp only [List.take_succ_cons,List.take_zero,List.drop_succ_cons,List.drop_zero,Nat.reduceSub,Nat.reduceAdd]
   (try simp only [LN])
   (try simp only [newB_val,numB_val,ownB_val,newRB_val,numMB_val])
   generalize (f 7).1=b9 at *;generalize (f 7).2=C9 at *;generalize (f 6).1=b8 at *;generalize (f 6).2=c8 at *;clear f;have q6:Own u' (w.heap.size+1+1) #[.bool false,.slice none 0 0]:=hph;have hwu:Below w.heap.size w u':=hwT u' hup;clear hph;obtain ⟨A9,n9,c9,hsl⟩:=slC_form z b9 C9;simp only [numC];rw [hsl];have HSL:=Zh hsl;clear hsl;have q6c:=q6.cell;have q6f:=q6.thaw;have q6z:=q6.lt;have hkT:=Upd.keeps (Keeps.refl _ _) hup;refine effc_mem (by rfl) (fun K hK=>?_);go_simp;refine hK _ _ ((hkT.set aS _).set aS _) (fun u1 hu1=>?_);clear hK K;have hwu1:Below w.heap.size w u1:=((hwu.setCell (p:=⟨w.heap.size+1+1,0,none⟩) aT _).setCell (p:=⟨w.heap.size+1+1,1,none⟩) aT _).trans (hu1.mono (by simp [World.setCell]; exact hwu.size));have q7:=((q6.set 0 (.bool (sgnN z))).set 1 (.slice A9 n9 c9)).below hu1;have oN1:=NumC.below (NumC.far (p:=⟨w.heap.size+1+1,1,none⟩) (NumC.far (p:=⟨w.heap.size+1+1,0,none⟩) oN aT (.bool (sgnN z))) aT (.slice A9 n9 c9)) hu1;have hlt1:b9<u1.heap.size:=by have:=hu1.size; simp [World.setCell] at this; omega
   have hk1:=(((hkT.set (p:=⟨w.heap.size+1+1,0,none⟩) aS (.bool (sgnN z))).set (p:=⟨w.heap.size+1+1,1,none⟩) aS (.slice A9 n9 c9)).later hu1);clear q6 q6c q6f q6z oN hu1;refine effc_mem (by rfl) (fun K hK=>?_);go_simp;refine hK _ _ hk1 (fun u2' hu2=>?_);clear hK K;have q8:=q7.below hu2;have oN2:=oN1.below hu2;have hwu2:=hwu1.trans (hu2.mono hwu1.size);have hlt2:=Zl hlt1 hu2.size;refine effc_nil ?_
   (try simp only [LN])
   go_wp2;refine retC (b:=w.heap.size+1+1) (v:= .tuple #[.agg #[.bool (sgnN z),.slice A9 n9 c9],.bool (fits z)]) q8 (fun w' hw'=>by simp [results,Tryz.results87,go_sem,hw']) rfl ⟨⟨b9,C9,by rw [numC,HSL.out],oN2,?_,hlt2⟩,hwu2⟩;omega
end Go.Proofs.YtflgngjocgiojaaGreat
