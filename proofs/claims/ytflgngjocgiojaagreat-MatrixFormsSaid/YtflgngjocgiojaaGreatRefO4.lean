import Derived.Test.YtflgngjocgiojaaGreatRefO
set_option linter.all false
namespace Go.Proofs.YtflgngjocgiojaaGreat
open Go.RowKit
set_option maxRecDepth 100000 in
set_option maxHeartbeats 4000000 in
theorem ref1_negated {w:World} {s1:Bool} {A1:Option Addr} {n1 c1:Nat} {z:Int} (h:NumAt w (.agg #[.bool s1,.slice A1 n1 c1]) z):Calls Tryz.prog 144 #[.agg #[.bool s1,.slice A1 n1 c1]] w fun r w'=>r = .returned (.agg #[.bool (decide (-z<0)),.slice A1 n1 c1])/\Below w.heap.size w w':=by
 obtain ⟨A,n,c,e,hc1,hm1,hl1,d1⟩:=h;cases e;have hl:=d1.len;have h0:n1=0↔z=0:=by
  rw [<- hl,List.length_eq_zero_iff,digs_nil];omega
 have HZ:=Zh h0;obtain ⟨s1,hs1⟩:=Zx (decide (z<0));rw [hs1];have HS:=Zh hs1;clear hs1 h0 hl d1 hc1 hm1 hl1;go_enter Tryz.func144,Tryz.ntmps144;have hW:=(((Zb w.heap.size w).alloc (Zr _) (.cells #[.bool s1,.slice A1 n1 c1] 35)).alloc aS (.cells #[.bool false,.slice none 0 0] 35));have o3:Own ((w.alloc (.cells #[.bool s1,.slice A1 n1 c1] 35)).alloc (.cells #[.bool false,.slice none 0 0] 35)) w.heap.size #[.bool s1,.slice A1 n1 c1]:=aOwn;have o4:Own ((w.alloc (.cells #[.bool s1,.slice A1 n1 c1] 35)).alloc (.cells #[.bool false,.slice none 0 0] 35)) (w.heap.size+1) #[.bool false,.slice none 0 0]:=aOwn;have hB:∀ (X Y:Array Value) (a b:TypeId),Below w.heap.size w ((w.alloc (.cells X a)).alloc (.cells Y b)):=fun X Y a b=>((Zb w.heap.size w).alloc (Zr _) _).alloc aS _
 cases s1
 ·go_wp2;refine retC (b:=w.heap.size+1) (v:= .agg #[.bool (decide (0<n1)),.slice A1 n1 c1]) (cs:=#[.bool (decide (0<n1)),.slice A1 n1 c1]) aOwn (fun w' hw'=>by simp [results,Tryz.results144,go_sem,hw']) rfl ⟨?_,hB _ _ _ _⟩;rw [decide_eq_decide.2 (show -z<0↔0<n1 by
   have h1:=of_decide_eq_false HS.out;have h2:=HZ.out;omega)]
 ·go_wp2;refine retC (b:=w.heap.size+1) (v:= .agg #[.bool false,.slice A1 n1 c1]) (cs:=#[.bool false,.slice A1 n1 c1]) aOwn (fun w' hw'=>by simp [results,Tryz.results144,go_sem,hw']) rfl ⟨?_,hB _ _ _ _⟩;rw [decide_eq_false (show ¬ -z<0 by
   have h1:=of_decide_eq_true HS.out;omega)]
theorem NumAt.neg {w:World} {s:Bool} {A:Option Addr} {n c:Nat} {z:Int} (h:NumAt w (.agg #[.bool s,.slice A n c]) z):NumAt w (.agg #[.bool (decide (-z<0)),.slice A n c]) (-z):=by
 obtain ⟨A1,n1,c1,e,hc1,hm1,hl1,d1⟩:=h;cases e;exact ⟨A,n,c,rfl,hc1,hm1,hl1,by rw [Int.natAbs_neg]; exact d1⟩
set_option maxRecDepth 100000 in
set_option maxHeartbeats 4000000 in
theorem ref1_Sub {w:World} {v1 v2:Value} {z1 z2:Int} (h1:NumAt w v1 z1) (h2:NumAt w v2 z2):Calls Tryz.prog 124 #[v1,v2] w (RetM w (z1 - z2)):=by
 obtain ⟨z,hz⟩:=Zx (z1 - z2);rw [hz];have G1:=Zh h1;have G2:=Zh h2;obtain ⟨r1,k1⟩:=h1.raw;obtain ⟨r2,k2⟩:=h2.raw;obtain ⟨A1,n1,c1,rfl,hc1,hm1,hl1,d1⟩:=h1;obtain ⟨A2,n2,c2,rfl,hc2,hm2,hl2,d2⟩:=h2;obtain ⟨s1,hs1⟩:=Zx (decide (z1<0));obtain ⟨s2,hs2⟩:=Zx (decide (z2<0));rw [hs1] at r1 k1 G1 ⊢;rw [hs2] at r2 k2 G2 ⊢;have H:=Zh (Zi hz (Zi hs1 hs2));have D1:=Zh d1;have D2:=Zh d2;have R1:=Zh (Zi r1 k1);have R2:=Zh (Zi r2 k2);clear hz hs1 hs2 d1 d2 r1 k1 r2 k2;go_enter Tryz.func124,Tryz.ntmps124;have hW:=((((Zb w.heap.size w).alloc (Zr _) (.cells #[.bool s1,.slice A1 n1 c1] 35)).alloc aS (.cells #[.bool s2,.slice A2 n2 c2] 35)).alloc aT (.cells #[.bool false,.slice none 0 0] 35));go_wp2_with fail;have o3:Own (((w.alloc (.cells #[.bool s1,.slice A1 n1 c1] 35)).alloc (.cells #[.bool s2,.slice A2 n2 c2] 35)).alloc (.cells #[.bool false,.slice none 0 0] 35)) w.heap.size #[.bool s1,.slice A1 n1 c1]:=aOwn;have o4:Own (((w.alloc (.cells #[.bool s1,.slice A1 n1 c1] 35)).alloc (.cells #[.bool s2,.slice A2 n2 c2] 35)).alloc (.cells #[.bool false,.slice none 0 0] 35)) (w.heap.size+1) #[.bool s2,.slice A2 n2 c2]:=aOwn;have o6:Own (((w.alloc (.cells #[.bool s1,.slice A1 n1 c1] 35)).alloc (.cells #[.bool s2,.slice A2 n2 c2] 35)).alloc (.cells #[.bool false,.slice none 0 0] 35)) (w.heap.size+1+1) #[.bool false,.slice none 0 0]:=aOwn;generalize (((w.alloc (.cells #[.bool s1,.slice A1 n1 c1] 35)).alloc (.cells #[.bool s2,.slice A2 n2 c2] 35)).alloc (.cells #[.bool false,.slice none 0 0] 35))=W0 at *;refine Zd (ref_right (G2.out.below hW)) ?_;rintro e u2 ⟨rfl,hb1⟩;have hz0:=hW.size;have hWW:=hW.trans (hb1.mono hz0);have p3:=o3.below hb1;have p4:=o4.below hb1;have p6:=o6.below hb1;clear o3 o4 o6 hb1;have X1:=Zh (G1.out.below hWW);have X2:=Zh (G2.out.below hWW);have hzW:=hWW.size;have p6z:=p6.lt;clear D1 D2 R1 R2 hz0 hW G1 G2;go_wp2;have hTu:∀ u:World,Keeps [w.heap.size+1+1] u2 u->u.heap.size∉[w.heap.size+1+1]:=fun u hu hm=>by
  have h1:=List.mem_singleton.1 hm;have h2:=hu.1;omega
 have hTb:∀ b,b∈[w.heap.size+1+1]->b<u2.heap.size:=fun b hm=>by
  have h1:=List.mem_singleton.1 hm;omega
 have hTn:∀ b∈[w.heap.size+1+1],∃ cs,Own u2 b cs/\noU cs:=fun b hm=>by
  have h1:=List.mem_singleton.1 hm;subst h1;exact ⟨_,p6,noU_zero⟩
 have hwT:∀ u,Upd [w.heap.size+1+1] u2 u->Below w.heap.size w u:=fun u hu=>Upd.below hWW hu aT
 refine region_gen (T:=[w.heap.size+1+1]) [.make 3 [] (numMB _ z),.need 4 [3]] 6 0 40 (fun _ u=>Own u (w.heap.size+1+1) #[.bool false,.slice none 0 0]) (fun _ _ _ h k=>h.below k) p6 aK aK (by rfl) ?_;unfold genWalk;apply Zs;apply Zi
 ·apply Piece.mk
  ·intro f v hv hr hne;simp only [List.take_succ_cons,List.take_zero,List.drop_succ_cons,List.drop_zero,Nat.reduceSub,Nat.reduceAdd];have d3:=fun y=>(p3.later (v:=v) (T:=[w.heap.size+1+1]) aT y).cell
   have d4:=fun y=>(p4.later (v:=v) (T:=[w.heap.size+1+1]) aS y).cell
   have L2:=fun x:Later [w.heap.size+1+1] u2 v=>NumAt.keepU X2.out x.h hTn
   repeat (go_big_quiet_step ((go_at_call 144; with_reducible exact lateB (ref1_negated (L2 _)))))
   refine wpQuiet_nil ?_;exact rfl
  ·intro f; kernel_rfl
  ·intro f f' hf; kernel_rfl
 simp only [List.take_succ_cons,List.take_zero,List.drop_succ_cons,List.drop_zero,Nat.reduceSub,Nat.reduceAdd,oneOp];refine ⟨fun f=>⟨rfl,fun u hu _=>?_⟩,?_⟩
 ·refine make_call (f:=87) (args:=#[.agg #[.bool s1,.slice A1 n1 c1],.agg #[.bool (decide (-z2<0)),.slice A2 n2 c2]]) (by (try simp only [LN]); (try simp only [newB_val,numB_val,ownB_val,newRB_val,numMB_val]); go_simp) ?_;have q:=ref1_Add (w:=u) (NumAt.keepU X1.out hu hTn) (NumAt.keepU X2.out.neg hu hTn);rw [show z1 + -z2=z from H.out.1] at q;refine q.mono ?_;rintro e wx ⟨⟨b,C,rfl,q1,q2,q3⟩,hbx⟩;have hus:=hu.1;exact ⟨(b,C),rfl,q2,q3,hbx,fun hm=>absurd (hTb b hm) aO,q1⟩
 unfold genWalk;apply Zs;apply Zi
 ·apply Piece.mk
  ·intro f v hv hr hne;simp only [List.take_succ_cons,List.take_zero,List.drop_succ_cons,List.drop_zero,Nat.reduceSub,Nat.reduceAdd]
   (try simp only [LN])
   (try simp only [newB_val,numB_val,ownB_val,newRB_val,numMB_val])
   repeat (go_big_quiet_step (fail))
   refine wpQuiet_nil ?_;exact rfl
  ·intro f; kernel_rfl
  ·intro f f' hf; simp
 unfold genWalk;apply Zs;apply Zi
 ·apply Piece.mk
  ·intro f v hv hr hne;simp only [List.take_succ_cons,List.take_zero,List.drop_succ_cons,List.drop_zero,Nat.reduceSub,Nat.reduceAdd]
   (try simp only [LN])
   (try simp only [newB_val,numB_val,ownB_val,newRB_val,numMB_val])
   repeat (go_big_quiet_step (fail))
   refine wpQuiet_nil ?_;exact rfl
  ·intro f; kernel_rfl
  ·intro f f' hf; first | (simp; done) | (simp [hf 3 aS])
 intro f u' hup hph hmade hdist;obtain ⟨⟨hT9,oN⟩,loN,hiN⟩:=hmade 3 aO rfl;replace oN:NumC u' (f 3).1 (f 3).2 z:=oN;clear hmade hdist;simp only [List.take_succ_cons,List.take_zero,List.drop_succ_cons,List.drop_zero,Nat.reduceSub,Nat.reduceAdd]
 (try simp only [LN])
 (try simp only [newB_val,numB_val,ownB_val,newRB_val,numMB_val])
 generalize (f 3).1=b9 at *;generalize (f 3).2=C9 at *;clear f;have q6:Own u' (w.heap.size+1+1) #[.bool false,.slice none 0 0]:=hph;have hwu:Below w.heap.size w u':=hwT u' hup;clear hph;obtain ⟨A9,n9,c9,hsl⟩:=slC_form z b9 C9;simp only [numC];rw [hsl];have HSL:=Zh hsl;clear hsl;have q6c:=q6.cell;have q6f:=q6.thaw;have q6z:=q6.lt;have hkT:=Upd.keeps (Keeps.refl _ _) hup;refine effc_mem (by rfl) (fun K hK=>?_);go_simp;refine hK _ _ ((hkT.set aS _).set aS _) (fun u1 hu1=>?_);clear hK K;have hwu1:Below w.heap.size w u1:=((hwu.setCell (p:=⟨w.heap.size+1+1,0,none⟩) aT _).setCell (p:=⟨w.heap.size+1+1,1,none⟩) aT _).trans (hu1.mono (by simp [World.setCell]; exact hwu.size));have q7:=((q6.set 0 (.bool (sgnN z))).set 1 (.slice A9 n9 c9)).below hu1;have oN1:=NumC.below (NumC.far (p:=⟨w.heap.size+1+1,1,none⟩) (NumC.far (p:=⟨w.heap.size+1+1,0,none⟩) oN aT (.bool (sgnN z))) aT (.slice A9 n9 c9)) hu1;have hlt1:b9<u1.heap.size:=by have:=hu1.size; simp [World.setCell] at this; omega
 have hk1:=(((hkT.set (p:=⟨w.heap.size+1+1,0,none⟩) aS (.bool (sgnN z))).set (p:=⟨w.heap.size+1+1,1,none⟩) aS (.slice A9 n9 c9)).later hu1);clear q6 q6c q6f q6z oN hu1;refine effc_mem (by rfl) (fun K hK=>?_);go_simp;refine hK _ _ hk1 (fun u2' hu2=>?_);clear hK K;have q8:=q7.below hu2;have oN2:=oN1.below hu2;have hwu2:=hwu1.trans (hu2.mono hwu1.size);have hlt2:=Zl hlt1 hu2.size;refine effc_nil ?_
 (try simp only [LN])
 go_wp2;refine retC (b:=w.heap.size+1+1) (v:= .tuple #[.agg #[.bool (sgnN z),.slice A9 n9 c9],.bool (fits z)]) q8 (fun w' hw'=>by simp [results,Tryz.results124,go_sem,hw']) rfl ⟨⟨b9,C9,by rw [numC,HSL.out],oN2,?_,hlt2⟩,hwu2⟩;omega
theorem fits_neg {z:Int} (h:fits z=true):fits (-z)=true:=by
 unfold fits at *;rw [Int.natAbs_neg];exact h
set_option maxRecDepth 100000 in
set_option maxHeartbeats 4000000 in
theorem ref3_opposite {w:World} {v1:Value} {z1:Int} (h1:NumAt w v1 z1):Calls Tryz.prog 92 #[v1] w (RetX w (-z1)):=by
 obtain ⟨z,hz⟩:=Zx (-z1);rw [hz];have H:=Zh hz;have G1:=Zh h1;obtain ⟨A1,n1,c1,rfl,hc1,hm1,hl1,d1⟩:=h1;generalize decide (z1<0)=s1 at *;clear d1 hz;go_enter Tryz.func92,Tryz.ntmps92;have hWW:=(((Zb w.heap.size w).alloc (Zr _) (.cells #[.bool s1,.slice A1 n1 c1] 35)).alloc aS (.cells #[.bool false,.slice none 0 0] 35));have p3:Own ((w.alloc (.cells #[.bool s1,.slice A1 n1 c1] 35)).alloc (.cells #[.bool false,.slice none 0 0] 35)) w.heap.size #[.bool s1,.slice A1 n1 c1]:=aOwn;have p6:Own ((w.alloc (.cells #[.bool s1,.slice A1 n1 c1] 35)).alloc (.cells #[.bool false,.slice none 0 0] 35)) (w.heap.size+1) #[.bool false,.slice none 0 0]:=aOwn;go_wp2;generalize ((w.alloc (.cells #[.bool s1,.slice A1 n1 c1] 35)).alloc (.cells #[.bool false,.slice none 0 0] 35))=u2 at *;have X1:=Zh (G1.out.below hWW);have hzW:=hWW.size;have p6z:=p6.lt;clear G1;have hTu:∀ u:World,Keeps [w.heap.size+1] u2 u->u.heap.size∉[w.heap.size+1]:=fun u hu hm=>by
  have h1:=List.mem_singleton.1 hm;have h2:=hu.1;omega
 have hTb:∀ b,b∈[w.heap.size+1]->b<u2.heap.size:=fun b hm=>by
  have h1:=List.mem_singleton.1 hm;omega
 have hTn:∀ b∈[w.heap.size+1],∃ cs,Own u2 b cs/\noU cs:=fun b hm=>by
  have h1:=List.mem_singleton.1 hm;subst h1;exact ⟨_,p6,noU_zero⟩
 have hwT:∀ u,Upd [w.heap.size+1] u2 u->Below w.heap.size w u:=fun u hu=>Upd.below hWW hu (by simp; try omega)
 refine region_gen (T:=[w.heap.size+1]) [.make 2 [] (numMB _ z),.need 3 [2],.need 5 [],.make 6 [] (ownB _ #[.bool false,.slice none 0 0] (fun p=>.pointer (some ⟨p,0,none⟩)))] 7 0 40 (fun _ u=>Own u (w.heap.size+1) #[.bool false,.slice none 0 0]) (fun _ _ _ h k=>h.below k) p6 aK aK (by rfl) ?_;unfold genWalk;apply Zs;apply Zi
 ·apply Piece.mk
  ·intro f v hv hr hne;simp only [List.take_succ_cons,List.take_zero,List.drop_succ_cons,List.drop_zero,Nat.reduceSub,Nat.reduceAdd];have d3:=fun y=>(p3.later (v:=v) (T:=[w.heap.size+1]) aS y).cell
   repeat (go_big_quiet_step ((go_at_call 43; with_reducible exact lateB whole_zero)))
   refine wpQuiet_nil ?_;exact rfl
  ·intro f; kernel_rfl
  ·intro f f' hf; kernel_rfl
 simp only [List.take_succ_cons,List.take_zero,List.drop_succ_cons,List.drop_zero,Nat.reduceSub,Nat.reduceAdd,oneOp];refine ⟨fun f=>⟨rfl,fun u hu _=>?_⟩,?_⟩
 ·refine make_call (f:=124) (args:=#[zeroN,.agg #[.bool s1,.slice A1 n1 c1]]) (by (try simp only [LN]); (try simp only [newB_val,numB_val,ownB_val,newRB_val,numMB_val]); go_simp) ?_;have q:=ref1_Sub (w:=u) (num_zero u) (NumAt.keepU X1.out hu hTn);rw [show 0 - z1=z by rw [<- H.out,Int.zero_sub]] at q;refine q.mono ?_;rintro e wx ⟨⟨b,C,rfl,q1,q2,q3⟩,hbx⟩;have hus:=hu.1;exact ⟨(b,C),rfl,q2,q3,hbx,fun hm=>absurd (hTb b hm) aO,q1⟩
 unfold genWalk;apply Zs;apply Zi
 ·apply Piece.mk
  ·intro f v hv hr hne;simp only [List.take_succ_cons,List.take_zero,List.drop_succ_cons,List.drop_zero,Nat.reduceSub,Nat.reduceAdd]
   (try simp only [LN])
   (try simp only [newB_val,numB_val,ownB_val,newRB_val,numMB_val])
   repeat (go_big_quiet_step (fail))
   refine wpQuiet_nil ?_;exact rfl
  ·intro f; kernel_rfl
  ·intro f f' hf; simp
 unfold genWalk;apply Zs;apply Zi
 ·apply Piece.mk
  ·intro f v hv hr hne;simp only [List.take_succ_cons,List.take_zero,List.drop_succ_cons,List.drop_zero,Nat.reduceSub,Nat.reduceAdd]
   (try simp only [LN])
   (try simp only [newB_val,numB_val,ownB_val,newRB_val,numMB_val])
   repeat (go_big_quiet_step (fail))
   refine wpQuiet_nil ?_;exact rfl
  ·intro f; kernel_rfl
  ·intro f f' hf; first | (simp; done) | (simp [hf 2 aS])
 unfold genWalk;apply Zs;apply Zi
 ·apply Piece.mk
  ·intro f v hv hr hne;simp only [List.take_succ_cons,List.take_zero,List.drop_succ_cons,List.drop_zero,Nat.reduceSub,Nat.reduceAdd]
   (try simp only [LN])
   (try simp only [newB_val,numB_val,ownB_val,newRB_val,numMB_val])
   repeat (go_big_quiet_step (fail))
   refine wpQuiet_nil ?_;exact rfl
  ·intro f; kernel_rfl
  ·intro f f' hf; simp
 simp only [List.take_succ_cons,List.take_zero,List.drop_succ_cons,List.drop_zero,Nat.reduceSub,Nat.reduceAdd,oneOp];refine ⟨fun f=>⟨rfl,fun u hu _=>?_⟩,?_⟩
 ·refine make_own (e:=35) (by (try simp only [LN]); (try simp only [newB_val,numB_val,ownB_val,numMB_val]); go_simp) (hTu u hu)
 unfold genWalk;apply Zs;apply Zi
 ·apply Piece.mk
  ·intro f v hv hr hne;simp only [List.take_succ_cons,List.take_zero,List.drop_succ_cons,List.drop_zero,Nat.reduceSub,Nat.reduceAdd]
   (try simp only [LN])
   (try simp only [newB_val,numB_val,ownB_val,newRB_val,numMB_val])
   repeat (go_big_quiet_step (fail))
   refine wpQuiet_nil ?_;exact rfl
  ·intro f; kernel_rfl
  ·intro f f' hf; simp
 intro f u' hup hph hmade hdist;obtain ⟨⟨hT9,oN⟩,loN,hiN⟩:=hmade 2 aO rfl;obtain ⟨⟨hT8,o9⟩,loO,hiO⟩:=hmade 6 aO rfl;have e5:=hdist 2 6 aO aO rfl rfl aO;replace oN:NumC u' (f 2).1 (f 2).2 z:=oN;replace o9:Own u' (f 6).1 #[.bool false,.slice none 0 0]:=o9;clear hmade hdist hT8;simp only [List.take_succ_cons,List.take_zero,List.drop_succ_cons,List.drop_zero,Nat.reduceSub,Nat.reduceAdd]
 (try simp only [LN])
 (try simp only [newB_val,numB_val,ownB_val,newRB_val,numMB_val])
 generalize (f 2).1=b9 at *;generalize (f 2).2=C9 at *;generalize (f 6).1=b12 at *;clear f;have q6:Own u' (w.heap.size+1) #[.bool false,.slice none 0 0]:=hph;have hwu:Below w.heap.size w u':=hwT u' hup;have hkT:=Upd.keeps (Keeps.refl _ _) hup;clear hph;obtain ⟨A9,n9,c9,hsl⟩:=slC_form z b9 C9;simp only [numC];rw [hsl];have HSL:=Zh hsl;clear hsl;have lw:w.heap.size<=b12:=aO
 have h9z:=o9.lt;have h9c:=o9.cell;have h9f:=o9.thaw;refine effc_mem (by rfl) (fun K hK=>?_);go_simp;refine hK _ _ ((hkT.new (p:=⟨b12,0,none⟩) loO _).new (p:=⟨b12,1,none⟩) loO _) (fun u3 hu3=>?_);clear hK K;have hk3:=((hkT.new (p:=⟨b12,0,none⟩) loO (.bool (sgnN z))).new (p:=⟨b12,1,none⟩) loO (.slice A9 n9 c9)).later hu3;have hw3:=((hwu.setCell (p:=⟨b12,0,none⟩) lw (.bool (sgnN z))).setCell (p:=⟨b12,1,none⟩) lw (.slice A9 n9 c9)).trans (hu3.mono (by simp [World.setCell]; exact hwu.size));have r9:=((o9.set 0 (.bool (sgnN z))).set 1 (.slice A9 n9 c9)).below hu3;have hzz:=hwu.size;have hz6:=q6.lt;have r6:=((q6.far (p:=⟨b12,0,none⟩) aT (.bool (sgnN z))).far (p:=⟨b12,1,none⟩) aT (.slice A9 n9 c9)).below hu3;have oN3:=NumC.below ((oN.far (p:=⟨b12,0,none⟩) aT (.bool (sgnN z))).far (p:=⟨b12,1,none⟩) aT (.slice A9 n9 c9)) hu3;have hsz3:b9<u3.heap.size:=by have:=hu3.size; simp [World.setCell] at this; omega
 clear oN q6 o9 h9c h9f hu3;refine effc_mem (by rfl) (fun K hK=>?_);go_simp;refine hK _ _ hk3 (fun u4 hu4=>?_);clear hK K hk3;have s9:=r9.below hu4;have s6:=r6.below hu4;have oN4:=oN3.below hu4;have hw4:=hw3.trans (hu4.mono hw3.size);have hsz4:=Zl hsz3 hu4.size;have s9c:=s9.cell;have s6c:=s6.cell;have s6f:=s6.thaw;have s6z:=s6.lt;clear r9 r6 oN3 hw3;refine effc_nil ?_
 (try simp only [LN])
 go_wp2;refine retC (b:=w.heap.size+1) (v:= .agg #[.bool (sgnN z),.slice A9 n9 c9]) ((s6.set 0 _).set 1 _) (fun w' hw'=>by simp [results,Tryz.results92,go_sem,hw']) rfl (endX aO rfl HSL.out hw4 oN4 aO hsz4)
set_option maxRecDepth 100000 in
set_option maxHeartbeats 4000000 in
theorem ref3_Right {w:World} {v:Value} {p q:Int} (h:RatAt w v p q):Calls Tryz.prog 53 #[v] w fun r w'=>r = .returned (.bool (goodQ p q))/\Below w.heap.size w w':=by
 obtain ⟨s1,A1,n1,c1,s2,A2,n2,c2,rfl,g1,g2⟩:=h;have G1:=Zh g1;have G2:=Zh g2;obtain ⟨o,ho⟩:=Zx (ordI q 1);have HO:=Zh ho;obtain ⟨gd,hgd0⟩:=Zx (goodQ p q);rw [hgd0];have HGD:=Zh hgd0;clear g1 g2 ho hgd0;go_enter Tryz.func53,Tryz.ntmps53;have hW:=(Zb w.heap.size w).alloc (Zr _) (.cells #[.bool s1,.slice A1 n1 c1,.bool s2,.slice A2 n2 c2] 37);have o1:Own (w.alloc (.cells #[.bool s1,.slice A1 n1 c1,.bool s2,.slice A2 n2 c2] 37)) w.heap.size #[.bool s1,.slice A1 n1 c1,.bool s2,.slice A2 n2 c2]:=aOwn;go_wp2;generalize (w.alloc (.cells #[.bool s1,.slice A1 n1 c1,.bool s2,.slice A2 n2 c2] 37))=u0 at *;have X1:=Zh (G1.out.below hW);have X2:=Zh (G2.out.below hW);have ez:=G1.out.easy;have ey:=G2.out.easy;have hfy:=G2.out.fits;have HE:=Zh (Zi ez (Zi ey hfy));clear G1 G2 ez ey hfy
 by_cases hq:q<1
 ·have hneg:o<0:=by
   rw [<- HO.out,ordI_lt hq];omega
  have hgd:gd=false:=by
   rw [<- HGD.out];unfold goodQ;rw [decide_eq_false aO];rfl
  have HQ:=Zh hgd;clear hgd hq;refine region_gen (T:=[]) [.make 13 [] (numCB [] 1),.need 14 [13]] 17 0 60 (fun _ _=>True) (fun _ _ _ _ _=>trivial) trivial aK aK (by rfl) ?_;unfold genWalk;apply Zs;apply Zi
  ·apply Piece.mk
   ·intro f v hv hr hne;simp only [List.take_succ_cons,List.take_zero,List.drop_succ_cons,List.drop_zero,Nat.reduceSub,Nat.reduceAdd];have d1:=fun y=>(o1.later (v:=v) (T:=[]) aS y).cell
    have L1:=fun x:Later [] u0 v=>NumAt.keeps X1.out x.h
    have L2:=fun x:Later [] u0 v=>NumAt.keeps X2.out x.h
    repeat (go_big_quiet_step ((first | (go_at_call 88; with_reducible exact lateB (ref_right (L1 _))) | (go_at_call 88; with_reducible exact lateB (ref_right (L2 _))))))
    refine wpQuiet_nil ?_;exact rfl
   ·intro f; kernel_rfl
   ·intro f f' hf; kernel_rfl
  simp only [List.take_succ_cons,List.take_zero,List.drop_succ_cons,List.drop_zero,Nat.reduceSub,Nat.reduceAdd,oneOp];refine ⟨fun f=>⟨by first | rfl | kernel_rfl,fun u hu _=>?_⟩,?_⟩
  ·refine make_call (f:=43) (args:=#[.int .i64 1]) (by (try simp only [LN]); (try simp only [newB_val,numB_val,ownB_val,numCB_val]); go_simp) ?_;refine (ref3_whole (w:=u) 1 aO aO).mono ?_;rintro e wx ⟨⟨b,C,rfl,q1,q2,q3⟩,hbx⟩;exact ⟨(b,C),rfl,q2,q3,hbx,aS,q1⟩
  unfold genWalk;apply Zs;apply Zi
  ·apply Piece.mk
   ·intro f v hv hr hne;simp only [List.take_succ_cons,List.take_zero,List.drop_succ_cons,List.drop_zero,Nat.reduceSub,Nat.reduceAdd]
    (try simp only [LN])
    (try simp only [newB_val,numB_val,ownB_val,numCB_val])
    repeat (go_big_quiet_step (fail))
    refine wpQuiet_nil ?_;exact rfl
   ·intro f; kernel_rfl
   ·intro f f' hf; simp
  unfold genWalk;apply Zs;apply Zi
  ·apply Piece.mk
   ·intro f v hv hr hne;simp only [List.take_succ_cons,List.take_zero,List.drop_succ_cons,List.drop_zero,Nat.reduceSub,Nat.reduceAdd]
    (try simp only [LN])
    (try simp only [newB_val,numB_val,ownB_val,numCB_val])
    have d1:=fun y=>(o1.later (v:=v) (T:=[]) aS y).cell
    have L1:=fun x:Later [] u0 v=>NumAt.keeps X1.out x.h
    have L2:=fun x:Later [] u0 v=>NumAt.keeps X2.out x.h
    have k1:=(show (numCB [] 1).R (f 13) v from hr 13 aS).2;have cC:=fun y:Later [] u0 v=>callv (ref1_Cmp (w:=y.u) (L2 y) ((k1.below y.g).at_ one_fits)) (congrArg (Value.int IntKind.i64) HO.out)
    repeat (go_big_quiet_step ((go_at_call 42; with_reducible exact lateB (cC _))))
    refine wpQuiet_nil ?_;exact rfl
   ·intro f; kernel_rfl
   ·intro f f' hf; first | (simp; done) | (simp [hf 13 aS])
  intro f u' hup hph hmade hdist;clear hmade hdist hph;simp only [List.take_succ_cons,List.take_zero,List.drop_succ_cons,List.drop_zero,Nat.reduceSub,Nat.reduceAdd]
  (try simp only [LN])
  (try simp only [newB_val,numB_val,ownB_val,numCB_val])
  have hbu:Below u0.heap.size u0 u':=Upd.below (Zb _ _) hup (fun b hb=>by cases hb);refine effc_nil ?_
  (try simp only [LN])
  have hw1:=hW.trans (hbu.mono hW.size);have o2:=o1.below hbu;have Y1:=Zh (X1.out.below hbu);have Y2:=Zh (X2.out.below hbu);have o2c:=o2.cell;clear hup hbu o1 X1 X2 hW;go_wp2;rw [HQ.out];go_ret;exact ⟨rfl,hw1⟩
 ·have hneg:¬ o<0:=by
   rw [<- HO.out];unfold ordI;rw [if_neg hq];split <;> omega
  obtain ⟨g,hg⟩:∃ g:Nat,Nat.gcd p.natAbs q.natAbs=g:=⟨_,rfl⟩;have hgf:fits (g:Int)=true:=by
   rw [<- hg];exact fits_le (b:=q) (by
    have h1:=Nat.le_of_dvd aO (Nat.gcd_dvd_right p.natAbs q.natAbs);simpa using h1) HE.out.2.2
  obtain ⟨o',ho'⟩:=Zx (ordI (g:Int) 1);have hgd:gd=decide (o'=0):=by
   rw [<- HGD.out];unfold goodQ;rw [decide_eq_true aO,hg,<- ho']
   by_cases h1:g=1
   ·subst h1;rfl
   ·have h2:ordI (g:Int) 1≠0:=by
     unfold ordI;split
     ·omega
     ·rw [if_pos aO];omega
    rw [decide_eq_false h2];simp [h1]
  have HQ:=Zh (Zi hq (Zi hg (Zi hgf (Zi ho' hgd))));clear hgd hq hg hgf ho';refine region_gen (T:=[]) [.make 13 [] (numCB [] 1),.need 14 [13]] 17 0 60 (fun _ _=>True) (fun _ _ _ _ _=>trivial) trivial aK aK (by rfl) ?_;unfold genWalk;apply Zs;apply Zi
  ·apply Piece.mk
   ·intro f v hv hr hne;simp only [List.take_succ_cons,List.take_zero,List.drop_succ_cons,List.drop_zero,Nat.reduceSub,Nat.reduceAdd];have d1:=fun y=>(o1.later (v:=v) (T:=[]) aS y).cell
    have L1:=fun x:Later [] u0 v=>NumAt.keeps X1.out x.h
    have L2:=fun x:Later [] u0 v=>NumAt.keeps X2.out x.h
    repeat (go_big_quiet_step ((first | (go_at_call 88; with_reducible exact lateB (ref_right (L1 _))) | (go_at_call 88; with_reducible exact lateB (ref_right (L2 _))))))
    refine wpQuiet_nil ?_;exact rfl
   ·intro f; kernel_rfl
   ·intro f f' hf; kernel_rfl
  simp only [List.take_succ_cons,List.take_zero,List.drop_succ_cons,List.drop_zero,Nat.reduceSub,Nat.reduceAdd,oneOp];refine ⟨fun f=>⟨by first | rfl | kernel_rfl,fun u hu _=>?_⟩,?_⟩
  ·refine make_call (f:=43) (args:=#[.int .i64 1]) (by (try simp only [LN]); (try simp only [newB_val,numB_val,ownB_val,numCB_val]); go_simp) ?_;refine (ref3_whole (w:=u) 1 aO aO).mono ?_;rintro e wx ⟨⟨b,C,rfl,q1,q2,q3⟩,hbx⟩;exact ⟨(b,C),rfl,q2,q3,hbx,aS,q1⟩
  unfold genWalk;apply Zs;apply Zi
  ·apply Piece.mk
   ·intro f v hv hr hne;simp only [List.take_succ_cons,List.take_zero,List.drop_succ_cons,List.drop_zero,Nat.reduceSub,Nat.reduceAdd]
    (try simp only [LN])
    (try simp only [newB_val,numB_val,ownB_val,numCB_val])
    repeat (go_big_quiet_step (fail))
    refine wpQuiet_nil ?_;exact rfl
   ·intro f; kernel_rfl
   ·intro f f' hf; simp
  unfold genWalk;apply Zs;apply Zi
  ·apply Piece.mk
   ·intro f v hv hr hne;simp only [List.take_succ_cons,List.take_zero,List.drop_succ_cons,List.drop_zero,Nat.reduceSub,Nat.reduceAdd]
    (try simp only [LN])
    (try simp only [newB_val,numB_val,ownB_val,numCB_val])
    have d1:=fun y=>(o1.later (v:=v) (T:=[]) aS y).cell
    have L1:=fun x:Later [] u0 v=>NumAt.keeps X1.out x.h
    have L2:=fun x:Later [] u0 v=>NumAt.keeps X2.out x.h
    have k1:=(show (numCB [] 1).R (f 13) v from hr 13 aS).2;have cC:=fun y:Later [] u0 v=>callv (ref1_Cmp (w:=y.u) (L2 y) ((k1.below y.g).at_ one_fits)) (congrArg (Value.int IntKind.i64) HO.out)
    repeat (go_big_quiet_step ((go_at_call 42; with_reducible exact lateB (cC _))))
    refine wpQuiet_nil ?_;exact rfl
   ·intro f; kernel_rfl
   ·intro f f' hf; first | (simp; done) | (simp [hf 13 aS])
  intro f u' hup hph hmade hdist;clear hmade hdist hph;simp only [List.take_succ_cons,List.take_zero,List.drop_succ_cons,List.drop_zero,Nat.reduceSub,Nat.reduceAdd]
  (try simp only [LN])
  (try simp only [newB_val,numB_val,ownB_val,numCB_val])
  have hbu:Below u0.heap.size u0 u':=Upd.below (Zb _ _) hup (fun b hb=>by cases hb);refine effc_nil ?_
  (try simp only [LN])
  have hw1:=hW.trans (hbu.mono hW.size);have o2:=o1.below hbu;have Y1:=Zh (X1.out.below hbu);have Y2:=Zh (X2.out.below hbu);have o2c:=o2.cell;clear hup hbu o1 X1 X2 hW;go_wp2_with fail;have qg:=ref1_GcdG (w:=u') Y1.out Y2.out HE.out.1 HE.out.2.1;rw [HQ.out.2.1] at qg;refine Zd qg ?_;clear qg;rintro e u1 ⟨⟨b,C,rfl,g1,g2,g3⟩,hb⟩;obtain ⟨A9,n9,c9,hsl⟩:=slC_form (g:Int) b C;simp only [numC];rw [hsl];have HG:=Zh ((g1.at2 HQ.out.2.2.1 hsl));have hw2:=hw1.trans (hb.mono hw1.size);clear g1 g2 g3 hb hsl hw1 o2 o2c Y1 Y2;go_wp2;have hal:=(Zb u1.heap.size u1).alloc (Zr _) (.cells #[.bool (sgnN (g:Int)),.slice A9 n9 c9] 35);have o9:Own (u1.alloc (.cells #[.bool (sgnN (g:Int)),.slice A9 n9 c9] 35)) u1.heap.size #[.bool (sgnN (g:Int)),.slice A9 n9 c9]:=Own.new rfl;generalize (u1.alloc (.cells #[.bool (sgnN (g:Int)),.slice A9 n9 c9] 35))=u2 at *;have HG2:=Zh (HG.out.below hal);have hw3:=hw2.trans (hal.mono hw2.size);have hu12:=hal.size;clear HG hal hw2;refine region_gen (T:=[]) [.make 1 [] (numCB [] 1),.need 2 [1]] 5 0 40 (fun _ _=>True) (fun _ _ _ _ _=>trivial) trivial aK aK (by rfl) ?_;unfold genWalk;apply Zs;apply Zi
  ·apply Piece.mk
   ·intro f v hv hr hne;simp only [List.take_succ_cons,List.take_zero,List.drop_succ_cons,List.drop_zero,Nat.reduceSub,Nat.reduceAdd];have d9:=fun y=>(o9.later (v:=v) (T:=[]) aS y).cell
    repeat (go_big_quiet_step (fail))
    refine wpQuiet_nil ?_;exact rfl
   ·intro f; kernel_rfl
   ·intro f f' hf; kernel_rfl
  simp only [List.take_succ_cons,List.take_zero,List.drop_succ_cons,List.drop_zero,Nat.reduceSub,Nat.reduceAdd,oneOp];refine ⟨fun f=>⟨by first | rfl | kernel_rfl,fun u hu _=>?_⟩,?_⟩
  ·refine make_call (f:=43) (args:=#[.int .i64 1]) (by (try simp only [LN]); (try simp only [newB_val,numB_val,ownB_val,numCB_val]); go_simp) ?_;refine (ref3_whole (w:=u) 1 aO aO).mono ?_;rintro e wx ⟨⟨b,C,rfl,q1,q2,q3⟩,hbx⟩;exact ⟨(b,C),rfl,q2,q3,hbx,aS,q1⟩
  unfold genWalk;apply Zs;apply Zi
  ·apply Piece.mk
   ·intro f v hv hr hne;simp only [List.take_succ_cons,List.take_zero,List.drop_succ_cons,List.drop_zero,Nat.reduceSub,Nat.reduceAdd]
    (try simp only [LN])
    (try simp only [newB_val,numB_val,ownB_val,numCB_val])
    repeat (go_big_quiet_step (fail))
    refine wpQuiet_nil ?_;exact rfl
   ·intro f; kernel_rfl
   ·intro f f' hf; simp
  unfold genWalk;apply Zs;apply Zi
  ·apply Piece.mk
   ·intro f v hv hr hne;simp only [List.take_succ_cons,List.take_zero,List.drop_succ_cons,List.drop_zero,Nat.reduceSub,Nat.reduceAdd]
    (try simp only [LN])
    (try simp only [newB_val,numB_val,ownB_val,numCB_val])
    have d9:=fun y=>(o9.later (v:=v) (T:=[]) aS y).cell
    have L3:=fun x:Later [] u2 v=>NumAt.keeps HG2.out x.h
    have k1:=(show (numCB [] 1).R (f 1) v from hr 1 aS).2;have cC:=fun y:Later [] u2 v=>callv (ref1_Cmp (w:=y.u) (L3 y) ((k1.below y.g).at_ one_fits)) (congrArg (Value.int IntKind.i64) HQ.out.2.2.2.1)
    repeat (go_big_quiet_step ((go_at_call 42; with_reducible exact lateB (cC _))))
    refine wpQuiet_nil ?_;exact rfl
   ·intro f; kernel_rfl
   ·intro f f' hf; first | (simp; done) | (simp [hf 1 aS])
  intro f u' hup hph hmade hdist;clear hmade hdist hph;simp only [List.take_succ_cons,List.take_zero,List.drop_succ_cons,List.drop_zero,Nat.reduceSub,Nat.reduceAdd]
  (try simp only [LN])
  (try simp only [newB_val,numB_val,ownB_val,numCB_val])
  have hbu:Below u2.heap.size u2 u':=Upd.below (Zb _ _) hup (fun b hb=>by cases hb);refine effc_nil ?_
  (try simp only [LN])
  have hw4:=hw3.trans (hbu.mono hw3.size);go_wp2;go_ret;refine ⟨?_,hw4⟩;rw [HQ.out.2.2.2.2];rfl
end Go.Proofs.YtflgngjocgiojaaGreat
