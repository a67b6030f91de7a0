import Derived.Test.YtflgngjocgiojaaGreatRefO7
set_option linter.all false
namespace Go.Proofs.YtflgngjocgiojaaGreat
open Go.RowKit
theorem noU_z4:noU #[.bool false,.slice none 0 0,.bool false,.slice none 0 0]:=fun i d h=>by
 match i with
 | 0=>cases h
 | 1=>cases h
 | 2=>cases h
 | 3=>cases h
 | n+4=>simp at h
set_option maxRecDepth 100000 in
set_option maxHeartbeats 4000000 in
theorem ref3_Sub {w:World} {v1 v2:Value} {p q p' q':Int} (h1:RatAt w v1 p q) (h2:RatAt w v2 p' q') (e1:goodQ p q=true) (e2:goodQ p' q'=true) (f1:fits (p*q')=true) (f2:fits (-p'*q)=true) (f3:fits (q*q')=true) (f4:fits (p*q' + -p'*q)=true) :
 Calls Tryz.prog 80 #[v1,v2] w fun r w'=>(∃ b1 C1 b2 C2,r = .returned (.tuple #[ratC (ofN (p*q' + -p'*q) (q*q')) (ofD (p*q' + -p'*q) (q*q')) b1 C1 b2 C2,.bool true])/\NumC w' b1 C1 (ofN (p*q' + -p'*q) (q*q'))/\NumC w' b2 C2 (ofD (p*q' + -p'*q) (q*q'))/\w.heap.size<=b1/\b1<w'.heap.size/\w.heap.size<=b2/\b2<w'.heap.size)/\Below w.heap.size w w':=by
 obtain ⟨s1,A1,n1,c1,s2,A2,n2,c2,rfl,g1,g2⟩:=h1;obtain ⟨s3,A3,n3,c3,s4,A4,n4,c4,rfl,g3,g4⟩:=h2;have H1:RatAt w (.agg #[.bool s1,.slice A1 n1 c1,.bool s2,.slice A2 n2 c2]) p q:=⟨s1,A1,n1,c1,s2,A2,n2,c2,rfl,g1,g2⟩;have H2:RatAt w (.agg #[.bool s3,.slice A3 n3 c3,.bool s4,.slice A4 n4 c4]) p' q':=⟨s3,A3,n3,c3,s4,A4,n4,c4,rfl,g3,g4⟩;have I1:=Zh H1;have I2:=Zh H2;have G1:=Zh g1;have G2:=Zh g2;have G3:=Zh g3;have G4:=Zh g4;obtain ⟨m,hm⟩:=Zx (-p');rw [hm] at f2 f4 ⊢;have hfm:fits m=true:=hm ▸ fits_neg g3.fits;have e3:goodQ m q'=true:=by
  rw [<- hm];unfold goodQ at e2 ⊢;rw [Int.natAbs_neg];exact e2
 obtain ⟨rz,hrz⟩:=Zx (ofN (p*q'+m*q) (q*q'));obtain ⟨ry,hry⟩:=Zx (ofD (p*q'+m*q) (q*q'));rw [hrz,hry];have HX:=Zh (Zi hm (Zi hfm (Zi hrz hry)));have HF:=Zh (Zi f1 (Zi f2 (Zi f3 f4)));have HG:=Zh (Zi e1 e3);have HE1:=Zh (congrArg Value.bool e1);have HE2:=Zh (congrArg Value.bool e2);clear g1 g2 g3 g4 H1 H2 hm hfm f1 f2 f3 f4 hrz hry e1 e2 e3;go_enter Tryz.func80,Tryz.ntmps80;have hW:=((((Zb w.heap.size w).alloc (Zr _) (.cells #[.bool s1,.slice A1 n1 c1,.bool s2,.slice A2 n2 c2] 37)).alloc aS (.cells #[.bool s3,.slice A3 n3 c3,.bool s4,.slice A4 n4 c4] 37)).alloc aT (.cells #[.bool false,.slice none 0 0,.bool false,.slice none 0 0] 37));have o1:Own (((w.alloc (.cells #[.bool s1,.slice A1 n1 c1,.bool s2,.slice A2 n2 c2] 37)).alloc (.cells #[.bool s3,.slice A3 n3 c3,.bool s4,.slice A4 n4 c4] 37)).alloc (.cells #[.bool false,.slice none 0 0,.bool false,.slice none 0 0] 37)) w.heap.size #[.bool s1,.slice A1 n1 c1,.bool s2,.slice A2 n2 c2]:=aOwn;have o2:Own (((w.alloc (.cells #[.bool s1,.slice A1 n1 c1,.bool s2,.slice A2 n2 c2] 37)).alloc (.cells #[.bool s3,.slice A3 n3 c3,.bool s4,.slice A4 n4 c4] 37)).alloc (.cells #[.bool false,.slice none 0 0,.bool false,.slice none 0 0] 37)) (w.heap.size+1) #[.bool s3,.slice A3 n3 c3,.bool s4,.slice A4 n4 c4]:=aOwn;have o3:Own (((w.alloc (.cells #[.bool s1,.slice A1 n1 c1,.bool s2,.slice A2 n2 c2] 37)).alloc (.cells #[.bool s3,.slice A3 n3 c3,.bool s4,.slice A4 n4 c4] 37)).alloc (.cells #[.bool false,.slice none 0 0,.bool false,.slice none 0 0] 37)) (w.heap.size+1+1) #[.bool false,.slice none 0 0,.bool false,.slice none 0 0]:=aOwn;go_wp2_with fail;generalize (((w.alloc (.cells #[.bool s1,.slice A1 n1 c1,.bool s2,.slice A2 n2 c2] 37)).alloc (.cells #[.bool s3,.slice A3 n3 c3,.bool s4,.slice A4 n4 c4] 37)).alloc (.cells #[.bool false,.slice none 0 0,.bool false,.slice none 0 0] 37))=W0 at *;refine Zd (callv (ref3_Right (I1.out.below hW)) HE1.out) ?_;rintro e u1 ⟨rfl,hb1⟩;have hW1:=hW.trans (hb1.mono hW.size);replace o1:=o1.below hb1;replace o2:=o2.below hb1;replace o3:=o3.below hb1;clear hb1 hW;have o1c:=o1.cell;have o2c:=o2.cell;go_wp2_with fail;refine Zd (callv (ref3_Right (I2.out.below hW1)) HE2.out) ?_;rintro e u2 ⟨rfl,hb1⟩;have hW2:=hW1.trans (hb1.mono hW1.size);replace o1:=o1.below hb1;replace o2:=o2.below hb1;replace o3:=o3.below hb1;clear hb1 hW1;replace o1c:=o1.cell;replace o2c:=o2.cell;go_wp2;have hzW:=hW2.size;have p6z:=o3.lt;have J1:=Zh (I1.out.below hW2);have J3:=Zh (G3.out.below hW2);have J4:=Zh (G4.out.below hW2);clear o1c o2c I1 I2 G1 G2 G3 G4;have hTu:∀ u:World,Keeps [w.heap.size+1+1] u2 u->u.heap.size∉[w.heap.size+1+1]:=fun u hu hm=>by
  have h1:=List.mem_singleton.1 hm;have h2:=hu.1;omega
 have hTb:∀ b,b∈[w.heap.size+1+1]->b<u2.heap.size:=fun b hm=>by
  have h1:=List.mem_singleton.1 hm;omega
 have hTn:∀ b∈[w.heap.size+1+1],∃ cs,Own u2 b cs/\noU cs:=fun b hm=>by
  have h1:=List.mem_singleton.1 hm;subst h1;exact ⟨_,o3,noU_z4⟩
 have hwT:∀ u,Upd [w.heap.size+1+1] u2 u->Below w.heap.size w u:=fun u hu=>Upd.below hW2 hu (by simp; try omega)
 refine region_gen (T:=[w.heap.size+1+1]) [.make 3 [] (numCB _ m),.need 6 [3],.make 7 [3] (ratCB _ u2.heap.size rz ry),.need 8 [7]] 10 0 40 (fun _ u=>Own u (w.heap.size+1+1) #[.bool false,.slice none 0 0,.bool false,.slice none 0 0]) (fun _ _ _ h k=>h.below k) o3 aK aK (by rfl) ?_;unfold genWalk;apply Zs;apply Zi
 ·apply Piece.mk
  ·intro f v hv hr hne;simp only [List.take_succ_cons,List.take_zero,List.drop_succ_cons,List.drop_zero,Nat.reduceSub,Nat.reduceAdd];have d1:=fun y=>(o1.later (v:=v) (T:=[w.heap.size+1+1]) aT y).cell
   have d2:=fun y=>(o2.later (v:=v) (T:=[w.heap.size+1+1]) aS y).cell
   repeat (go_big_quiet_step (fail))
   refine wpQuiet_nil ?_;exact rfl
  ·intro f; kernel_rfl
  ·intro f f' hf; kernel_rfl
 simp only [List.take_succ_cons,List.take_zero,List.drop_succ_cons,List.drop_zero,Nat.reduceSub,Nat.reduceAdd,oneOp];refine ⟨fun f=>⟨rfl,fun u hu _=>?_⟩,?_⟩
 ·refine make_call (f:=92) (args:=#[.agg #[.bool s3,.slice A3 n3 c3]]) (by (try simp only [LN]); (try simp only [newB_val,numB_val,ownB_val,numCB_val,ratCB_val,numC,ratC]); go_simp) ?_;have q:=ref3_opposite (w:=u) (NumAt.keepU J3.out hu hTn);rw [HX.out.1] at q;refine q.mono ?_;rintro e wx ⟨⟨b,C,rfl,q1,q2,q3⟩,hbx⟩;have hus:=hu.1;exact ⟨(b,C),rfl,q2,q3,hbx,fun hm=>absurd (hTb b hm) aO,q1⟩
 unfold genWalk;apply Zs;apply Zi
 ·apply Piece.mk
  ·intro f v hv hr hne;simp only [List.take_succ_cons,List.take_zero,List.drop_succ_cons,List.drop_zero,Nat.reduceSub,Nat.reduceAdd]
   (try simp only [LN])
   (try simp only [newB_val,numB_val,ownB_val,numCB_val,ratCB_val,numC,ratC])
   have d1:=fun y=>(o1.later (v:=v) (T:=[w.heap.size+1+1]) aT y).cell
   have d2:=fun y=>(o2.later (v:=v) (T:=[w.heap.size+1+1]) aS y).cell
   repeat (go_big_quiet_step (fail))
   refine wpQuiet_nil ?_;exact rfl
  ·intro f; kernel_rfl
  ·intro f f' hf; simp
 unfold genWalk;apply Zs;apply Zi
 ·apply Piece.mk
  ·intro f v hv hr hne;simp only [List.take_succ_cons,List.take_zero,List.drop_succ_cons,List.drop_zero,Nat.reduceSub,Nat.reduceAdd]
   (try simp only [LN])
   (try simp only [newB_val,numB_val,ownB_val,numCB_val,ratCB_val,numC,ratC])
   repeat (go_big_quiet_step (fail))
   refine wpQuiet_nil ?_;exact rfl
  ·intro f; kernel_rfl
  ·intro f f' hf; first | (simp; done) | (simp [hf 3 aS])
 simp only [List.take_succ_cons,List.take_zero,List.drop_succ_cons,List.drop_zero,Nat.reduceSub,Nat.reduceAdd,oneOp];refine ⟨fun f=>⟨rfl,fun u hu hm3=>?_⟩,?_⟩
 ·refine make_call (f:=55) (args:=#[.agg #[.bool s1,.slice A1 n1 c1,.bool s2,.slice A2 n2 c2],.agg #[.bool (sgnN m),slC m (f 3).1 (f 3).2,.bool s4,.slice A4 n4 c4]]) (by (try simp only [LN]); (try simp only [newB_val,numB_val,ownB_val,numCB_val,ratCB_val,numC,ratC]); go_simp) ?_;have m3:NumC u (f 3).1 (f 3).2 m:=(hm3 3 aS).2;obtain ⟨A9,n9,c9,hsl⟩:=slC_form m (f 3).1 (f 3).2;rw [hsl];have k1:RatAt u (.agg #[.bool (sgnN m),.slice A9 n9 c9,.bool s4,.slice A4 n4 c4]) m q':=⟨_,_,_,_,_,_,_,_,rfl,m3.at2 HX.out.2.1 hsl,NumAt.keepU J4.out hu hTn⟩;have k0:RatAt u (.agg #[.bool s1,.slice A1 n1 c1,.bool s2,.slice A2 n2 c2]) p q:=by
   obtain ⟨t1,E1,i1,d1,t2,E2,i2,d2,e,w1,w2⟩:=J1.out;cases e;exact ⟨_,_,_,_,_,_,_,_,rfl,NumAt.keepU w1 hu hTn,NumAt.keepU w2 hu hTn⟩
  have q:=ref3_Add k0 k1 HG.out.1 HG.out.2 HF.out.1 HF.out.2.1 HF.out.2.2.1 HF.out.2.2.2;rw [HX.out.2.2.1,HX.out.2.2.2] at q;refine q.mono ?_;rintro e wx ⟨⟨b1,C1,b2,C2,rfl,q1,q2,q3,q4,q5,q6⟩,hbx⟩;have hus:=hu.1;obtain ⟨D1,l1,l2,l3⟩:=q1.cap;obtain ⟨D2,l4,l5,l6⟩:=q2.cap;obtain ⟨e1,e2,e3⟩:=un_pk (b2:=b2) l1 l4;refine ⟨(b1,pk3 D1 b2 D2),?_,q3,q4,hbx,fun hm=>absurd (hTb b1 hm) aO,fun hm=>absurd (hTb b2 (by simpa only [e3] using hm)) aO,?_,?_,?_,?_⟩
  ·rw [ratCB_val,ratC,ratC];simp only [e1,e2,e3];rw [l2,l5]
  ·simp only [e1]; exact l3
  ·simp only [e2,e3]; exact l6
  ·simp only [e3]; omega
  ·simp only [e3]; exact q6
 unfold genWalk;apply Zs;apply Zi
 ·apply Piece.mk
  ·intro f v hv hr hne;simp only [List.take_succ_cons,List.take_zero,List.drop_succ_cons,List.drop_zero,Nat.reduceSub,Nat.reduceAdd]
   (try simp only [LN])
   (try simp only [newB_val,numB_val,ownB_val,numCB_val,ratCB_val,numC,ratC])
   repeat (go_big_quiet_step (fail))
   refine wpQuiet_nil ?_;exact rfl
  ·intro f; kernel_rfl
  ·intro f f' hf; simp
 unfold genWalk;apply Zs;apply Zi
 ·apply Piece.mk
  ·intro f v hv hr hne;simp only [List.take_succ_cons,List.take_zero,List.drop_succ_cons,List.drop_zero,Nat.reduceSub,Nat.reduceAdd]
   (try simp only [LN])
   (try simp only [newB_val,numB_val,ownB_val,numCB_val,ratCB_val,numC,ratC])
   repeat (go_big_quiet_step (fail))
   refine wpQuiet_nil ?_;exact rfl
  ·intro f; kernel_rfl
  ·intro f f' hf; first | (simp; done) | (simp [hf 7 aS])
 intro f u' hup hph hmade hdist;obtain ⟨⟨hT8,hT9,oN,oM,loM,hiM⟩,loN,hiN⟩:=hmade 7 aO rfl;replace loM:u2.heap.size<=un3 (f 7).2:=loM;replace oN:NumC u' (f 7).1 (un1 (f 7).2) rz:=oN;replace oM:NumC u' (un3 (f 7).2) (un2 (f 7).2) ry:=oM;replace hiM:un3 (f 7).2<u'.heap.size:=hiM;replace hT9:un3 (f 7).2∉[w.heap.size+1+1]:=hT9;clear hmade hdist;simp only [List.take_succ_cons,List.take_zero,List.drop_succ_cons,List.drop_zero,Nat.reduceSub,Nat.reduceAdd]
 (try simp only [LN])
 (try simp only [newB_val,numB_val,ownB_val,numCB_val,ratCB_val,numC,ratC])
 generalize (f 7).1=b7 at *;generalize un1 (f 7).2=C7 at *;generalize un2 (f 7).2=C8 at *;generalize un3 (f 7).2=b8 at *;have q3:=hph;have hwu:Below w.heap.size w u':=hwT u' hup;have hkT:=Upd.keeps (Keeps.refl _ _) hup;clear hph;obtain ⟨A7,n7,c7,hs7⟩:=slC_form rz b7 C7;obtain ⟨A8,n8,c8,hs8⟩:=slC_form ry b8 C8;rw [hs7,hs8];have HSL:=Zh (Zi hs7 hs8);clear hs7 hs8;have hn7:w.heap.size+1+1<b7:=aO
 have hn8:w.heap.size+1+1<b8:=aO
 have q3c:=q3.cell;have q3f:=q3.thaw;have q3z:=q3.lt;refine effc_mem (by rfl) (fun K hK=>?_);go_simp;refine hK _ _ ((((hkT.set (p:=⟨w.heap.size+1+1,0,none⟩) aS _).set (p:=⟨w.heap.size+1+1,1,none⟩) aS _).set (p:=⟨w.heap.size+1+1,2,none⟩) aS _).set (p:=⟨w.heap.size+1+1,3,none⟩) aS _) (fun u3 hu3=>?_);clear hK K;have hk3:=((((hkT.set (p:=⟨w.heap.size+1+1,0,none⟩) aS (.bool (sgnN rz))).set (p:=⟨w.heap.size+1+1,1,none⟩) aS (.slice A7 n7 c7)).set (p:=⟨w.heap.size+1+1,2,none⟩) aS (.bool (sgnN ry))).set (p:=⟨w.heap.size+1+1,3,none⟩) aS (.slice A8 n8 c8)).later hu3;have hw3:=((((hwu.setCell (p:=⟨w.heap.size+1+1,0,none⟩) aT (.bool (sgnN rz))).setCell (p:=⟨w.heap.size+1+1,1,none⟩) aT (.slice A7 n7 c7)).setCell (p:=⟨w.heap.size+1+1,2,none⟩) aT (.bool (sgnN ry))).setCell (p:=⟨w.heap.size+1+1,3,none⟩) aT (.slice A8 n8 c8)).trans (hu3.mono (by simp [World.setCell]; exact hwu.size));have r3:=((((q3.set 0 (.bool (sgnN rz))).set 1 (.slice A7 n7 c7)).set 2 (.bool (sgnN ry))).set 3 (.slice A8 n8 c8)).below hu3;have oN3:=((((oN.far (p:=⟨w.heap.size+1+1,0,none⟩) aT (.bool (sgnN rz))).far (p:=⟨w.heap.size+1+1,1,none⟩) aT (.slice A7 n7 c7)).far (p:=⟨w.heap.size+1+1,2,none⟩) aT (.bool (sgnN ry))).far (p:=⟨w.heap.size+1+1,3,none⟩) aT (.slice A8 n8 c8)).below hu3;have oM3:=((((oM.far (p:=⟨w.heap.size+1+1,0,none⟩) aT (.bool (sgnN rz))).far (p:=⟨w.heap.size+1+1,1,none⟩) aT (.slice A7 n7 c7)).far (p:=⟨w.heap.size+1+1,2,none⟩) aT (.bool (sgnN ry))).far (p:=⟨w.heap.size+1+1,3,none⟩) aT (.slice A8 n8 c8)).below hu3;have hz3:u'.heap.size<=u3.heap.size:=by have:=hu3.size; simp [World.setCell] at this; omega
 clear oN oM q3 q3c q3f q3z hu3;refine effc_mem (by rfl) (fun K hK=>?_);go_simp;refine hK _ _ hk3 (fun u4 hu4=>?_);clear hK K hk3;have r4:=r3.below hu4;have oN4:=oN3.below hu4;have oM4:=oM3.below hu4;have hw4:=hw3.trans (hu4.mono hw3.size);have hz4:=Zm hz3 hu4.size;clear r3 oN3 oM3 hw3;refine effc_nil ?_
 (try simp only [LN])
 go_wp2;refine retC (b:=w.heap.size+1+1) (v:= .tuple #[.agg #[.bool (sgnN rz),.slice A7 n7 c7,.bool (sgnN ry),.slice A8 n8 c8],.bool true]) r4 (fun w' hw'=>by simp [results,Tryz.results80,go_sem,hw']) rfl ⟨⟨b7,C7,b8,C8,by rw [ratC,HSL.out.1,HSL.out.2],oN4,oM4,aO,aO,aO,aO⟩,hw4⟩
set_option maxRecDepth 100000 in
set_option maxHeartbeats 4000000 in
theorem ref3_OfB {w:World} {v1 v2:Value} {z1 z2:Int} (h1:NumAt w v1 z1) (h2:NumAt w v2 z2) (e1:easyG z1.natAbs) (e2:easyG z2.natAbs) (h0:z2<0) :
 Calls Tryz.prog 44 #[v1,v2] w fun r w'=>(∃ b1 C1 b2 C2,r = .returned (.tuple #[ratC (ofN z1 z2) (ofD z1 z2) b1 C1 b2 C2,.bool true])/\NumC w' b1 C1 (ofN z1 z2)/\NumC w' b2 C2 (ofD z1 z2)/\w.heap.size<=b1/\b1<w'.heap.size/\w.heap.size<=b2/\b2<w'.heap.size)/\Below w.heap.size w w':=by
 obtain ⟨z,hz⟩:=Zx (-ofN z1 z2);obtain ⟨y,hy⟩:=Zx (-ofD z1 z2);rw [show ofN z1 z2=-z by omega,show ofD z1 z2=-y by omega];have HY:=Zh (Zi h0 (Zi hz (Zi hy (Zi e1 e2))));clear hz hy e1 e2 h0;have HF12:=Zh (Zi h1.fits h2.fits);have G1:=Zh h1;have G2:=Zh h2;obtain ⟨A1,n1,c1,rfl,hc1,hm1,hl1,d1⟩:=h1;obtain ⟨A2,n2,c2,rfl,hc2,hm2,hl2,d2⟩:=h2;generalize decide (z1<0)=s1 at *;generalize decide (z2<0)=s2 at *;clear d1 d2;have hW:=((((Zb w.heap.size w).alloc (Zr _) (.cells #[.bool s1,.slice A1 n1 c1] 35)).alloc aS (.cells #[.bool s2,.slice A2 n2 c2] 35)).alloc aT (.cells #[.bool false,.slice none 0 0,.bool false,.slice none 0 0] 37));have o2:Own (((w.alloc (.cells #[.bool s1,.slice A1 n1 c1] 35)).alloc (.cells #[.bool s2,.slice A2 n2 c2] 35)).alloc (.cells #[.bool false,.slice none 0 0,.bool false,.slice none 0 0] 37)) w.heap.size #[.bool s1,.slice A1 n1 c1]:=aOwn;have o3:Own (((w.alloc (.cells #[.bool s1,.slice A1 n1 c1] 35)).alloc (.cells #[.bool s2,.slice A2 n2 c2] 35)).alloc (.cells #[.bool false,.slice none 0 0,.bool false,.slice none 0 0] 37)) (w.heap.size+1) #[.bool s2,.slice A2 n2 c2]:=aOwn;have o4:Own (((w.alloc (.cells #[.bool s1,.slice A1 n1 c1] 35)).alloc (.cells #[.bool s2,.slice A2 n2 c2] 35)).alloc (.cells #[.bool false,.slice none 0 0,.bool false,.slice none 0 0] 37)) (w.heap.size+1+1) #[.bool false,.slice none 0 0,.bool false,.slice none 0 0]:=aOwn;go_enter Tryz.func44,Tryz.ntmps44;go_wp2;generalize (((w.alloc (.cells #[.bool s1,.slice A1 n1 c1] 35)).alloc (.cells #[.bool s2,.slice A2 n2 c2] 35)).alloc (.cells #[.bool false,.slice none 0 0,.bool false,.slice none 0 0] 37))=W0 at *;have K1:=Zh (G1.out.below hW);have K2:=Zh (G2.out.below hW);have hzW:=hW.size;refine region_late 14 [] aK aK (by rfl) ?_;apply Zs;refine ⟨fun v hv hne=>?_,fun u hu=>?_⟩
 ·simp only [List.take_succ_cons,List.take_zero];have d2:=fun y=>(o2.later (v:=v) (T:=[]) aS y).cell
  have d3:=fun y=>(o3.later (v:=v) (T:=[]) aS y).cell
  have L1:=fun x:Later [] W0 v=>NumAt.keeps K1.out x.h
  have L2:=fun x:Later [] W0 v=>NumAt.keeps K2.out x.h
  repeat (go_big_quiet_step ((first | (go_at_call 88; with_reducible exact lateB (ref_right (L1 _))) | (go_at_call 88; with_reducible exact lateB (ref_right (L2 _))) | (go_at_call 43; with_reducible exact lateB whole_zero) | (go_at_call 42; with_reducible exact lateB (ref_cmp0 (ordI_lt HY.out.1) (L2 _))))))
  refine wpQuiet_nil ?_;exact rfl
 simp only [List.drop_succ_cons,List.drop_zero];refine late_nil ?_
 (try simp only [LN])
 have hW1:=hW.trans (hu.mono hzW);have p2:=o2.below hu;have p3:=o3.below hu;have p4:=o4.below hu;have M1:=Zh (G1.out.below hW1);have M2:=Zh (G2.out.below hW1);have p2c:=p2.cell;have p3c:=p3.cell;clear o2 o3 o4 hW hzW hu K1 K2;go_wp2_with fail;obtain ⟨g,hg⟩:∃ g:Nat,Nat.gcd z1.natAbs z2.natAbs=g:=⟨_,rfl⟩;have hgz:g<=z2.natAbs:=by rw [<- hg]; exact Nat.le_of_dvd (by have:=HY.out.1; omega) (Nat.gcd_dvd_right _ _)
 have hg0:0<(g:Int):=by
  have:0<Nat.gcd z1.natAbs z2.natAbs:=Nat.gcd_pos_of_pos_right _ (by have:=HY.out.1; omega);omega
 have hge:easyG g:=HY.out.2.2.2.2.le hgz;have hgf:fits (g:Int)=true:=hge.fits;have HD:Hid (z1 / (g:Int)=z/\z2 / (g:Int)=y/\(g:Int)∣z1/\(g:Int)∣z2):=Zh (by
  have e1:=HY.out.2.1;have e2:=HY.out.2.2.1;have h0:=HY.out.1;unfold ofN at e1;unfold ofD at e2;have k1:(g:Int)∣z1:=Int.ofNat_dvd_left.2 (by rw [<- hg]; exact Nat.gcd_dvd_left _ _);have k2:(g:Int)∣z2:=Int.ofNat_dvd_left.2 (by rw [<- hg]; exact Nat.gcd_dvd_right _ _);rw [if_pos h0,hg,Int.neg_ediv_of_dvd ‹_›,Int.neg_neg] at e1 e2;exact ⟨e1,e2,Int.ofNat_dvd_left.2 (by rw [<- hg]; exact Nat.gcd_dvd_left _ _),Int.ofNat_dvd_left.2 (by rw [<- hg]; exact Nat.gcd_dvd_right _ _)⟩)
 have q:=ref1_GcdG M1.out M2.out HY.out.2.2.2.1 HY.out.2.2.2.2;rw [hg] at q;unfold RetM at q;rw [hgf] at q;have HGF:=Zh (Zi hg0 (Zi hge hgf));clear hg hgf hg0 hge hgz;refine Zd q ?_;clear q;rintro e u1 ⟨⟨b,C,rfl,h3,h1,h2⟩,hb⟩;obtain ⟨A9,n9,c9,hsl⟩:=slC_form (g:Int) b C;simp only [numC];rw [hsl];have hk:=(Zb u1.heap.size u1).alloc (Zr _) (.cells #[.bool (sgnN g),.slice A9 n9 c9] 35);have r6:Own (u1.alloc (.cells #[.bool (sgnN g),.slice A9 n9 c9] 35)) u1.heap.size #[.bool (sgnN g),.slice A9 n9 c9]:=Own.new rfl;have hbk:=hb.trans (hk.mono hb.size);have hw1:=hW1.trans (hbk.mono hW1.size);have N1:=Zh ((NumC.at2 h3 HGF.out.2.2 hsl).below hk);have K1:=Zh (NumAt.below M1.out hbk);have K2:=Zh (NumAt.below M2.out hbk);replace p2:=p2.below hbk;replace p3:=p3.below hbk;replace p4:=p4.below hbk;clear h1 h2 h3 hb hk hsl hbk M1 M2 p2c p3c hW1;go_wp2;generalize (u1.alloc (.cells #[.bool (sgnN (g:Int)),.slice A9 n9 c9] 35))=u2 at *;have hz1:=hw1.size;have p4z:=p4.lt;refine region_gen (T:=[]) [.make 2 [] (numCB [] z),.make 5 [] (numCB [] y),.need 6 [2,5],.make 7 [] (ownB [] #[.bool false,.slice none 0 0,.bool false,.slice none 0 0] (fun p=>.pointer (some ⟨p,0,none⟩)))] 8 0 40 (fun _ _=>True) (fun _ _ _ _ _=>trivial) trivial aK aK (by rfl) ?_;unfold genWalk;apply Zs;apply Zi
 ·apply Piece.mk
  ·intro f v hv hr hne;simp only [List.take_succ_cons,List.take_zero,List.drop_succ_cons,List.drop_zero,Nat.reduceSub,Nat.reduceAdd];have d2:=fun y=>(p2.later (v:=v) (T:=[]) aS y).cell
   have d3:=fun y=>(p3.later (v:=v) (T:=[]) aS y).cell
   have d6:=fun y=>(r6.later (v:=v) (T:=[]) aS y).cell
   repeat (go_big_quiet_step (fail))
   refine wpQuiet_nil ?_;exact rfl
  ·intro f; kernel_rfl
  ·intro f f' hf; kernel_rfl
 simp only [List.take_succ_cons,List.take_zero,List.drop_succ_cons,List.drop_zero,Nat.reduceSub,Nat.reduceAdd,oneOp];refine ⟨fun f=>⟨rfl,fun u hu _=>?_⟩,?_⟩
 ·refine make_call (f:=91) (args:=#[.agg #[.bool s1,.slice A1 n1 c1],.agg #[.bool (sgnN (g:Int)),.slice A9 n9 c9]]) (by (try simp only [LN]); (try simp only [newB_val,numB_val,ownB_val,numCB_val]); go_simp) ?_;have q:=ref3_overG (w:=u) (NumAt.keeps K1.out hu) (NumAt.keeps N1.out hu) HY.out.2.2.2.1 HGF.out.2.1 HGF.out.1 HD.out.2.2.1;rw [HD.out.1] at q;refine q.mono ?_;rintro e wx ⟨⟨b,C,rfl,q1,q2,q3⟩,hbx⟩;exact ⟨(b,C),rfl,q2,q3,hbx,aS,q1⟩
 unfold genWalk;apply Zs;apply Zi
 ·apply Piece.mk
  ·intro f v hv hr hne;simp only [List.take_succ_cons,List.take_zero,List.drop_succ_cons,List.drop_zero,Nat.reduceSub,Nat.reduceAdd]
   (try simp only [LN])
   (try simp only [newB_val,numB_val,ownB_val,numCB_val])
   have d2:=fun y=>(p2.later (v:=v) (T:=[]) aS y).cell
   have d3:=fun y=>(p3.later (v:=v) (T:=[]) aS y).cell
   have d6:=fun y=>(r6.later (v:=v) (T:=[]) aS y).cell
   repeat (go_big_quiet_step (fail))
   refine wpQuiet_nil ?_;exact rfl
  ·intro f; kernel_rfl
  ·intro f f' hf; simp
 simp only [List.take_succ_cons,List.take_zero,List.drop_succ_cons,List.drop_zero,Nat.reduceSub,Nat.reduceAdd,oneOp];refine ⟨fun f=>⟨rfl,fun u hu _=>?_⟩,?_⟩
 ·refine make_call (f:=91) (args:=#[.agg #[.bool s2,.slice A2 n2 c2],.agg #[.bool (sgnN (g:Int)),.slice A9 n9 c9]]) (by (try simp only [LN]); (try simp only [newB_val,numB_val,ownB_val,numCB_val]); go_simp) ?_;have q:=ref3_overG (w:=u) (NumAt.keeps K2.out hu) (NumAt.keeps N1.out hu) HY.out.2.2.2.2 HGF.out.2.1 HGF.out.1 HD.out.2.2.2;rw [HD.out.2.1] at q;refine q.mono ?_;rintro e wx ⟨⟨b,C,rfl,q1,q2,q3⟩,hbx⟩;exact ⟨(b,C),rfl,q2,q3,hbx,aS,q1⟩
 unfold genWalk;apply Zs;apply Zi
 ·apply Piece.mk
  ·intro f v hv hr hne;simp only [List.take_succ_cons,List.take_zero,List.drop_succ_cons,List.drop_zero,Nat.reduceSub,Nat.reduceAdd]
   (try simp only [LN])
   (try simp only [newB_val,numB_val,ownB_val,numCB_val])
   repeat (go_big_quiet_step (fail))
   refine wpQuiet_nil ?_;exact rfl
  ·intro f; kernel_rfl
  ·intro f f' hf; simp
 unfold genWalk;apply Zs;apply Zi
 ·apply Piece.mk
  ·intro f v hv hr hne;simp only [List.take_succ_cons,List.take_zero,List.drop_succ_cons,List.drop_zero,Nat.reduceSub,Nat.reduceAdd]
   (try simp only [LN])
   (try simp only [newB_val,numB_val,ownB_val,numCB_val,numC])
   repeat (go_big_quiet_step (fail))
   refine wpQuiet_nil ?_;exact rfl
  ·intro f; kernel_rfl
  ·intro f f' hf; first | (simp; done) | (simp [hf 2 aS,hf 5 aS])
 simp only [List.take_succ_cons,List.take_zero,List.drop_succ_cons,List.drop_zero,Nat.reduceSub,Nat.reduceAdd,oneOp];refine ⟨fun f=>⟨rfl,fun u hu _=>?_⟩,?_⟩
 ·refine make_own (e:=37) (by (try simp only [LN]); (try simp only [newB_val,numB_val,ownB_val,numCB_val]); go_simp) aS
 unfold genWalk;apply Zs;apply Zi
 ·apply Piece.mk
  ·intro f v hv hr hne;simp only [List.take_succ_cons,List.take_zero,List.drop_succ_cons,List.drop_zero,Nat.reduceSub,Nat.reduceAdd]
   (try simp only [LN])
   (try simp only [newB_val,numB_val,ownB_val,numCB_val])
   repeat (go_big_quiet_step (fail))
   refine wpQuiet_nil ?_;exact rfl
  ·intro f; kernel_rfl
  ·intro f f' hf; simp
 intro f u' hup hph hmade hdist;obtain ⟨⟨_,oN⟩,loN,hiN⟩:=hmade 2 aO rfl;obtain ⟨⟨_,oM⟩,loM,hiM⟩:=hmade 5 aO rfl;obtain ⟨⟨_,o3⟩,lo3,hi3⟩:=hmade 7 aO rfl;have hne1:=hdist 2 7 aO aO rfl rfl aO;have hne2:=hdist 5 7 aO aO rfl rfl aO;replace oN:NumC u' (f 2).1 (f 2).2 z:=oN;replace oM:NumC u' (f 5).1 (f 5).2 y:=oM;replace o3:Own u' (f 7).1 #[.bool false,.slice none 0 0,.bool false,.slice none 0 0]:=o3;clear hmade hdist hph;simp only [List.take_succ_cons,List.take_zero,List.drop_succ_cons,List.drop_zero,Nat.reduceSub,Nat.reduceAdd]
 (try simp only [LN])
 (try simp only [newB_val,numB_val,ownB_val,numCB_val,numC])
 generalize (f 2).1=b1 at *;generalize (f 2).2=C1 at *;generalize (f 5).1=b2 at *;generalize (f 5).2=C2 at *;generalize (f 7).1=b3 at *;clear f;have hwU:Below w.heap.size w u':=Upd.below hw1 hup aS;have q4:=p4.upd hup aS;have q3:=p3.upd hup aS;have hkT:=Upd.keeps (Keeps.refl _ _) hup;obtain ⟨A7,n7,c7,hs7⟩:=slC_form z b1 C1;obtain ⟨A8,n8,c8,hs8⟩:=slC_form y b2 C2;rw [hs7,hs8];have HSL:=Zh (Zi hs7 hs8);have o3c:=o3.cell;have o3f:=o3.thaw;have hB2:w.heap.size+1+1<b3:=aO
 have hB3:w.heap.size+1+1<b1:=aO
 have hB4:w.heap.size+1+1<b2:=aO
 clear hs7 hs8 p2 p3 p4 K1 r6 N1 p4z hup hw1;refine effc_mem (by rfl) (fun K hK=>?_);go_simp;refine hK _ _ ((((hkT.new (p:=⟨b3,0,none⟩) lo3 (.bool (sgnN z))).new (p:=⟨b3,1,none⟩) lo3 (.slice A7 n7 c7)).new (p:=⟨b3,2,none⟩) lo3 (.bool (sgnN y))).new (p:=⟨b3,3,none⟩) lo3 (.slice A8 n8 c8)) (fun u3 hu3=>?_);clear hK K;have hs3:=hu3.size;simp [World.setCell] at hs3;have hw2:=(((((hwU.setCell (p:=⟨b3,0,none⟩) aT (.bool (sgnN z))).setCell (p:=⟨b3,1,none⟩) aT (.slice A7 n7 c7)).setCell (p:=⟨b3,2,none⟩) aT (.bool (sgnN y))).setCell (p:=⟨b3,3,none⟩) aT (.slice A8 n8 c8))).trans (hu3.mono (by simp [World.setCell]; exact hwU.size));have k3:=(((((o3.set 0 (.bool (sgnN z))).set 1 (.slice A7 n7 c7)).set 2 (.bool (sgnN y))).set 3 (.slice A8 n8 c8))).below hu3;have k4:=(((((q4.far (p:=⟨b3,0,none⟩) aT (.bool (sgnN z))).far (p:=⟨b3,1,none⟩) aT (.slice A7 n7 c7)).far (p:=⟨b3,2,none⟩) aT (.bool (sgnN y))).far (p:=⟨b3,3,none⟩) aT (.slice A8 n8 c8))).below hu3;have k2:=(((((q3.far (p:=⟨b3,0,none⟩) aT (.bool (sgnN z))).far (p:=⟨b3,1,none⟩) aT (.slice A7 n7 c7)).far (p:=⟨b3,2,none⟩) aT (.bool (sgnN y))).far (p:=⟨b3,3,none⟩) aT (.slice A8 n8 c8))).below hu3;have N1:=Zh (Zi hB3 (Zi (Zl hiN hs3) ((((((oN.far (p:=⟨b3,0,none⟩) aT (.bool (sgnN z))).far (p:=⟨b3,1,none⟩) aT (.slice A7 n7 c7)).far (p:=⟨b3,2,none⟩) aT (.bool (sgnN y))).far (p:=⟨b3,3,none⟩) aT (.slice A8 n8 c8))).below hu3)));have N2:=Zh (Zi hB4 (Zi (Zl hiM hs3) ((((((oM.far (p:=⟨b3,0,none⟩) aT (.bool (sgnN z))).far (p:=⟨b3,1,none⟩) aT (.slice A7 n7 c7)).far (p:=⟨b3,2,none⟩) aT (.bool (sgnN y))).far (p:=⟨b3,3,none⟩) aT (.slice A8 n8 c8))).below hu3)));have K4:=Zh (NumAt.keeps K2.out (Keeps.later ((((hkT.new (p:=⟨b3,0,none⟩) lo3 (.bool (sgnN z))).new (p:=⟨b3,1,none⟩) lo3 (.slice A7 n7 c7)).new (p:=⟨b3,2,none⟩) lo3 (.bool (sgnN y))).new (p:=⟨b3,3,none⟩) lo3 (.slice A8 n8 c8)) hu3));clear o3 o3c o3f q4 q3 oN oM hkT hu3 hwU K2;refine effc_nil ?_
 (try simp only [LN])
 go_wp2;have hz2:=hw2.size;refine region_late 4 [] aK aK (by rfl) ?_;apply Zs;refine ⟨fun v hv hne=>?_,fun u hu=>?_⟩
 ·simp only [List.take_succ_cons,List.take_zero];have d3:=fun y=>(k2.later (v:=v) (T:=[]) aS y).cell
  have L2:=fun x:Later [] u3 v=>NumAt.keeps K4.out x.h
  repeat (go_big_quiet_step ((first | (go_at_call 43; with_reducible exact lateB whole_zero) | (go_at_call 42; with_reducible exact lateB (ref_cmp0 (ordI_lt HY.out.1) (L2 _))))))
  refine wpQuiet_nil ?_;exact rfl
 simp only [List.drop_succ_cons,List.drop_zero];refine late_nil ?_
 (try simp only [LN])
 have hw3:=hw2.trans (hu.mono hz2);have j3:=k3.below hu;have j4:=k4.below hu;have J1:=Zh (Zi N1.out.1 (Zi (Zl N1.out.2.1 hu.size) (N1.out.2.2.below hu)));have J2:=Zh (Zi N2.out.1 (Zi (Zl N2.out.2.1 hu.size) (N2.out.2.2.below hu)));have j3c:=j3.cell;have j4c:=j4.cell;have j4f:=j4.thaw;have j4z:=j4.lt;clear k3 k4 k2 N1 N2 K4 hu hw2 hz2;have hz3:=hw3.size;have hfz:fits z=true:=by rw [<- HD.out.1]; exact fits_le (Int.natAbs_ediv_le_natAbs _ _) HF12.out.1
 have hfy:fits y=true:=by rw [<- HD.out.2.1]; exact fits_le (Int.natAbs_ediv_le_natAbs _ _) HF12.out.2
 have HFZ:=Zh (Zi hfz hfy);clear hfz hfy;have E1:=Zh (J1.out.2.2.at2 HFZ.out.1 HSL.out.1);go_wp2_with fail;refine Zd (ref3_opposite E1.out) ?_;rintro e w5 ⟨⟨b5,C5,rfl,q1,q2,q3⟩,hb5⟩;obtain ⟨A5,n5,c5,hs5⟩:=slC_form (-z) b5 C5;simp only [numC];rw [hs5];have j3l:=j3.lt;have k5:=j3.below hb5;have l5:=j4.below hb5;have hW5:=hw3.trans (hb5.mono hz3);have Y5:=J2.out.2.2.below hb5;have hs5z:=hb5.size;have hb2z:=J2.out.2.1;have Q5:=Zh (Zi q1 (Zi hs5 Y5));clear j3c j4c j4f J1 J2 E1 hb5 q1 hs5 Y5 j3 j4 hw3;have k5c:=k5.cell;have k5f:=k5.thaw;have k5z:=k5.lt;have k6:=(k5.set 0 (.bool (sgnN (-z)))).set 1 (.slice A5 n5 c5);have k6c:=k6.cell;have l6:=(l5.far (p:=⟨b3,0,none⟩) aT (.bool (sgnN (-z)))).far (p:=⟨b3,1,none⟩) aT (.slice A5 n5 c5);have hW6:=(hW5.setCell (p:=⟨b3,0,none⟩) aT (.bool (sgnN (-z)))).setCell (p:=⟨b3,1,none⟩) aT (.slice A5 n5 c5);have Y6:=(Q5.out.2.2.far (p:=⟨b3,0,none⟩) aT (.bool (sgnN (-z)))).far (p:=⟨b3,1,none⟩) aT (.slice A5 n5 c5);have X6:=(Q5.out.1.far (p:=⟨b3,0,none⟩) aT (.bool (sgnN (-z)))).far (p:=⟨b3,1,none⟩) aT (.slice A5 n5 c5);have hsz6:w5.heap.size=((w5.setCell ⟨b3,0,none⟩ (.bool (sgnN (-z)))).setCell ⟨b3,1,none⟩ (.slice A5 n5 c5)).heap.size:=by simp [World.setCell]
 have E2:=Zh (Y6.at2 HFZ.out.2 HSL.out.2);have Q6:=Zh X6;clear Y6 X6;go_wp2_with fail;generalize ((w5.setCell ⟨b3,0,none⟩ (.bool (sgnN (-z)))).setCell ⟨b3,1,none⟩ (.slice A5 n5 c5))=w6 at *;refine Zd (ref3_opposite E2.out) ?_;rintro e w7 ⟨⟨b6,C6,rfl,q4,q5,q6⟩,hb6⟩;obtain ⟨A6,n6,c6,hs6⟩:=slC_form (-y) b6 C6;simp only [numC];rw [hs6];have k7:=k6.below hb6;have l7:=l6.below hb6;have hW7:=hW6.trans (hb6.mono hW6.size);have hs7z:=hb6.size;have X7:=Q6.out.below hb6;have hk6z:=k6.lt;have Q7:=Zh (Zi X7 (Zi q4 hs6));have hW6z:=hW6.size;clear k5 k5c k5f k5z k6 k6c l5 l6 hW5 hW6 E2 Q6 X7 q4 hs6 hb6;have k7c:=k7.cell;have k7f:=k7.thaw;have k7z:=k7.lt;have k8:=(k7.set 2 (.bool (sgnN (-y)))).set 3 (.slice A6 n6 c6);have k8c:=k8.cell;have l8:=(l7.far (p:=⟨b3,2,none⟩) aT (.bool (sgnN (-y)))).far (p:=⟨b3,3,none⟩) aT (.slice A6 n6 c6);have l8f:=l8.thaw;have l8c:=l8.cell;have l8z:=l8.lt;go_wp2;refine retC (b:=w.heap.size+1+1) (v:= .tuple #[.agg #[.bool (sgnN (-z)),.slice A5 n5 c5,.bool (sgnN (-y)),.slice A6 n6 c6],.bool true]) ((((l8.set 0 _).set 1 _).set 2 _).set 3 _) (fun w' hw'=>by simp [results,Tryz.results44,go_sem,hw']) rfl ⟨⟨b5,C5,b6,C6,by rw [ratC,Q5.out.2.1,Q7.out.2.2],((((((Q7.out.1.far (p:=⟨b3,2,none⟩) aT (.bool (sgnN (-y)))).far (p:=⟨b3,3,none⟩) aT (.slice A6 n6 c6)).far (p:=⟨w.heap.size+1+1,0,none⟩) aT _).far (p:=⟨w.heap.size+1+1,1,none⟩) aT _).far (p:=⟨w.heap.size+1+1,2,none⟩) aT _).far (p:=⟨w.heap.size+1+1,3,none⟩) aT _),((((((Q7.out.2.1.far (p:=⟨b3,2,none⟩) aT (.bool (sgnN (-y)))).far (p:=⟨b3,3,none⟩) aT (.slice A6 n6 c6)).far (p:=⟨w.heap.size+1+1,0,none⟩) aT _).far (p:=⟨w.heap.size+1+1,1,none⟩) aT _).far (p:=⟨w.heap.size+1+1,2,none⟩) aT _).far (p:=⟨w.heap.size+1+1,3,none⟩) aT _),aO,by simp [World.setCell]; omega,aO,by simp [World.setCell]; omega⟩,((((((hW7.setCell (p:=⟨b3,2,none⟩) aT (.bool (sgnN (-y)))).setCell (p:=⟨b3,3,none⟩) aT (.slice A6 n6 c6)).setCell (p:=⟨w.heap.size+1+1,0,none⟩) aT _).setCell (p:=⟨w.heap.size+1+1,1,none⟩) aT _).setCell (p:=⟨w.heap.size+1+1,2,none⟩) aT _).setCell (p:=⟨w.heap.size+1+1,3,none⟩) aT _)⟩
end Go.Proofs.YtflgngjocgiojaaGreat
