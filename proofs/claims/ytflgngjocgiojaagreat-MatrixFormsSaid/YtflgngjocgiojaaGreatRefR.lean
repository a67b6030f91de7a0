import Derived.Test.YtflgngjocgiojaaGreatRefQ
set_option linter.all false
namespace Go.Proofs.YtflgngjocgiojaaGreat
open Go.RowKit
theorem SmQ.fitsD {a b:QI} (h:SmQ a) (h':SmQ b):fits (a.1*b.2)=true/\fits (a.2*b.1)=true/\fits (a.1*b.1)=true/\fits (a.2*b.2)=true:=
 ⟨h.2.1.mul h'.2.2,h.2.2.mul h'.2.1,h.2.1.mul h'.2.1,h.2.2.mul h'.2.2⟩
set_option maxRecDepth 100000 in
set_option maxHeartbeats 8000000 in
theorem ref5_scaled {w:World} {A:Option Addr} {n:Nat} {x:Nat->QI} {v:Value} {p q:Int} (c:Nat) (h:RatsA w A n x) (hn:n<=900) (hv:RatAt w v p q) (hp:p≠0) (hq:SmQ (p,q)) (hx:∀ k,k<n->SmQ (x k)) (hy:∀ k,k<n->SmQ (divQ (x k) (p,q))) :
 Calls Tryz.prog 122 #[.slice A n c,v] w fun e w'=>(∃ u,e = .returned u/\RowQ w.heap.size w' u n (fun k=>divQ (x k) (p,q)))/\Below w.heap.size w w':=by
 obtain ⟨i0,hi0,hy0,hy1,hy2⟩:=info_parts infoRat;obtain ⟨s1,A1,n1,c1,s2,A2,n2,c2,rfl,g1,g2⟩:=hv;have HV:Hid (RatAt w (.agg #[.bool s1,.slice A1 n1 c1,.bool s2,.slice A2 n2 c2]) p q):=Zh ⟨s1,A1,n1,c1,s2,A2,n2,c2,rfl,g1,g2⟩;have H:=Zh h;have HP:=Zh (Zi hp (Zi hq (Zi hx hy)));have hni:(n:Int)<=900:=aO
 clear h hp hq hx hy g1 g2;go_enter Tryz.func122,Tryz.ntmps122;go_wp2;have hW:Below w.heap.size w (w.alloc (.cells #[.bool s1,.slice A1 n1 c1,.bool s2,.slice A2 n2 c2] 37)):=(Zb _ _).alloc (Zr _) _;have ob:Own (w.alloc (.cells #[.bool s1,.slice A1 n1 c1,.bool s2,.slice A2 n2 c2] 37)) w.heap.size #[.bool s1,.slice A1 n1 c1,.bool s2,.slice A2 n2 c2]:=Own.new rfl;have hB:(w.alloc (.cells #[.bool s1,.slice A1 n1 c1,.bool s2,.slice A2 n2 c2] 37)).heap.size=w.heap.size+1:=aS
 generalize (w.alloc (.cells #[.bool s1,.slice A1 n1 c1,.bool s2,.slice A2 n2 c2] 37))=W0 at *;obtain ⟨B,hBB⟩:=Zx (W0.heap.size);have hB0:w.heap.size<B:=aO
 have HW0:=Zh (Zi hW hBB);have HO:=Zh ob;clear hW ob hB;go_loopw [5,6] (fun u i wr=>∃ k:Nat,k<=n/\i = .int .i64 k/\Below B W0 wr/\B<=wr.heap.size/\GrowQ B wr u k (fun k=>divQ (x k) (p,q))) (fun _ i _=>n - (intOf i).toNat)
 case atStart=>exact ⟨0,aO,rfl,Zb _ _,aO,GrowQ.start _ _ _⟩
 case round =>
  obtain ⟨k,hk,rfl,hbw,hsz,hG⟩:=hrel;have HG:=Zh hG;have HBW:Hid (Below W0.heap.size W0 wr):=Zh (by rw [hBB]; exact hbw);have hW1:Below w.heap.size w wr:=HW0.out.1.trans (HBW.out.mono HW0.out.1.size);have HW1:=Zh hW1;clear hG hbw hW1 hBB
  by_cases hlt:k<n
  ·have hlti:(k:Int)<(n:Int):=aO
   have ob:=HO.out.below HBW.out;obtain ⟨b,off,rfl,hbb,hcell⟩:=(H.out.below HW1.out) aO;obtain ⟨t1,E1,m1,d1,t2,E2,m2,d2,x1,x2,x3,x4,g1,g2⟩:=hcell k hlt;have HXk:Hid (RatAt wr (.agg #[.bool t1,.slice E1 m1 d1,.bool t2,.slice E2 m2 d2]) (x k).1 (x k).2):=Zh ⟨_,_,_,_,_,_,_,_,rfl,g1,g2⟩;have HV1:=Zh (HV.out.below HW1.out);have hsx:=HP.out.2.2.1 k hlt;have hsy:=HP.out.2.2.2 k hlt;obtain ⟨⟨z,y⟩,hzy⟩:=Zx (divQ (x k) (p,q));rw [hzy] at hsy;have hzy1:ofN ((x k).1*q) ((x k).2*p)=z/\ofD ((x k).1*q) ((x k).2*p)=y:=⟨congrArg Prod.fst hzy,congrArg Prod.snd hzy⟩;have HZY:=Zh (Zi hzy (Zi hzy1.1 (Zi hzy1.2 (Zi hsx hsy))));have HFa:=Zh (Zi hsy.2.1.fits (Zi hsy.2.2.fits (show y≠0 from good_ne hsy.1)));have obl:=ob.lt;clear hcell g1 g2 hsx hsy hzy hzy1;go_wp2;refine region_gen (T:=[]) [.make 5 [] (ratCB [] wr.heap.size z y),.need 6 [5],.need 8 [],.make 9 [] (ownB [] #[.bool false,.slice none 0 0,.bool false,.slice none 0 0] (fun p=>.pointer (some ⟨p,0,none⟩)))] 10 0 40 (fun _ _=>True) (fun _ _ _ _ _=>trivial) trivial aK aK (by rfl) ?_;unfold genWalk;apply Zs;apply Zi
   ·apply Piece.mk
    ·intro f v hv hr hne;simp only [List.take_succ_cons,List.take_zero,List.drop_succ_cons,List.drop_zero,Nat.reduceSub,Nat.reduceAdd];have d0:=fun y=>(ob.later (v:=v) (T:=[]) aS y).cell
     have d1:=later_cell (T:=[]) (w:=wr) (v:=v) hbb aS x1;have d2:=later_cell (T:=[]) (w:=wr) (v:=v) hbb aS x2;have d3:=later_cell (T:=[]) (w:=wr) (v:=v) hbb aS x3;have d4:=later_cell (T:=[]) (w:=wr) (v:=v) hbb aS x4
     repeat (go_big_quiet_step (fail))
     refine wpQuiet_nil ?_;exact rfl
    ·intro f; kernel_rfl
    ·intro f f' hf; kernel_rfl
   simp only [List.take_succ_cons,List.take_zero,List.drop_succ_cons,List.drop_zero,Nat.reduceSub,Nat.reduceAdd,oneOp];refine ⟨fun f=>⟨rfl,fun u hu _=>?_⟩,?_⟩
   ·refine make_call (f:=143) (args:=#[.agg #[.bool t1,.slice E1 m1 d1,.bool t2,.slice E2 m2 d2],.agg #[.bool s1,.slice A1 n1 c1,.bool s2,.slice A2 n2 c2]]) (by (try simp only [LN]); (try simp only [newB_val,numB_val,ownB_val,numCB_val,ratCB_val,ratCV_val]); go_simp) ?_;have q:=ref3_Div (w:=u) (HXk.out.keeps hu) (HV1.out.keeps hu) HP.out.1 HZY.out.2.2.2.1.1 HP.out.2.1.1 (HZY.out.2.2.2.1.fitsD HP.out.2.1).1 (HZY.out.2.2.2.1.fitsD HP.out.2.1).2.1;rw [HZY.out.2.1,HZY.out.2.2.1] at q;refine q.mono ?_;rintro e wx ⟨⟨b1,C1,b2,C2,rfl,q1,q2,q3,q4,q5,q6⟩,hbx⟩;obtain ⟨D1,k1,k2,k3⟩:=q1.cap;obtain ⟨D2,k4,k5,k6⟩:=q2.cap;obtain ⟨e1,e2,e3⟩:=un_pk (b2:=b2) k1 k4;refine ⟨(b1,pk3 D1 b2 D2),?_,q3,q4,hbx,aS,aS,?_,?_,?_,?_⟩
    ·rw [ratCB_val,ratC,ratC];simp only [e1,e2,e3];rw [k2,k5]
    ·simp only [e1]; exact k3
    ·simp only [e2,e3]; exact k6
    ·simp only [e3]; have:=hu.1; omega
    ·simp only [e3]; exact q6
   unfold genWalk;apply Zs;apply Zi
   ·apply Piece.mk
    ·intro f v hv hr hne;simp only [List.take_succ_cons,List.take_zero,List.drop_succ_cons,List.drop_zero,Nat.reduceSub,Nat.reduceAdd]
     (try simp only [LN])
     (try simp only [newB_val,numB_val,ownB_val,numCB_val,ratCB_val,ratCV_val])
     repeat (go_big_quiet_step (fail))
     refine wpQuiet_nil ?_;exact rfl
    ·intro f; kernel_rfl
    ·intro f f' hf; simp
   unfold genWalk;apply Zs;apply Zi
   ·apply Piece.mk
    ·intro f v hv hr hne;simp only [List.take_succ_cons,List.take_zero,List.drop_succ_cons,List.drop_zero,Nat.reduceSub,Nat.reduceAdd]
     (try simp only [LN])
     (try simp only [newB_val,numB_val,ownB_val,numCB_val,ratCB_val,ratCV_val])
     repeat (go_big_quiet_step (fail))
     refine wpQuiet_nil ?_;exact rfl
    ·intro f; kernel_rfl
    ·intro f f' hf; first | (simp; done) | (simp [hf 5 aS])
   unfold genWalk;apply Zs;apply Zi
   ·apply Piece.mk
    ·intro f v hv hr hne;simp only [List.take_succ_cons,List.take_zero,List.drop_succ_cons,List.drop_zero,Nat.reduceSub,Nat.reduceAdd]
     (try simp only [LN])
     (try simp only [newB_val,numB_val,ownB_val,numCB_val,ratCB_val,ratCV_val])
     repeat (go_big_quiet_step (fail))
     refine wpQuiet_nil ?_;exact rfl
    ·intro f; kernel_rfl
    ·intro f f' hf; simp
   simp only [List.take_succ_cons,List.take_zero,List.drop_succ_cons,List.drop_zero,Nat.reduceSub,Nat.reduceAdd,oneOp];refine ⟨fun f=>⟨rfl,fun u hu _=>?_⟩,?_⟩
   ·refine make_own (e:=37) (by (try simp only [LN]); (try simp only [newB_val,numB_val,ownB_val,numCB_val,ratCB_val,ratCV_val]); go_simp) aS
   unfold genWalk;apply Zs;apply Zi
   ·apply Piece.mk
    ·intro f v hv hr hne;simp only [List.take_succ_cons,List.take_zero,List.drop_succ_cons,List.drop_zero,Nat.reduceSub,Nat.reduceAdd]
     (try simp only [LN])
     (try simp only [newB_val,numB_val,ownB_val,numCB_val,ratCB_val,ratCV_val])
     repeat (go_big_quiet_step (fail))
     refine wpQuiet_nil ?_;exact rfl
    ·intro f; kernel_rfl
    ·intro f f' hf; simp
   intro f u' hup hph hmade hdist;obtain ⟨⟨_,_,oN,oM,loM,hiM⟩,loN,hiN⟩:=hmade 5 aO rfl;obtain ⟨⟨_,o3⟩,lo3,hi3⟩:=hmade 9 aO rfl;have hne1:=hdist 5 9 aO aO rfl rfl aO;replace oN:NumC u' (f 5).1 (un1 (f 5).2) z:=oN;replace oM:NumC u' (un3 (f 5).2) (un2 (f 5).2) y:=oM;replace o3:Own u' (f 9).1 #[.bool false,.slice none 0 0,.bool false,.slice none 0 0]:=o3;have hne2:=oM.apart HFa.out.2.1 HFa.out.2.2 o3 noU_rat;clear hmade hdist hph;simp only [List.take_succ_cons,List.take_zero,List.drop_succ_cons,List.drop_zero,Nat.reduceSub,Nat.reduceAdd]
   (try simp only [LN])
   (try simp only [newB_val,numB_val,ownB_val,numCB_val,ratCB_val,ratCV_val,ratC])
   generalize un1 (f 5).2=C1 at *;generalize un3 (f 5).2=b2 at *;generalize un2 (f 5).2=C2 at *;generalize (f 5).1=b1 at *;generalize (f 9).1=ba at *;clear f;have hwU:Below wr.heap.size wr u':=Upd.below (Zb _ _) hup aS;have hkT:=Upd.keeps (Keeps.refl _ _) hup;obtain ⟨Aa1,na1,ca1,hs7⟩:=slC_form z b1 C1;obtain ⟨Aa2,na2,ca2,hs8⟩:=slC_form y b2 C2;rw [hs7,hs8];have HSL:=Zh (Zi hs7 hs8);have o3c:=o3.cell;have o3f:=o3.thaw;clear hs7 hs8 hup;refine effc_mem (by rfl) (fun K hK=>?_);go_simp;refine hK _ _ ((((hkT.new (p:=⟨ba,0,none⟩) lo3 (.bool (sgnN z))).new (p:=⟨ba,1,none⟩) lo3 (.slice Aa1 na1 ca1)).new (p:=⟨ba,2,none⟩) lo3 (.bool (sgnN y))).new (p:=⟨ba,3,none⟩) lo3 (.slice Aa2 na2 ca2)) (fun u3 hu3=>?_);clear hK K;have hs3:=hu3.size;simp [World.setCell] at hs3;have hw2:=(((((hwU.setCell (p:=⟨ba,0,none⟩) lo3 (.bool (sgnN z))).setCell (p:=⟨ba,1,none⟩) lo3 (.slice Aa1 na1 ca1)).setCell (p:=⟨ba,2,none⟩) lo3 (.bool (sgnN y))).setCell (p:=⟨ba,3,none⟩) lo3 (.slice Aa2 na2 ca2))).trans (hu3.mono (by simp [World.setCell]; exact hwU.size));have k3:=(((((o3.set 0 (.bool (sgnN z))).set 1 (.slice Aa1 na1 ca1)).set 2 (.bool (sgnN y))).set 3 (.slice Aa2 na2 ca2))).below hu3;have N1:=((((((oN.far (p:=⟨ba,0,none⟩) (by first | assumption | (simp; omega)) (.bool (sgnN z))).far (p:=⟨ba,1,none⟩) (by first | assumption | (simp; omega)) (.slice Aa1 na1 ca1)).far (p:=⟨ba,2,none⟩) (by first | assumption | (simp; omega)) (.bool (sgnN y))).far (p:=⟨ba,3,none⟩) (by first | assumption | (simp; omega)) (.slice Aa2 na2 ca2))).below hu3);have N2:=((((((oM.far (p:=⟨ba,0,none⟩) (by first | assumption | (simp; omega)) (.bool (sgnN z))).far (p:=⟨ba,1,none⟩) (by first | assumption | (simp; omega)) (.slice Aa1 na1 ca1)).far (p:=⟨ba,2,none⟩) (by first | assumption | (simp; omega)) (.bool (sgnN y))).far (p:=⟨ba,3,none⟩) (by first | assumption | (simp; omega)) (.slice Aa2 na2 ca2))).below hu3);have hk1:=(((((hkT.new (p:=⟨ba,0,none⟩) lo3 (.bool (sgnN z))).new (p:=⟨ba,1,none⟩) lo3 (.slice Aa1 na1 ca1)).new (p:=⟨ba,2,none⟩) lo3 (.bool (sgnN y))).new (p:=⟨ba,3,none⟩) lo3 (.slice Aa2 na2 ca2))).later hu3;clear o3 o3c o3f oN oM hkT hu3 hwU;refine effc_mem (by rfl) (fun K hK=>?_);go_simp;refine hK _ _ hk1 (fun ua hu4=>?_);clear hK K;refine effc_nil ?_
   (try simp only [LN])
   have HBa:=hw2.trans (hu4.mono hw2.size);have OBa:=k3.below hu4;have hsz4:=hu4.size;have RXa:Hid (RatX (fun x=>wr.heap.size<=x/\x≠ba) ua (sgnN z) Aa1 na1 ca1 (sgnN y) Aa2 na2 ca2 z y):=Zh (ratX_ref (N1.below hu4) (N2.below hu4) HFa.out.1 HFa.out.2.1 aO aO ⟨aO,hne1⟩ ⟨aO,hne2⟩ HSL.out.1 HSL.out.2);have LBa:=lo3;clear k3 N1 N2 hu4 hw2 hk1 HSL hne1 hne2 hs3 hsz4 loM hiM loN hiN lo3 hi3;have hbz:=HBa.size;obtain ⟨xs,hxo,hxc⟩:=HG.out.below HBa;have hxl:∀ b,u5.ownBlock=some b->b<wr.heap.size:=HG.out.lt;have HXL:=Zh hxl;have HXC:=Zh hxc;have oac:=OBa.cell;have hUW:B<=ua.heap.size:=aO
   clear hxc hxl x1 x2 x3 x4;go_wp2_with (at_builtin; refine wpList_append_lies _ rfl _ _ _ (by rfl) B 37 i0 (.agg #[.bool false,.slice none 0 0,.bool false,.slice none 0 0]) 4 64 Tryz.underlying38 hi0 hy0 hy1 hy2 rfl aO _ k xs (by rfl) (hxo.alloc _) ⟨ua.heap.size,0,none⟩ 1 1 [.bool (sgnN z),.slice Aa1 na1 ca1,.bool (sgnN y),.slice Aa2 na2 ca2] (by rfl) rfl ?sa ?sb aO ?sc ?sd ?se (ua.heap.size+1) aS ?_)
   case sa=>exact World.news_of_block (heap_alloc_new ua _)
   case sb=>intro u hu; simp at hu; rcases hu with rfl | rfl | rfl | rfl <;> rfl
   case sc=>unfold maxLen; omega
   case sd=>omega
   case se=>simp; omega
   intro g9 cg9 w9 ho9 hg9 hat9 hlt9;have hba:Below ua.heap.size ua (ua.alloc (.cells #[.bool (sgnN z),.slice Aa1 na1 ca1,.bool (sgnN y),.slice Aa2 na2 ca2] 37)):=(Zb _ _).alloc (Zr _) _;have hGN:GrowQ B w9 (.slice (some ⟨g9,0,none⟩) (k+1) cg9) (k+1) (fun k=>divQ (x k) (p,q)):=by
    refine RatC.next (U:=ua.alloc (.cells #[.bool (sgnN z),.slice Aa1 na1 ca1,.bool (sgnN y),.slice Aa2 na2 ca2] 37)) (HXC.out.move hba.size fun b hb hX=>⟨hba.block b hb,hX⟩) ?_ ho9 hg9 (by rcases hat9 with h | h; exact .inl h; exact .inr aT);show RatX _ _ _ _ _ _ _ _ _ _ (divQ (x k) (p,q)).1 (divQ (x k) (p,q)).2;rw [HZY.out.1];refine (RXa.out.below hba).move (Zr _) fun b _ hX=>⟨rfl,by have:=hX.1; omega,fun e=>by have:=HXL.out _ e.symm; have:=hX.1; omega⟩
   have hB9:Below B W0 w9:=Below.grown (Below.alloc (B:=B) (Below.trans (B:=B) (by rw [<- HW0.out.2]; exact HBW.out) (HBa.mono hsz)) aO (.cells #[.bool (sgnN z),.slice Aa1 na1 ca1,.bool (sgnN y),.slice Aa2 na2 ca2] 37)) hg9 aT (fun b hb=>ownBlock_ge hxo hb);have HN:=Zh (Zi hGN hB9);have hs9:=hg9.size;simp at hs9;clear hGN hB9 ho9 hg9 hat9 hlt9 hxo hba;go_wp2;go_roundw
   case rel=>exact ⟨k+1,aO,by go_num,HN.out.2,aO,HN.out.1⟩
   case measure=>simp [intOf]; omega
  ·obtain rfl:k=n:=aO
   have hlti:¬ (k:Int)<(k:Int):=aO
   obtain ⟨A9,c9,rfl,r1,r2,r3,r4⟩:=HG.out.row;have HR:=Zh (Zi r1 (Zi r2 (Zi r3 r4)));clear r1 r2 r3 r4;go_wp2;go_ret;exact ⟨⟨_,rfl,_,_,rfl,HR.out.1,HR.out.2.1,HR.out.2.2.1.imp fun b _ hX=>Zm (Nat.le_of_lt hB0) hX,fun h0=>by obtain ⟨g,e,_⟩:=HR.out.2.2.2 h0; exact ⟨g,e⟩⟩,HW1.out⟩
set_option maxRecDepth 100000 in
set_option maxHeartbeats 8000000 in
theorem ref5_less {w:World} {A A':Option Addr} {n:Nat} {x o:Nat->QI} {v:Value} {q:QI} (c c':Nat) (h:RatsA w A n x) (h':RatsA w A' n o) (hn:n<=900) (hv:RatAt w v q.1 q.2) (hq:SmQ q) (hx:∀ k,k<n->SmQ (x k)) (ho:∀ k,k<n->SmQ (o k)) (hm:∀ k,k<n->SmQ (mulQ (o k) q)) (hy:∀ k,k<n->SmQ (subQ (x k) (mulQ (o k) q))) :
 Calls Tryz.prog 123 #[.slice A n c,.slice A' n c',v] w fun e w'=>(∃ u,e = .returned u/\RowQ w.heap.size w' u n (fun k=>subQ (x k) (mulQ (o k) q)))/\Below w.heap.size w w':=by
 obtain ⟨i0,hi0,hy0,hy1,hy2⟩:=info_parts infoRat;obtain ⟨s1,A1,n1,c1,s2,A2,n2,c2,rfl,g1,g2⟩:=hv;have HV:Hid (RatAt w (.agg #[.bool s1,.slice A1 n1 c1,.bool s2,.slice A2 n2 c2]) q.1 q.2):=Zh ⟨s1,A1,n1,c1,s2,A2,n2,c2,rfl,g1,g2⟩;have H:=Zh h;have H':=Zh h';have HP:=Zh (Zi hq (Zi hx (Zi ho (Zi hm hy))));have hni:(n:Int)<=900:=aO
 clear h h' hq hx ho hm hy g1 g2;go_enter Tryz.func123,Tryz.ntmps123;go_wp2;have hW:Below w.heap.size w (w.alloc (.cells #[.bool s1,.slice A1 n1 c1,.bool s2,.slice A2 n2 c2] 37)):=(Zb _ _).alloc (Zr _) _;have ob:Own (w.alloc (.cells #[.bool s1,.slice A1 n1 c1,.bool s2,.slice A2 n2 c2] 37)) w.heap.size #[.bool s1,.slice A1 n1 c1,.bool s2,.slice A2 n2 c2]:=Own.new rfl;have hB:(w.alloc (.cells #[.bool s1,.slice A1 n1 c1,.bool s2,.slice A2 n2 c2] 37)).heap.size=w.heap.size+1:=aS
 generalize (w.alloc (.cells #[.bool s1,.slice A1 n1 c1,.bool s2,.slice A2 n2 c2] 37))=W0 at *;obtain ⟨B,hBB⟩:=Zx (W0.heap.size);have hB0:w.heap.size<B:=aO
 have HW0:=Zh (Zi hW hBB);have HO:=Zh ob;clear hW ob hB;go_loopw [7,8] (fun u i wr=>∃ k:Nat,k<=n/\i = .int .i64 k/\Below B W0 wr/\B<=wr.heap.size/\GrowQ B wr u k (fun k=>subQ (x k) (mulQ (o k) q))) (fun _ i _=>n - (intOf i).toNat)
 case atStart=>exact ⟨0,aO,rfl,Zb _ _,aO,GrowQ.start _ _ _⟩
 case round =>
  obtain ⟨k,hk,rfl,hbw,hsz,hG⟩:=hrel;have HG:=Zh hG;have HBW:Hid (Below W0.heap.size W0 wr):=Zh (by rw [hBB]; exact hbw);have hW1:Below w.heap.size w wr:=HW0.out.1.trans (HBW.out.mono HW0.out.1.size);have HW1:=Zh hW1;clear hG hbw hW1 hBB
  by_cases hlt:k<n
  ·have hlti:(k:Int)<(n:Int):=aO
   have ob:=HO.out.below HBW.out;obtain ⟨b,off,rfl,hbb,hcell⟩:=(H'.out.below HW1.out) aO;obtain ⟨t1,E1,m1,d1,t2,E2,m2,d2,x1,x2,x3,x4,g1,g2⟩:=hcell k hlt;obtain ⟨b',off',rfl,hbb',hcell'⟩:=(H.out.below HW1.out) aO;obtain ⟨t3,E3,m3,d3,t4,E4,m4,d4,y1,y2,y3,y4,g3,g4⟩:=hcell' k hlt;have HOk:Hid (RatAt wr (.agg #[.bool t1,.slice E1 m1 d1,.bool t2,.slice E2 m2 d2]) (o k).1 (o k).2):=Zh ⟨_,_,_,_,_,_,_,_,rfl,g1,g2⟩;have HXk:Hid (RatAt wr (.agg #[.bool t3,.slice E3 m3 d3,.bool t4,.slice E4 m4 d4]) (x k).1 (x k).2):=Zh ⟨_,_,_,_,_,_,_,_,rfl,g3,g4⟩;have HV1:=Zh (HV.out.below HW1.out);have hsx:=HP.out.2.1 k hlt;have hso:=HP.out.2.2.1 k hlt;have hsm:=HP.out.2.2.2.1 k hlt;have hsy:=HP.out.2.2.2.2 k hlt;obtain ⟨⟨zm,ym⟩,hzm⟩:=Zx (mulQ (o k) q);rw [hzm] at hsm hsy;obtain ⟨⟨z,y⟩,hzy⟩:=Zx (subQ (x k) (zm,ym));rw [hzy] at hsy;have hzm1:ofN ((o k).1*q.1) ((o k).2*q.2)=zm/\ofD ((o k).1*q.1) ((o k).2*q.2)=ym:=⟨congrArg Prod.fst hzm,congrArg Prod.snd hzm⟩;have hzy1:ofN ((x k).1*ym + -zm*(x k).2) ((x k).2*ym)=z/\ofD ((x k).1*ym + -zm*(x k).2) ((x k).2*ym)=y:=⟨congrArg Prod.fst hzy,congrArg Prod.snd hzy⟩;have HZM:=Zh (Zi hzm1.1 (Zi hzm1.2 (Zi hso hsm)));have HZY:Hid (subQ (x k) (mulQ (o k) q)=(z,y)/\_/\_/\SmQ (x k)/\SmQ (z,y)):=Zh (Zi (by rw [hzm,hzy]) (Zi hzy1.1 (Zi hzy1.2 (Zi hsx hsy))));have HFm:=Zh (Zi hsm.2.1.fits (Zi hsm.2.2.fits (show ym≠0 from good_ne hsm.1)));have HFa:=Zh (Zi hsy.2.1.fits (Zi hsy.2.2.fits (show y≠0 from good_ne hsy.1)));have obl:=ob.lt;clear hcell hcell' g1 g2 g3 g4 hsx hso hsm hsy hzm hzy hzm1 hzy1;go_wp2;refine region_gen (T:=[]) [.make 5 [] (ratCB [] wr.heap.size zm ym),.need 6 [5],.need 8 [],.make 9 [] (ownB [] #[.bool false,.slice none 0 0,.bool false,.slice none 0 0] (fun p=>.pointer (some ⟨p,0,none⟩)))] 10 0 40 (fun _ _=>True) (fun _ _ _ _ _=>trivial) trivial aK aK (by rfl) ?_;unfold genWalk;apply Zs;apply Zi
   ·apply Piece.mk
    ·intro f v hv hr hne;simp only [List.take_succ_cons,List.take_zero,List.drop_succ_cons,List.drop_zero,Nat.reduceSub,Nat.reduceAdd];have d0:=fun y=>(ob.later (v:=v) (T:=[]) aS y).cell
     have d1:=later_cell (T:=[]) (w:=wr) (v:=v) hbb aS x1;have d2:=later_cell (T:=[]) (w:=wr) (v:=v) hbb aS x2;have d3:=later_cell (T:=[]) (w:=wr) (v:=v) hbb aS x3;have d4:=later_cell (T:=[]) (w:=wr) (v:=v) hbb aS x4
     repeat (go_big_quiet_step (fail))
     refine wpQuiet_nil ?_;exact rfl
    ·intro f; kernel_rfl
    ·intro f f' hf; kernel_rfl
   simp only [List.take_succ_cons,List.take_zero,List.drop_succ_cons,List.drop_zero,Nat.reduceSub,Nat.reduceAdd,oneOp];refine ⟨fun f=>⟨rfl,fun u hu _=>?_⟩,?_⟩
   ·refine make_call (f:=54) (args:=#[.agg #[.bool t1,.slice E1 m1 d1,.bool t2,.slice E2 m2 d2],.agg #[.bool s1,.slice A1 n1 c1,.bool s2,.slice A2 n2 c2]]) (by (try simp only [LN]); (try simp only [newB_val,numB_val,ownB_val,numCB_val,ratCB_val,ratCV_val]); go_simp) ?_;have q':=(HZM.out.2.2.1.fitsD HP.out.1);have q:=ref3_Mul (w:=u) (HOk.out.keeps hu) (HV1.out.keeps hu) HZM.out.2.2.1.1 HP.out.1.1 q'.2.2.1 q'.2.2.2;rw [HZM.out.1,HZM.out.2.1] at q;refine q.mono ?_;rintro e wx ⟨⟨b1,C1,b2,C2,rfl,q1,q2,q3,q4,q5,q6⟩,hbx⟩;obtain ⟨D1,k1,k2,k3⟩:=q1.cap;obtain ⟨D2,k4,k5,k6⟩:=q2.cap;obtain ⟨e1,e2,e3⟩:=un_pk (b2:=b2) k1 k4;refine ⟨(b1,pk3 D1 b2 D2),?_,q3,q4,hbx,aS,aS,?_,?_,?_,?_⟩
    ·rw [ratCB_val,ratC,ratC];simp only [e1,e2,e3];rw [k2,k5]
    ·simp only [e1]; exact k3
    ·simp only [e2,e3]; exact k6
    ·simp only [e3]; have:=hu.1; omega
    ·simp only [e3]; exact q6
   unfold genWalk;apply Zs;apply Zi
   ·apply Piece.mk
    ·intro f v hv hr hne;simp only [List.take_succ_cons,List.take_zero,List.drop_succ_cons,List.drop_zero,Nat.reduceSub,Nat.reduceAdd]
     (try simp only [LN])
     (try simp only [newB_val,numB_val,ownB_val,numCB_val,ratCB_val,ratCV_val])
     repeat (go_big_quiet_step (fail))
     refine wpQuiet_nil ?_;exact rfl
    ·intro f; kernel_rfl
    ·intro f f' hf; simp
   unfold genWalk;apply Zs;apply Zi
   ·apply Piece.mk
    ·intro f v hv hr hne;simp only [List.take_succ_cons,List.take_zero,List.drop_succ_cons,List.drop_zero,Nat.reduceSub,Nat.reduceAdd]
     (try simp only [LN])
     (try simp only [newB_val,numB_val,ownB_val,numCB_val,ratCB_val,ratCV_val])
     repeat (go_big_quiet_step (fail))
     refine wpQuiet_nil ?_;exact rfl
    ·intro f; kernel_rfl
    ·intro f f' hf; first | (simp; done) | (simp [hf 5 aS])
   unfold genWalk;apply Zs;apply Zi
   ·apply Piece.mk
    ·intro f v hv hr hne;simp only [List.take_succ_cons,List.take_zero,List.drop_succ_cons,List.drop_zero,Nat.reduceSub,Nat.reduceAdd]
     (try simp only [LN])
     (try simp only [newB_val,numB_val,ownB_val,numCB_val,ratCB_val,ratCV_val])
     repeat (go_big_quiet_step (fail))
     refine wpQuiet_nil ?_;exact rfl
    ·intro f; kernel_rfl
    ·intro f f' hf; simp
   simp only [List.take_succ_cons,List.take_zero,List.drop_succ_cons,List.drop_zero,Nat.reduceSub,Nat.reduceAdd,oneOp];refine ⟨fun f=>⟨rfl,fun u hu _=>?_⟩,?_⟩
   ·refine make_own (e:=37) (by (try simp only [LN]); (try simp only [newB_val,numB_val,ownB_val,numCB_val,ratCB_val,ratCV_val]); go_simp) aS
   unfold genWalk;apply Zs;apply Zi
   ·apply Piece.mk
    ·intro f v hv hr hne;simp only [List.take_succ_cons,List.take_zero,List.drop_succ_cons,List.drop_zero,Nat.reduceSub,Nat.reduceAdd]
     (try simp only [LN])
     (try simp only [newB_val,numB_val,ownB_val,numCB_val,ratCB_val,ratCV_val])
     repeat (go_big_quiet_step (fail))
     refine wpQuiet_nil ?_;exact rfl
    ·intro f; kernel_rfl
    ·intro f f' hf; simp
   intro f u' hup hph hmade hdist;obtain ⟨⟨_,_,oN,oM,loM,hiM⟩,loN,hiN⟩:=hmade 5 aO rfl;obtain ⟨⟨_,o3⟩,lo3,hi3⟩:=hmade 9 aO rfl;have hne1:=hdist 5 9 aO aO rfl rfl aO;replace oN:NumC u' (f 5).1 (un1 (f 5).2) zm:=oN;replace oM:NumC u' (un3 (f 5).2) (un2 (f 5).2) ym:=oM;replace o3:Own u' (f 9).1 #[.bool false,.slice none 0 0,.bool false,.slice none 0 0]:=o3;have hne2:=oM.apart HFm.out.2.1 HFm.out.2.2 o3 noU_rat;clear hmade hdist hph;simp only [List.take_succ_cons,List.take_zero,List.drop_succ_cons,List.drop_zero,Nat.reduceSub,Nat.reduceAdd]
   (try simp only [LN])
   (try simp only [newB_val,numB_val,ownB_val,numCB_val,ratCB_val,ratCV_val,ratC])
   generalize un1 (f 5).2=C1 at *;generalize un3 (f 5).2=b2 at *;generalize un2 (f 5).2=C2 at *;generalize (f 5).1=b1 at *;generalize (f 9).1=bm at *;clear f;have hwU:Below wr.heap.size wr u':=Upd.below (Zb _ _) hup aS;have hkT:=Upd.keeps (Keeps.refl _ _) hup;obtain ⟨Am1,nm1,cm1,hs7⟩:=slC_form zm b1 C1;obtain ⟨Am2,nm2,cm2,hs8⟩:=slC_form ym b2 C2;rw [hs7,hs8];have HSL:=Zh (Zi hs7 hs8);have o3c:=o3.cell;have o3f:=o3.thaw;clear hs7 hs8 hup;refine effc_mem (by rfl) (fun K hK=>?_);go_simp;refine hK _ _ ((((hkT.new (p:=⟨bm,0,none⟩) lo3 (.bool (sgnN zm))).new (p:=⟨bm,1,none⟩) lo3 (.slice Am1 nm1 cm1)).new (p:=⟨bm,2,none⟩) lo3 (.bool (sgnN ym))).new (p:=⟨bm,3,none⟩) lo3 (.slice Am2 nm2 cm2)) (fun u3 hu3=>?_);clear hK K;have hs3:=hu3.size;simp [World.setCell] at hs3;have hw2:=(((((hwU.setCell (p:=⟨bm,0,none⟩) lo3 (.bool (sgnN zm))).setCell (p:=⟨bm,1,none⟩) lo3 (.slice Am1 nm1 cm1)).setCell (p:=⟨bm,2,none⟩) lo3 (.bool (sgnN ym))).setCell (p:=⟨bm,3,none⟩) lo3 (.slice Am2 nm2 cm2))).trans (hu3.mono (by simp [World.setCell]; exact hwU.size));have k3:=(((((o3.set 0 (.bool (sgnN zm))).set 1 (.slice Am1 nm1 cm1)).set 2 (.bool (sgnN ym))).set 3 (.slice Am2 nm2 cm2))).below hu3;have N1:=((((((oN.far (p:=⟨bm,0,none⟩) (by first | assumption | (simp; omega)) (.bool (sgnN zm))).far (p:=⟨bm,1,none⟩) (by first | assumption | (simp; omega)) (.slice Am1 nm1 cm1)).far (p:=⟨bm,2,none⟩) (by first | assumption | (simp; omega)) (.bool (sgnN ym))).far (p:=⟨bm,3,none⟩) (by first | assumption | (simp; omega)) (.slice Am2 nm2 cm2))).below hu3);have N2:=((((((oM.far (p:=⟨bm,0,none⟩) (by first | assumption | (simp; omega)) (.bool (sgnN zm))).far (p:=⟨bm,1,none⟩) (by first | assumption | (simp; omega)) (.slice Am1 nm1 cm1)).far (p:=⟨bm,2,none⟩) (by first | assumption | (simp; omega)) (.bool (sgnN ym))).far (p:=⟨bm,3,none⟩) (by first | assumption | (simp; omega)) (.slice Am2 nm2 cm2))).below hu3);have hk1:=(((((hkT.new (p:=⟨bm,0,none⟩) lo3 (.bool (sgnN zm))).new (p:=⟨bm,1,none⟩) lo3 (.slice Am1 nm1 cm1)).new (p:=⟨bm,2,none⟩) lo3 (.bool (sgnN ym))).new (p:=⟨bm,3,none⟩) lo3 (.slice Am2 nm2 cm2))).later hu3;clear o3 o3c o3f oN oM hkT hu3 hwU;refine effc_mem (by rfl) (fun K hK=>?_);go_simp;refine hK _ _ hk1 (fun um hu4=>?_);clear hK K;refine effc_nil ?_
   (try simp only [LN])
   have HBm:=hw2.trans (hu4.mono hw2.size);have OBm:=k3.below hu4;have hsz4:=hu4.size;have RXm:Hid (RatX (fun x=>wr.heap.size<=x/\x≠bm) um (sgnN zm) Am1 nm1 cm1 (sgnN ym) Am2 nm2 cm2 zm ym):=Zh (ratX_ref (N1.below hu4) (N2.below hu4) HFm.out.1 HFm.out.2.1 aO aO ⟨aO,hne1⟩ ⟨aO,hne2⟩ HSL.out.1 HSL.out.2);have LBm:=lo3;clear k3 N1 N2 hu4 hw2 hk1 HSL hne1 hne2 hs3 hsz4 loM hiM loN hiN lo3 hi3;have hmz:=HBm.size;have y1m:=(Zc (w:=wr) (a:=⟨b',off'+k*4,none⟩) (HBm.block b' hbb')).trans y1;have y2m:=(Zc (w:=wr) (a:=⟨b',off'+k*4+1,none⟩) (HBm.block b' hbb')).trans y2;have y3m:=(Zc (w:=wr) (a:=⟨b',off'+k*4+2,none⟩) (HBm.block b' hbb')).trans y3;have y4m:=(Zc (w:=wr) (a:=⟨b',off'+k*4+3,none⟩) (HBm.block b' hbb')).trans y4;have hbm':b'<um.heap.size:=aO
   have HXm:=Zh (HXk.out.below HBm);have HMm:Hid (RatAt um (.agg #[.bool (sgnN zm),.slice Am1 nm1 cm1,.bool (sgnN ym),.slice Am2 nm2 cm2]) zm ym):=Zh RXm.out.at_;have HGm:=Zh (HG.out.below HBm);have HWM:Hid (Below B W0 um):=Zh (Below.trans (B:=B) (by rw [<- HW0.out.2]; exact HBW.out) (HBm.mono hsz));have HW1m:=Zh (HW1.out.trans (HBm.mono HW1.out.size));have hszm:B<=um.heap.size:=aO
   have obml:=OBm.lt;clear x1 x2 x3 x4 y1 y2 y3 y4 HXk HOk HG HBW HW1 HBm RXm ob LBm;go_wp2;refine region_gen (T:=[]) [.make 5 [] (ratCB [] um.heap.size z y),.need 6 [5],.need 8 [],.make 9 [] (ownB [] #[.bool false,.slice none 0 0,.bool false,.slice none 0 0] (fun p=>.pointer (some ⟨p,0,none⟩)))] 10 0 40 (fun _ _=>True) (fun _ _ _ _ _=>trivial) trivial aK aK (by rfl) ?_;unfold genWalk;apply Zs;apply Zi
   ·apply Piece.mk
    ·intro f v hv hr hne;simp only [List.take_succ_cons,List.take_zero,List.drop_succ_cons,List.drop_zero,Nat.reduceSub,Nat.reduceAdd];have d0:=fun y=>(OBm.later (v:=v) (T:=[]) aS y).cell
     have d1:=later_cell (T:=[]) (w:=um) (v:=v) hbm' aS y1m;have d2:=later_cell (T:=[]) (w:=um) (v:=v) hbm' aS y2m;have d3:=later_cell (T:=[]) (w:=um) (v:=v) hbm' aS y3m;have d4:=later_cell (T:=[]) (w:=um) (v:=v) hbm' aS y4m
     repeat (go_big_quiet_step (fail))
     refine wpQuiet_nil ?_;exact rfl
    ·intro f; kernel_rfl
    ·intro f f' hf; kernel_rfl
   simp only [List.take_succ_cons,List.take_zero,List.drop_succ_cons,List.drop_zero,Nat.reduceSub,Nat.reduceAdd,oneOp];refine ⟨fun f=>⟨rfl,fun u hu _=>?_⟩,?_⟩
   ·refine make_call (f:=80) (args:=#[.agg #[.bool t3,.slice E3 m3 d3,.bool t4,.slice E4 m4 d4],.agg #[.bool (sgnN zm),.slice Am1 nm1 cm1,.bool (sgnN ym),.slice Am2 nm2 cm2]]) (by (try simp only [LN]); (try simp only [newB_val,numB_val,ownB_val,numCB_val,ratCB_val,ratCV_val]); go_simp) ?_;have q:=ref3_Sub (w:=u) (HXm.out.keeps hu) (HMm.out.keeps hu) HZY.out.2.2.2.1.1 HZM.out.2.2.2.1 (HZY.out.2.2.2.1.2.1.mul HZM.out.2.2.2.2.2) (HZM.out.2.2.2.2.1.neg.mul HZY.out.2.2.2.1.2.2) (HZY.out.2.2.2.1.2.2.mul HZM.out.2.2.2.2.2) (sm_sum HZY.out.2.2.2.1.2.1 HZM.out.2.2.2.2.2 HZM.out.2.2.2.2.1.neg HZY.out.2.2.2.1.2.2);rw [HZY.out.2.1,HZY.out.2.2.1] at q;refine q.mono ?_;rintro e wx ⟨⟨b1,C1,b2,C2,rfl,q1,q2,q3,q4,q5,q6⟩,hbx⟩;obtain ⟨D1,k1,k2,k3⟩:=q1.cap;obtain ⟨D2,k4,k5,k6⟩:=q2.cap;obtain ⟨e1,e2,e3⟩:=un_pk (b2:=b2) k1 k4;refine ⟨(b1,pk3 D1 b2 D2),?_,q3,q4,hbx,aS,aS,?_,?_,?_,?_⟩
    ·rw [ratCB_val,ratC,ratC];simp only [e1,e2,e3];rw [k2,k5]
    ·simp only [e1]; exact k3
    ·simp only [e2,e3]; exact k6
    ·simp only [e3]; have:=hu.1; omega
    ·simp only [e3]; exact q6
   unfold genWalk;apply Zs;apply Zi
   ·apply Piece.mk
    ·intro f v hv hr hne;simp only [List.take_succ_cons,List.take_zero,List.drop_succ_cons,List.drop_zero,Nat.reduceSub,Nat.reduceAdd]
     (try simp only [LN])
     (try simp only [newB_val,numB_val,ownB_val,numCB_val,ratCB_val,ratCV_val])
     repeat (go_big_quiet_step (fail))
     refine wpQuiet_nil ?_;exact rfl
    ·intro f; kernel_rfl
    ·intro f f' hf; simp
   unfold genWalk;apply Zs;apply Zi
   ·apply Piece.mk
    ·intro f v hv hr hne;simp only [List.take_succ_cons,List.take_zero,List.drop_succ_cons,List.drop_zero,Nat.reduceSub,Nat.reduceAdd]
     (try simp only [LN])
     (try simp only [newB_val,numB_val,ownB_val,numCB_val,ratCB_val,ratCV_val])
     repeat (go_big_quiet_step (fail))
     refine wpQuiet_nil ?_;exact rfl
    ·intro f; kernel_rfl
    ·intro f f' hf; first | (simp; done) | (simp [hf 5 aS])
   unfold genWalk;apply Zs;apply Zi
   ·apply Piece.mk
    ·intro f v hv hr hne;simp only [List.take_succ_cons,List.take_zero,List.drop_succ_cons,List.drop_zero,Nat.reduceSub,Nat.reduceAdd]
     (try simp only [LN])
     (try simp only [newB_val,numB_val,ownB_val,numCB_val,ratCB_val,ratCV_val])
     repeat (go_big_quiet_step (fail))
     refine wpQuiet_nil ?_;exact rfl
    ·intro f; kernel_rfl
    ·intro f f' hf; simp
   simp only [List.take_succ_cons,List.take_zero,List.drop_succ_cons,List.drop_zero,Nat.reduceSub,Nat.reduceAdd,oneOp];refine ⟨fun f=>⟨rfl,fun u hu _=>?_⟩,?_⟩
   ·refine make_own (e:=37) (by (try simp only [LN]); (try simp only [newB_val,numB_val,ownB_val,numCB_val,ratCB_val,ratCV_val]); go_simp) aS
   unfold genWalk;apply Zs;apply Zi
   ·apply Piece.mk
    ·intro f v hv hr hne;simp only [List.take_succ_cons,List.take_zero,List.drop_succ_cons,List.drop_zero,Nat.reduceSub,Nat.reduceAdd]
     (try simp only [LN])
     (try simp only [newB_val,numB_val,ownB_val,numCB_val,ratCB_val,ratCV_val])
     repeat (go_big_quiet_step (fail))
     refine wpQuiet_nil ?_;exact rfl
    ·intro f; kernel_rfl
    ·intro f f' hf; simp
   intro f u' hup hph hmade hdist;obtain ⟨⟨_,_,oN,oM,loM,hiM⟩,loN,hiN⟩:=hmade 5 aO rfl;obtain ⟨⟨_,o3⟩,lo3,hi3⟩:=hmade 9 aO rfl;have hne1:=hdist 5 9 aO aO rfl rfl aO;replace oN:NumC u' (f 5).1 (un1 (f 5).2) z:=oN;replace oM:NumC u' (un3 (f 5).2) (un2 (f 5).2) y:=oM;replace o3:Own u' (f 9).1 #[.bool false,.slice none 0 0,.bool false,.slice none 0 0]:=o3;have hne2:=oM.apart HFa.out.2.1 HFa.out.2.2 o3 noU_rat;clear hmade hdist hph;simp only [List.take_succ_cons,List.take_zero,List.drop_succ_cons,List.drop_zero,Nat.reduceSub,Nat.reduceAdd]
   (try simp only [LN])
   (try simp only [newB_val,numB_val,ownB_val,numCB_val,ratCB_val,ratCV_val,ratC])
   generalize un1 (f 5).2=C1 at *;generalize un3 (f 5).2=b2 at *;generalize un2 (f 5).2=C2 at *;generalize (f 5).1=b1 at *;generalize (f 9).1=ba at *;clear f;have hwU:Below um.heap.size um u':=Upd.below (Zb _ _) hup aS;have hkT:=Upd.keeps (Keeps.refl _ _) hup;obtain ⟨Aa1,na1,ca1,hs7⟩:=slC_form z b1 C1;obtain ⟨Aa2,na2,ca2,hs8⟩:=slC_form y b2 C2;rw [hs7,hs8];have HSL:=Zh (Zi hs7 hs8);have o3c:=o3.cell;have o3f:=o3.thaw;clear hs7 hs8 hup;refine effc_mem (by rfl) (fun K hK=>?_);go_simp;refine hK _ _ ((((hkT.new (p:=⟨ba,0,none⟩) lo3 (.bool (sgnN z))).new (p:=⟨ba,1,none⟩) lo3 (.slice Aa1 na1 ca1)).new (p:=⟨ba,2,none⟩) lo3 (.bool (sgnN y))).new (p:=⟨ba,3,none⟩) lo3 (.slice Aa2 na2 ca2)) (fun u3 hu3=>?_);clear hK K;have hs3:=hu3.size;simp [World.setCell] at hs3;have hw2:=(((((hwU.setCell (p:=⟨ba,0,none⟩) lo3 (.bool (sgnN z))).setCell (p:=⟨ba,1,none⟩) lo3 (.slice Aa1 na1 ca1)).setCell (p:=⟨ba,2,none⟩) lo3 (.bool (sgnN y))).setCell (p:=⟨ba,3,none⟩) lo3 (.slice Aa2 na2 ca2))).trans (hu3.mono (by simp [World.setCell]; exact hwU.size));have k3:=(((((o3.set 0 (.bool (sgnN z))).set 1 (.slice Aa1 na1 ca1)).set 2 (.bool (sgnN y))).set 3 (.slice Aa2 na2 ca2))).below hu3;have N1:=((((((oN.far (p:=⟨ba,0,none⟩) (by first | assumption | (simp; omega)) (.bool (sgnN z))).far (p:=⟨ba,1,none⟩) (by first | assumption | (simp; omega)) (.slice Aa1 na1 ca1)).far (p:=⟨ba,2,none⟩) (by first | assumption | (simp; omega)) (.bool (sgnN y))).far (p:=⟨ba,3,none⟩) (by first | assumption | (simp; omega)) (.slice Aa2 na2 ca2))).below hu3);have N2:=((((((oM.far (p:=⟨ba,0,none⟩) (by first | assumption | (simp; omega)) (.bool (sgnN z))).far (p:=⟨ba,1,none⟩) (by first | assumption | (simp; omega)) (.slice Aa1 na1 ca1)).far (p:=⟨ba,2,none⟩) (by first | assumption | (simp; omega)) (.bool (sgnN y))).far (p:=⟨ba,3,none⟩) (by first | assumption | (simp; omega)) (.slice Aa2 na2 ca2))).below hu3);have hk1:=(((((hkT.new (p:=⟨ba,0,none⟩) lo3 (.bool (sgnN z))).new (p:=⟨ba,1,none⟩) lo3 (.slice Aa1 na1 ca1)).new (p:=⟨ba,2,none⟩) lo3 (.bool (sgnN y))).new (p:=⟨ba,3,none⟩) lo3 (.slice Aa2 na2 ca2))).later hu3;clear o3 o3c o3f oN oM hkT hu3 hwU;refine effc_mem (by rfl) (fun K hK=>?_);go_simp;refine hK _ _ hk1 (fun ua hu4=>?_);clear hK K;refine effc_nil ?_
   (try simp only [LN])
   have HBa:=hw2.trans (hu4.mono hw2.size);have OBa:=k3.below hu4;have hsz4:=hu4.size;have RXa:Hid (RatX (fun x=>um.heap.size<=x/\x≠ba) ua (sgnN z) Aa1 na1 ca1 (sgnN y) Aa2 na2 ca2 z y):=Zh (ratX_ref (N1.below hu4) (N2.below hu4) HFa.out.1 HFa.out.2.1 aO aO ⟨aO,hne1⟩ ⟨aO,hne2⟩ HSL.out.1 HSL.out.2);have LBa:=lo3;clear k3 N1 N2 hu4 hw2 hk1 HSL hne1 hne2 hs3 hsz4 loM hiM loN hiN lo3 hi3;have hbz:=HBa.size;obtain ⟨xs,hxo,hxc⟩:=HGm.out.below HBa;have hxl:∀ b,u7.ownBlock=some b->b<um.heap.size:=HGm.out.lt;have HXL:=Zh hxl;have HXC:=Zh hxc;have oac:=OBa.cell;have hUW:B<=ua.heap.size:=aO
   clear hxc hxl y1m y2m y3m y4m OBm;go_wp2_with (at_builtin; refine wpList_append_lies _ rfl _ _ _ (by rfl) B 37 i0 (.agg #[.bool false,.slice none 0 0,.bool false,.slice none 0 0]) 4 64 Tryz.underlying38 hi0 hy0 hy1 hy2 rfl aO _ k xs (by rfl) (hxo.alloc _) ⟨ua.heap.size,0,none⟩ 1 1 [.bool (sgnN z),.slice Aa1 na1 ca1,.bool (sgnN y),.slice Aa2 na2 ca2] (by rfl) rfl ?sa ?sb aO ?sc ?sd ?se (ua.heap.size+1) aS ?_)
   case sa=>exact World.news_of_block (heap_alloc_new ua _)
   case sb=>intro u hu; simp at hu; rcases hu with rfl | rfl | rfl | rfl <;> rfl
   case sc=>unfold maxLen; omega
   case sd=>omega
   case se=>simp; omega
   intro g9 cg9 w9 ho9 hg9 hat9 hlt9;have hba:Below ua.heap.size ua (ua.alloc (.cells #[.bool (sgnN z),.slice Aa1 na1 ca1,.bool (sgnN y),.slice Aa2 na2 ca2] 37)):=(Zb _ _).alloc (Zr _) _;have hGN:GrowQ B w9 (.slice (some ⟨g9,0,none⟩) (k+1) cg9) (k+1) (fun k=>subQ (x k) (mulQ (o k) q)):=by
    refine RatC.next (U:=ua.alloc (.cells #[.bool (sgnN z),.slice Aa1 na1 ca1,.bool (sgnN y),.slice Aa2 na2 ca2] 37)) (HXC.out.move hba.size fun b hb hX=>⟨hba.block b hb,hX⟩) ?_ ho9 hg9 (by rcases hat9 with h | h; exact .inl h; exact .inr aT);show RatX _ _ _ _ _ _ _ _ _ _ (subQ (x k) (mulQ (o k) q)).1 (subQ (x k) (mulQ (o k) q)).2;rw [HZY.out.1];refine (RXa.out.below hba).move (Zr _) fun b _ hX=>⟨rfl,by have:=hX.1; omega,fun e=>by have:=HXL.out _ e.symm; have:=hX.1; omega⟩
   have hB9:Below B W0 w9:=Below.grown (Below.alloc (B:=B) (Below.trans (B:=B) HWM.out (HBa.mono hszm)) aO (.cells #[.bool (sgnN z),.slice Aa1 na1 ca1,.bool (sgnN y),.slice Aa2 na2 ca2] 37)) hg9 aT (fun b hb=>ownBlock_ge hxo hb);have HN:=Zh (Zi hGN hB9);have hs9:=hg9.size;simp at hs9;clear hGN hB9 ho9 hg9 hat9 hlt9 hxo hba;go_wp2;go_roundw
   case rel=>exact ⟨k+1,aO,by go_num,HN.out.2,aO,HN.out.1⟩
   case measure=>simp [intOf]; omega
  ·obtain rfl:k=n:=aO
   have hlti:¬ (k:Int)<(k:Int):=aO
   obtain ⟨A9,c9,rfl,r1,r2,r3,r4⟩:=HG.out.row;have HR:=Zh (Zi r1 (Zi r2 (Zi r3 r4)));clear r1 r2 r3 r4;go_wp2;go_ret;exact ⟨⟨_,rfl,_,_,rfl,HR.out.1,HR.out.2.1,HR.out.2.2.1.imp fun b _ hX=>Zm (Nat.le_of_lt hB0) hX,fun h0=>by obtain ⟨g,e,_⟩:=HR.out.2.2.2 h0; exact ⟨g,e⟩⟩,HW1.out⟩
set_option maxRecDepth 100000 in
set_option maxHeartbeats 8000000 in
theorem ref5_ratios {w:World} {A:Option Addr} {n:Nat} {l:List Int} (c:Nat) (h:IntsAt w A n l) (hn:n<=900) :
 Calls Tryz.prog 85 #[.slice A n c] w fun e w'=>(∃ u,e = .returned u/\GrowQ w.heap.size w' u n (fun k=>(iAt l k,1)))/\Below w.heap.size w w':=by
 obtain ⟨i0,hi0,hy0,hy1,hy2⟩:=info_parts infoRat;have H:=Zh h;have hni:(n:Int)<=900:=aO
 clear h;go_enter Tryz.func85,Tryz.ntmps85;go_wp2;go_loopw [3,4] (fun u i wr=>∃ k:Nat,k<=n/\i = .int .i64 k/\Below w.heap.size w wr/\GrowQ w.heap.size wr u k (fun k=>(iAt l k,1))) (fun _ i _=>n - (intOf i).toNat)
 case atStart=>exact ⟨0,aO,rfl,Zb _ _,GrowQ.start _ _ _⟩
 case round =>
  obtain ⟨k,hk,rfl,hbw,hG⟩:=hrel;have HG:=Zh hG;have HW1:=Zh hbw;clear hG hbw
  by_cases hlt:k<n
  ·have hlti:(k:Int)<(n:Int):=aO
   have hI:=H.out.below HW1.out;obtain ⟨b,off,rfl,hbb,hcell⟩:=hI.row aO;have q:=hcell k hlt;obtain ⟨h1,h2⟩:=hI.ok k (by rw [hI.len]; exact hlt);obtain ⟨z,hz⟩:=Zx (iAt l k);rw [hz] at q h1 h2;have HZ:=Zh hz;have qi:=ref3_IntC (w:=wr) z h1 h2;have QI:=Zh qi;have fz:fits z=true:=fits_small aO;have HF:=Zh fz;clear hI hcell hz h1 h2 qi fz;go_wp2_with fail;refine Zd QI.out ?_;rintro e ua ⟨⟨b1,C1,b2,C2,rfl,q1,q2,q3,q4,q5,q6⟩,hb2⟩;obtain ⟨Aa1,na1,ca1,hs7⟩:=slC_form z b1 C1;obtain ⟨Aa2,na2,ca2,hs8⟩:=slC_form 1 b2 C2;simp only [ratC];rw [hs7,hs8];have RXa:Hid (RatX (fun x=>wr.heap.size<=x) ua (sgnN z) Aa1 na1 ca1 (sgnN 1) Aa2 na2 ca2 z 1):=Zh (ratX_ref q1 q2 HF.out (fits_small aO) q4 q6 q3 q5 hs7 hs8);have HBa:=Zh hb2;obtain ⟨xs,hxo,hxc⟩:=HG.out.below hb2;have hxl:∀ b,u3.ownBlock=some b->b<wr.heap.size:=HG.out.lt;have HXL:=Zh hxl;have HXC:=Zh hxc;have hsz:=hb2.size;have hw0:=HW1.out.size;clear hxc hxl q q1 q2 q3 q4 q5 q6 hs7 hs8 hb2 QI;go_wp2_with (at_builtin; refine wpList_append_lies _ rfl _ _ _ (by rfl) w.heap.size 37 i0 (.agg #[.bool false,.slice none 0 0,.bool false,.slice none 0 0]) 4 64 Tryz.underlying38 hi0 hy0 hy1 hy2 rfl aO _ k xs (by rfl) (hxo.alloc _) ⟨ua.heap.size,0,none⟩ 1 1 [.bool (sgnN z),.slice Aa1 na1 ca1,.bool (sgnN 1),.slice Aa2 na2 ca2] (by rfl) rfl ?sa ?sb aO ?sc ?sd ?se (ua.heap.size+1) aS ?_)
   case sa=>exact World.news_of_block (heap_alloc_new ua _)
   case sb=>intro u hu; simp at hu; rcases hu with rfl | rfl | rfl | rfl <;> rfl
   case sc=>unfold maxLen; omega
   case sd=>omega
   case se=>simp; omega
   intro g9 cg9 w9 ho9 hg9 hat9 hlt9;have hba:Below ua.heap.size ua (ua.alloc (.cells #[.bool (sgnN z),.slice Aa1 na1 ca1,.bool (sgnN 1),.slice Aa2 na2 ca2] 37)):=(Zb _ _).alloc (Zr _) _;have hGN:GrowQ w.heap.size w9 (.slice (some ⟨g9,0,none⟩) (k+1) cg9) (k+1) (fun k=>(iAt l k,1)):=by
    refine RatC.next (U:=ua.alloc (.cells #[.bool (sgnN z),.slice Aa1 na1 ca1,.bool (sgnN 1),.slice Aa2 na2 ca2] 37)) (HXC.out.move hba.size fun b hb hX=>⟨hba.block b hb,hX⟩) ?_ ho9 hg9 (by rcases hat9 with h | h; exact .inl h; exact .inr aT);show RatX _ _ _ _ _ _ _ _ _ _ (iAt l k) 1;rw [HZ.out];refine (RXa.out.below hba).move (Zr _) fun b _ hX=>⟨rfl,Zm hw0 hX,fun e=>by have:=HXL.out _ e.symm; have:wr.heap.size<=b:=hX; omega⟩
   have hB9:Below w.heap.size w w9:=Below.grown (Below.alloc (HW1.out.trans (HBa.out.mono hw0)) aO (.cells #[.bool (sgnN z),.slice Aa1 na1 ca1,.bool (sgnN 1),.slice Aa2 na2 ca2] 37)) hg9 aT (fun b hb=>ownBlock_ge hxo hb);have HN:=Zh (Zi hGN hB9);clear hGN hB9 ho9 hg9 hat9 hlt9 hxo hba;go_wp2;go_roundw
   case rel=>exact ⟨k+1,aO,by go_num,HN.out.2,HN.out.1⟩
   case measure=>simp [intOf]; omega
  ·obtain rfl:k=n:=aO
   have hlti:¬ (k:Int)<(k:Int):=aO
   go_wp2;go_ret;exact ⟨⟨_,rfl,HG.out⟩,HW1.out⟩
end Go.Proofs.YtflgngjocgiojaaGreat
