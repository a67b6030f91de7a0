import Derived.Test.YtflgngjocgiojaaGreatRatL
set_option linter.all false
namespace Go.Proofs.YtflgngjocgiojaaGreat
open Go.RowKit
set_option maxHeartbeats 8000000
set_option maxRecDepth 100000
theorem noU_two (s:Bool) (A:Option Addr) (n c:Nat):noU #[.bool s,.slice A n c]:=fun i d h=>by
 match i with
 | 0=>cases h
 | 1=>cases h
 | i+2=>simp at h
theorem ratio_Of_neg {w:World} {v1 v2:Value} {z1 z2:Int} (h1:NumAt w v1 z1) (h2:NumAt w v2 z2) (h0:z2<0):Calls Tryz.prog 22 #[v1,v2] w (RetR w (ofN z1 z2) (ofD z1 z2)):=by
 obtain ⟨y,hy⟩:=Zx (ofD z1 z2);rw [hy];have HY:=Zh (Zi hy h0);clear hy h0;obtain ⟨z,hz⟩:=Zx (ofN z1 z2);rw [hz];have G1:=Zh h1;have G2:=Zh h2;obtain ⟨r1,k1⟩:=h1.raw;obtain ⟨r2,k2⟩:=h2.raw;obtain ⟨A1,n1,c1,rfl,hc1,hm1,hl1,d1⟩:=h1;obtain ⟨A2,n2,c2,rfl,hc2,hm2,hl2,d2⟩:=h2;obtain ⟨s1,hs1⟩:=Zx (decide (z1<0));obtain ⟨s2,hs2⟩:=Zx (decide (z2<0));rw [hs1] at r1 k1 G1 ⊢;rw [hs2] at r2 k2 G2 ⊢;have H:=Zh (Zi hz (Zi hs1 hs2));clear hz hs1 hs2 d1 d2 r1 k1 r2 k2;have HS2:Hid (s2=true):=Zh (by rw [<- H.out.2.2]; exact decide_eq_true HY.out.2);go_enter Tryz.func22,Tryz.ntmps22;have hW:=((((Zb w.heap.size w).alloc (Zr _) (.cells #[.bool s1,.slice A1 n1 c1] 35)).alloc aS (.cells #[.bool s2,.slice A2 n2 c2] 35)).alloc aT (.cells nz2 37));have o2:Own (((w.alloc (.cells #[.bool s1,.slice A1 n1 c1] 35)).alloc (.cells #[.bool s2,.slice A2 n2 c2] 35)).alloc (.cells nz2 37)) w.heap.size #[.bool s1,.slice A1 n1 c1]:=aOwn;have o3:Own (((w.alloc (.cells #[.bool s1,.slice A1 n1 c1] 35)).alloc (.cells #[.bool s2,.slice A2 n2 c2] 35)).alloc (.cells nz2 37)) (w.heap.size+1) #[.bool s2,.slice A2 n2 c2]:=aOwn;have o4:Own (((w.alloc (.cells #[.bool s1,.slice A1 n1 c1] 35)).alloc (.cells #[.bool s2,.slice A2 n2 c2] 35)).alloc (.cells nz2 37)) (w.heap.size+1+1) nz2:=aOwn;go_wp2;generalize (((w.alloc (.cells #[.bool s1,.slice A1 n1 c1] 35)).alloc (.cells #[.bool s2,.slice A2 n2 c2] 35)).alloc (.cells nz2 37))=W0 at *;refine region_gen (T:=[]) [.make 2 [] (ownB [] #[.bool s1,.slice A1 n1 c1,.bool s2,.slice A2 n2 c2] (fun p=>.slice (some ⟨p,0,none⟩) 2 2)),.need 3 [2],.need 4 []] 11 0 40 (fun _ _=>True) (fun _ _ _ _ _=>trivial) trivial aK aK (by rfl) ?_;have q_d2:=fun v y=>(o2.later (v:=v) (T:=[]) aS y).cell
 have q_d3:=fun v y=>(o3.later (v:=v) (T:=[]) aS y).cell
 unfold genWalk;refine ⟨_,pz1,?_⟩;refine one_of (by rfl) ⟨fun f=>⟨rfl,fun u hu _=>?_⟩,?_⟩
 ·refine make_own (e:=35) gA1 aS
 unfold genWalk;refine ⟨_,pz6,?_⟩;unfold genWalk;apply Zs;apply Zi
 ·apply Piece.mk
  ·intro f v hv hr hne;simp only [TK,Nat.reduceSub,Nat.reduceAdd]
   (try simp only [LN])
   (try simp only [VB1])
   have h4:Own v (f 2).1 #[.bool s1,.slice A1 n1 c1,.bool s2,.slice A2 n2 c2]:=(hr 2 aS).2;have k4:=fun x:Later [] W0 v=>Own.below h4 x.g
   have L1:=fun x:Later [] W0 v=>NumAt.keeps (G1.out.below hW) x.h
   have L2:=fun x:Later [] W0 v=>NumAt.keeps (G2.out.below hW) x.h
   repeat (go_big_quiet_step ((go_at_call 62; with_reducible exact lateB (ratio_right2 (k4 _) (L1 _) (L2 _)))))
   refine wpQuiet_nil ?_;exact rfl
  ·intro f; kernel_rfl
  ·intro f f' hf; first | (simp; done) | (simp [hf 2 aS])
 unfold genWalk;apply Zs;apply Zi
 ·apply Piece.mk
  ·intro f v hv hr hne;simp only [TK,Nat.reduceSub,Nat.reduceAdd]
   (try simp only [LN])
   (try simp only [VB1])
   have d3:=fun y=>(o3.later (v:=v) (T:=[]) aS y).cell
   have L2:=fun x:Later [] W0 v=>NumAt.keeps (G2.out.below hW) x.h
   repeat (go_big_quiet_step (first | (go_at_call 63; with_reducible exact lateB ratio_zero) | (go_at_call 26; with_reducible exact lateB (cmp_zero (ordI_lt HY.out.2) (L2 _)))))
   refine wpQuiet_nil ?_;exact rfl
  ·intro f; kernel_rfl
  ·intro f f' hf; simp
 intro f u' hup hph hmade hdist;refine effc_nil ?_;simp only [TK,Nat.reduceSub,Nat.reduceAdd]
 (try simp only [LN])
 (try simp only [VB1])
 clear hmade hdist hph;have hwU:Below w.heap.size w u':=Upd.below hW hup aS;have p2:=o2.upd hup aS;have p3:=o3.upd hup aS;have p4:=o4.upd hup aS;have M1:=Zh (NumAt.keeps (G1.out.below hW) (Upd.keeps (Keeps.refl _ _) hup));have M2:=Zh (NumAt.keeps (G2.out.below hW) (Upd.keeps (Keeps.refl _ _) hup));generalize (f 2).1=b4 at *;clear f hup o2 o3 o4 hW;have hzU:=hwU.size;have p3c:=p3.cell;have hs2:=HS2.out;subst hs2;obtain ⟨x1,hx1⟩:=Zx (-z1);obtain ⟨x2,hx2⟩:=Zx (-z2);have hx20:0<x2:=by have:=HY.out.2; omega
 have HX:=Zh (Zi hx1 (Zi hx2 hx20));have hxf1:fits x1=true:=fits_le (b:=z1) aO (NumAt.fits M1.out);have hxf2:fits x2=true:=fits_le (b:=z2) aO (NumAt.fits M2.out);have HXF:=Zh (Zi hxf1 hxf2);clear hx1 hx2 hx20 hxf1 hxf2;go_wp2;refine region_sinkp [0,2,1,3,4,5] [0,2,1,3,4,5] ?l' ?hl aK 2 [] aK ?hB ?hp ?hh
 case hl =>
  simp only [permOps,List.map_cons,List.map_nil,List.getElem?_cons_zero,List.getElem?_cons_succ,pickO,rnO,rnE,tab,Option.map_none,List.map_toArray,List.getD_cons_zero,List.getD_cons_succ];rfl
 case hB=>kernel_rfl
 case hp=>rfl
 case hh =>
  apply Zs;refine ⟨fun v hv hne=>?_,fun u hu=>?_⟩
  ·simp only [TK];have d2:=fun y=>(p2.later (v:=v) (T:=[]) aS y).cell
   have d3:=fun y=>(p3.later (v:=v) (T:=[]) aS y).cell
   exact qz
  simp only [TK];have hv1:=hwU.trans (hu.mono hzU);have hv1z:=hv1.size;replace p2:=p2.below hu;replace p3:=p3.below hu;replace p4:=p4.below hu;have Z1:=M1.out.below hu;have Z2:=Zh (NumAt.below M2.out hu);have hq:=ratio_minus Z1;rw [HX.out.1] at hq;have HQ:=Zh hq;have kk:=Keeps.of_below (T:=[]) hu;clear Z1 hq p3c M1 M2;refine sink_mem (fun K hK=>?_);go_simp;refine HQ.out.mono ?_;rintro e v2 ⟨⟨b1,rfl,oN,loN,hiN⟩,hb⟩;refine ⟨_,rfl,?_⟩;refine hK _ _ (kk.more (Keeps.of_below (T:=[]) hb) aS) (fun v3 hb3=>?_);clear hK K HQ;have hbb:=hb.trans (hb3.mono hb.size);have hv3:=hv1.trans (hbb.mono hv1z);have hv3z:=hv3.size;have kk3:=kk.more (Keeps.of_below (T:=[]) hbb) aS;replace oN:=NumO.below oN hb3;replace p2:=p2.below hbb;replace p3:=p3.below hbb;replace p4:=p4.below hbb;have hq:=ratio_minus (NumAt.below Z2.out hbb);rw [HX.out.2.1] at hq;have HQ:=Zh hq;clear Z2 hq hb hb3 hbb hu kk hiN loN;refine sink_mem (fun K hK=>?_);go_simp;refine HQ.out.mono ?_;rintro e v4 ⟨⟨b2,rfl,oM,loM,hiM⟩,hb⟩;refine ⟨_,rfl,?_⟩;refine hK _ _ (kk3.more (Keeps.of_below (T:=[]) hb) aS) (fun v5 hb3=>?_);clear hK K HQ;have hbb:=hb.trans (hb3.mono hb.size);have hv5:=hv3.trans (hbb.mono hv3z);replace oM:=NumO.below oM hb3;replace oN:=NumO.below oN hbb;replace p2:=p2.below hbb;replace p3:=p3.below hbb;replace p4:=p4.below hbb;clear hb hb3 hbb kk3 hiM loM;obtain ⟨F1,fn1,fc1,hs7⟩:=slN_form x1 b1;obtain ⟨F2,fn2,fc2,hs8⟩:=slN_form x2 b2;have hsg:sgnN x2=false:=by unfold sgnN; rw [decide_eq_false (by have:=HX.out.2.2; omega)]; simp
  simp only [numV];rw [hsg];rw [hs7,hs8];have M1:=Zh (oN.at_ HXF.out.1);have M2:=Zh (oM.at_ HXF.out.2);unfold numV at M1 M2;rw [hs7] at M1;rw [hs8,hsg] at M2;have nu1:noU #[.bool s1,.slice A1 n1 c1]:=noU_two _ _ _ _;have nu2:noU #[.bool true,.slice A2 n2 c2]:=noU_two _ _ _ _;clear hs7 hs8 hsg;have p2c:=p2.cell;have p2f:=p2.thaw;have p3c:=p3.cell;have p3f:=p3.thaw;refine sink_all aK (fun K hK=>?_);go_simp;refine hK _ _ ?_;clear hK K;refine sink_all aK (fun K hK=>?_);go_simp;refine hK _ _ ?_;clear hK K;refine sink_nil ?_
  (try simp only [LN])
  have q2:Own ((((v5.setCell ⟨w.heap.size,0,none⟩ (.bool (sgnN x1))).setCell ⟨w.heap.size,1,none⟩ (.slice F1 fn1 fc1)).setCell ⟨w.heap.size+1,0,none⟩ (.bool false)).setCell ⟨w.heap.size+1,1,none⟩ (.slice F2 fn2 fc2)) w.heap.size #[.bool (sgnN x1),.slice F1 fn1 fc1]:=((((p2.set 0 (.bool (sgnN x1))).set 1 (.slice F1 fn1 fc1))).far (by simp <;> omega) _).far (by simp <;> omega) _;have q3:Own ((((v5.setCell ⟨w.heap.size,0,none⟩ (.bool (sgnN x1))).setCell ⟨w.heap.size,1,none⟩ (.slice F1 fn1 fc1)).setCell ⟨w.heap.size+1,0,none⟩ (.bool false)).setCell ⟨w.heap.size+1,1,none⟩ (.slice F2 fn2 fc2)) (w.heap.size+1) #[.bool false,.slice F2 fn2 fc2]:=(((((p3).far (by simp <;> omega) _).far (by simp <;> omega) _).set 0 (.bool false)).set 1 (.slice F2 fn2 fc2));have q4:Own ((((v5.setCell ⟨w.heap.size,0,none⟩ (.bool (sgnN x1))).setCell ⟨w.heap.size,1,none⟩ (.slice F1 fn1 fc1)).setCell ⟨w.heap.size+1,0,none⟩ (.bool false)).setCell ⟨w.heap.size+1,1,none⟩ (.slice F2 fn2 fc2)) (w.heap.size+1+1) nz2:=((((p4).far (by simp <;> omega) _).far (by simp <;> omega) _).far (by simp <;> omega) _).far (by simp <;> omega) _;have kS:Keeps [w.heap.size,w.heap.size+1] v5 ((((v5.setCell ⟨w.heap.size,0,none⟩ (.bool (sgnN x1))).setCell ⟨w.heap.size,1,none⟩ (.slice F1 fn1 fc1)).setCell ⟨w.heap.size+1,0,none⟩ (.bool false)).setCell ⟨w.heap.size+1,1,none⟩ (.slice F2 fn2 fc2)):=((((Keeps.refl _ _).set aS _).set aS _).set aS _).set aS _;have hTn0:∀ b∈[w.heap.size,w.heap.size+1],∃ cs,Own v5 b cs/\noU cs:=fun b hm=>by
   simp at hm;rcases hm with rfl | rfl
   ·exact ⟨_,p2,nu1⟩
   ·exact ⟨_,p3,nu2⟩
  replace M1:=Zh (NumAt.keepU M1.out kS hTn0);replace M2:=Zh (NumAt.keepU M2.out kS hTn0);have hwQ:Below w.heap.size w ((((v5.setCell ⟨w.heap.size,0,none⟩ (.bool (sgnN x1))).setCell ⟨w.heap.size,1,none⟩ (.slice F1 fn1 fc1)).setCell ⟨w.heap.size+1,0,none⟩ (.bool false)).setCell ⟨w.heap.size+1,1,none⟩ (.slice F2 fn2 fc2)):=((((hv5.setCell aS _).setCell aS _).setCell aS _).setCell aS _);clear p2 p3 p4 p2c p2f p3c p3f kS hTn0 hv5 oN oM hwU hzU nu1 nu2;generalize ((((v5.setCell ⟨w.heap.size,0,none⟩ (.bool (sgnN x1))).setCell ⟨w.heap.size,1,none⟩ (.slice F1 fn1 fc1)).setCell ⟨w.heap.size+1,0,none⟩ (.bool false)).setCell ⟨w.heap.size+1,1,none⟩ (.slice F2 fn2 fc2))=u7 at *;have hzQ:=hwQ.size;have p2c:=q2.cell;have p3c:=q3.cell;have p2:=q2;have p3:=q3;have p4:=q4;have hwU:=hwQ;have hzU:=hzQ;clear q2 q3 q4 hwQ hzQ;go_wp2_with fail;obtain ⟨g,hg⟩:∃ g:Nat,Nat.gcd x1.natAbs x2.natAbs=g:=⟨_,rfl⟩;have hz20:=HX.out.2.2;have hgf:fits (g:Int)=true:=fits_le (b:=x2) (by rw [<- hg]; exact Nat.le_of_dvd aO (Nat.gcd_dvd_right _ _)) (NumAt.fits M2.out);have hg0:(g:Int)≠0:=by
   have:0<Nat.gcd x1.natAbs x2.natAbs:=Nat.gcd_pos_of_pos_right _ aO;omega
  have HD:Hid (x1 / (g:Int)=z/\x2 / (g:Int)=y):=Zh (by
   have e1:=H.out.1;have e2:=HY.out.1;unfold ofN at e1;unfold ofD at e2;have hg2:Nat.gcd z1.natAbs z2.natAbs=g:=by rw [<- hg,<- HX.out.1,<- HX.out.2.1,Int.natAbs_neg,Int.natAbs_neg]
   rw [if_pos HY.out.2,hg2] at e1 e2;rw [HX.out.1] at e1;rw [HX.out.2.1] at e2;exact ⟨e1,e2⟩)
  have qq:=num_Gcd M1.out M2.out;rw [hg] at qq;have HGF:=Zh (Zi hg0 hgf);clear hg hgf hg0 hz20;refine Zd qq ?_;clear qq;rintro e u1 ⟨⟨b,rfl,h1,h2,h3⟩,hb⟩;rw [HGF.out.2];have hk:=(Zb u1.heap.size u1).alloc (Zr _) (.cells #[.bool (sgnN g),slN g b] 35);have r6:Own (u1.alloc (.cells #[.bool (sgnN g),slN g b] 35)) u1.heap.size #[.bool (sgnN g),slN g b]:=Own.new rfl;have hbk:=hb.trans (hk.mono hb.size);have hw1:=hwU.trans (hbk.mono hzU);have N1:=Zh (NumO.at_ (NumO.below h3 hk) HGF.out.2);have K1:=Zh (NumAt.below M1.out hbk);have K2:=Zh (NumAt.below M2.out hbk);have h16:=Zl p4.lt hb.size;replace p2:=p2.below hbk;replace p3:=p3.below hbk;replace p4:=p4.below hbk;obtain ⟨A9,n9,c9,hsl⟩:=slN_form g b;simp only [numV] at N1 ⊢;rw [hsl] at r6 N1 hw1 p2 p3 p4 K1 K2 ⊢;clear h1 h2 h3 hb hk hsl hbk M1 M2 p2c p3c;go_wp2;generalize (u1.alloc (.cells #[.bool (sgnN (g:Int)),.slice A9 n9 c9] 35))=u2 at *;have p4z:=p4.lt;have hTb:∀ b,b∈[w.heap.size+1+1]->b<u2.heap.size:=fun b hm=>by
   have h1:=List.mem_singleton.1 hm;omega
  have hTn:∀ b∈[w.heap.size+1+1],∃ cs,Own u2 b cs/\noU cs:=fun b hm=>by
   have h1:=List.mem_singleton.1 hm;subst h1;exact ⟨_,p4,noU_rat⟩
  have hwT:∀ u,Upd [w.heap.size+1+1] u2 u->Below w.heap.size w u:=fun u hu=>Upd.below hw1 hu aT
  refine region_gen (T:=[w.heap.size+1+1]) [.make 2 [] (valB _ z),.make 5 [] (valB _ y),.need 6 [2,5]] 7 0 40 (fun _ u=>Own u (w.heap.size+1+1) nz2) (fun _ _ _ h k=>h.below k) p4 aK aK (by rfl) ?_;have q_d2:=fun v y=>(p2.later (v:=v) (T:=[w.heap.size+1+1]) aT y).cell
  have q_d6:=fun v y=>(r6.later (v:=v) (T:=[w.heap.size+1+1]) aT y).cell
  unfold genWalk;refine ⟨_,pz1,?_⟩;refine one_of (by rfl) ⟨fun f=>⟨rfl,fun u hu _=>?_⟩,?_⟩
  ·refine make_call (f:=65) (args:=#[.agg #[.bool (sgnN x1),.slice F1 fn1 fc1],.agg #[.bool (sgnN (g:Int)),.slice A9 n9 c9]]) (by (try simp only [LN]); (try simp only [valB_val]); go_simp) ?_;have q:=ratio_quotient (w:=u) (NumAt.keepU K1.out hu hTn) (NumAt.keepU N1.out hu hTn) HGF.out.1;rw [HD.out.1] at q;refine q.mono ?_;rintro e wx ⟨⟨b,rfl,q1,q2,q3⟩,hbx⟩;exact ⟨(b,0),rfl,q2,q3,hbx,fun hm=>absurd (hTb b hm) (by have:=hu.1; omega),q1⟩
  have q_d3:=fun v y=>(p3.later (v:=v) (T:=[w.heap.size+1+1]) aS y).cell
  have q_d6:=fun v y=>(r6.later (v:=v) (T:=[w.heap.size+1+1]) aT y).cell
  unfold genWalk;refine ⟨_,pz13,?_⟩;refine one_of (by rfl) ⟨fun f=>⟨rfl,fun u hu _=>?_⟩,?_⟩
  ·refine make_call (f:=65) (args:=#[.agg #[.bool false,.slice F2 fn2 fc2],.agg #[.bool (sgnN (g:Int)),.slice A9 n9 c9]]) (by (try simp only [LN]); (try simp only [valB_val]); go_simp) ?_;have q:=ratio_quotient (w:=u) (NumAt.keepU K2.out hu hTn) (NumAt.keepU N1.out hu hTn) HGF.out.1;rw [HD.out.2] at q;refine q.mono ?_;rintro e wx ⟨⟨b,rfl,q1,q2,q3⟩,hbx⟩;exact ⟨(b,0),rfl,q2,q3,hbx,fun hm=>absurd (hTb b hm) (by have:=hu.1; omega),q1⟩
  unfold genWalk;refine ⟨_,pz13,?_⟩;unfold genWalk;refine ⟨_,pz3,?_⟩;intro f u' hup hph hmade hdist;obtain ⟨⟨hT1,oN⟩,loN,hiN⟩:=hmade 2 aO rfl;obtain ⟨⟨hT2,oM⟩,loM,hiM⟩:=hmade 5 aO rfl;replace oN:NumO u' (f 2).1 z:=oN;replace oM:NumO u' (f 5).1 y:=oM;have q4:Own u' (w.heap.size+1+1) nz2:=hph;have hwu:Below w.heap.size w u':=hwT u' hup;clear hmade hdist hph;simp only [TK,Nat.reduceSub,Nat.reduceAdd]
  (try simp only [LN])
  (try simp only [VB2,numV])
  generalize (f 2).1=b1 at *;generalize (f 5).1=b2 at *;clear f;obtain ⟨A7,n7,c7,hs7⟩:=slN_form z b1;obtain ⟨A8,n8,c8,hs8⟩:=slN_form y b2;rw [hs7,hs8];have HSL:=Zh (Zi hs7 hs8);clear hs7 hs8;have q4c:=q4.cell;have q4f:=q4.thaw;have hkT:=Upd.keeps (Keeps.refl _ _) hup;refine effc_mem (by rfl) (fun K hK=>?_);go_simp;refine hK _ _ (((((hkT).set aS _).set aS _).set aS _).set aS _) (fun u3 hu3=>?_);clear hK K;have hs3:=hu3.size;simp [World.setCell] at hs3;have hwu1:=((((hwu.setCell aT _).setCell aT _).setCell aT _).setCell aT _).trans (hu3.mono (by simp [World.setCell]; exact hwu.size));have q5:=((((q4.set 0 (.bool (sgnN z))).set 1 (.slice A7 n7 c7)).set 2 (.bool (sgnN y))).set 3 (.slice A8 n8 c8)).below hu3;have oN1:=NumO.below (((((oN).far aT _).far aT _).far aT _).far aT _) hu3;have oM1:=NumO.below (((((oM).far aT _).far aT _).far aT _).far aT _) hu3;have hk1:=(((((hkT).set aS _).set aS _).set aS _).set aS _).later hu3;clear q4 q4c q4f oN oM hu3;refine effc_mem (by rfl) (fun K hK=>?_);go_simp;refine hK _ _ hk1 (fun u4 hu4=>?_);clear hK K;have q6:=q5.below hu4;have oN2:=oN1.below hu4;have oM2:=oM1.below hu4;have hwu2:=hwu1.trans (hu4.mono hwu1.size);have hs4:=hu4.size;refine effc_nil ?_
  (try simp only [LN])
  go_wp2;refine retC (b:=w.heap.size+1+1) (v:= .tuple #[.agg #[.bool (sgnN z),.slice A7 n7 c7,.bool (sgnN y),.slice A8 n8 c8],.bool true]) q6 (fun w' hw'=>by simp [results,Tryz.results22,go_sem,hw']) rfl ⟨⟨b1,b2,by rw [ratV,HSL.out.1,HSL.out.2],oN2,oM2,aO,aO,aO,aO⟩,hwu2⟩
def largeI (n:Int):Bool:=decide (n < -2147483648) || decide (2147483648<n)
theorem matrix_large {w:World} (n:Int):Calls Tryz.prog 72 #[.int .i64 n] w fun r w'=>r = .returned (.bool (largeI n))/\Below w.heap.size w w':=by
 have hW:=Zb w.heap.size w
 by_cases h1:n < -2147483648
 ·have e:largeI n=true:=by unfold largeI; rw [decide_eq_true h1]; rfl
  rw [e];go_enter Tryz.func72,Tryz.ntmps72;go_wp2;go_ret;exact ⟨rfl,hW⟩
 ·have e:largeI n=decide (2147483648<n):=by unfold largeI; rw [decide_eq_false h1]; rfl
  rw [e];go_enter Tryz.func72,Tryz.ntmps72;go_wp2;go_ret;exact ⟨rfl,hW⟩
theorem matrix_zero {w:World} {v1:Value} {z1:Int} (h1:NumAt w v1 z1):Calls Tryz.prog 98 #[v1] w fun r w'=>r = .returned (.bool (decide (z1=0)))/\Below w.heap.size w w':=by
 obtain ⟨A1,n1,c1,rfl,hc1,hm1,hl1,d1⟩:=h1;obtain ⟨s1,hs1⟩:=Zx (decide (z1<0));rw [hs1];have hl:=d1.len;have hW:=(Zb w.heap.size w).alloc (Zr _) (.cells #[.bool s1,.slice A1 n1 c1] 35);obtain ⟨o,ho⟩:=Zx (decide (z1=0));rw [ho];have e:((n1:Int)==0)=o:=by
  rw [<- ho];rcases Nat.eq_zero_or_pos n1 with h | h
  ·have h2:z1.natAbs=0:=digs_nil.1 (List.eq_nil_of_length_eq_zero (by rw [hl]; exact h));rw [h,decide_eq_true aO]; rfl
  ·have h2:z1≠0:=fun h3=>by rw [h3] at hl; simp [digs_zero] at hl; omega
   rw [decide_eq_false h2];exact beq_eq_false_iff_ne.2 aO
 clear d1 hl ho hs1;go_enter Tryz.func98,Tryz.ntmps98;go_wp2;go_ret;exact ⟨rfl,hW⟩
theorem matrix_quotient {w:World} {v1 v2:Value} {z1 z2:Int} (h1:NumAt w v1 z1) (h2:NumAt w v2 z2) (h0:z2≠0):Calls Tryz.prog 102 #[v1,v2] w (RetV w (z1 / z2)):=by
 obtain ⟨z,hz⟩:=Zx (z1 / z2);rw [hz];have G1:=Zh h1;have G2:=Zh h2;obtain ⟨r1,k1⟩:=h1.raw;obtain ⟨r2,k2⟩:=h2.raw;obtain ⟨A1,n1,c1,rfl,hc1,hm1,hl1,d1⟩:=h1;obtain ⟨A2,n2,c2,rfl,hc2,hm2,hl2,d2⟩:=h2;obtain ⟨s1,hs1⟩:=Zx (decide (z1<0));obtain ⟨s2,hs2⟩:=Zx (decide (z2<0));rw [hs1] at r1 k1 G1 ⊢;rw [hs2] at r2 k2 G2 ⊢;have H:=Zh (Zi hz (Zi hs1 hs2));clear hz hs1 hs2 d1 d2 r1 k1 r2 k2;go_enter Tryz.func102,Tryz.ntmps102;have hW:=((((Zb w.heap.size w).alloc (Zr _) (.cells #[.bool s1,.slice A1 n1 c1] 35)).alloc aS (.cells #[.bool s2,.slice A2 n2 c2] 35)).alloc aT (.cells nz1 35));go_wp2_with fail;have o6:Own (((w.alloc (.cells #[.bool s1,.slice A1 n1 c1] 35)).alloc (.cells #[.bool s2,.slice A2 n2 c2] 35)).alloc (.cells nz1 35)) (w.heap.size+1+1) nz1:=aOwn;generalize (((w.alloc (.cells #[.bool s1,.slice A1 n1 c1] 35)).alloc (.cells #[.bool s2,.slice A2 n2 c2] 35)).alloc (.cells nz1 35))=W0 at *;have q:=num_Div (G1.out.below hW) (G2.out.below hW) h0;rw [H.out.1] at q;refine Zd q ?_;rintro e u1 ⟨⟨b,b2,rfl,g1,g2,g3,g4,g5,g6⟩,hb⟩;obtain ⟨A9,n9,c9,hsl⟩:=slN_form z b;obtain ⟨A0,n0,c0,hsl2⟩:=slN_form (z1%z2) b2;simp only [numV];rw [hsl,hsl2];obtain ⟨s9,hs9⟩:=Zx (sgnN (z1%z2));rw [hs9];have HSL:=Zh hsl;have hk:=((Zb u1.heap.size u1).alloc (Zr _) (.cells #[.bool (sgnN z),.slice A9 n9 c9] 35)).alloc aS (.cells #[.bool s9,.slice A0 n0 c0] 35);have hbz:=hb.size;have HB:=Zh (Zi (Zl o6.lt g3) (Zi g5 (g1.below hk)));have hw:=hW.trans ((hb.trans (hk.mono hbz)).mono hW.size);have p2:=(o6.below hb).below hk;have p2c:=p2.cell;have p2f:=p2.thaw;clear hsl hsl2 hs9 g1 g2 g3 g4 g5 g6 hk hb;go_wp2;refine retC (b:=w.heap.size+1+1) (v:= .agg #[.bool (sgnN z),.slice A9 n9 c9]) ((p2.set 0 _).set 1 _) (fun w' hw'=>by simp [results,Tryz.results102,go_sem,hw']) rfl ⟨⟨b,by rw [numV,HSL.out],(HB.out.2.2.far (by simp; have:=HB.out.1; omega) _).far (by simp; have:=HB.out.1; omega) _,by have:=HB.out.1; omega,by have:=HB.out.2.1; simp; omega⟩,(hw.setCell aT _).setCell aT _⟩
theorem matrix_mul {w:World} {v1 v2:Value} {z1 z2:Int} (h1:NumAt w v1 z1) (h2:NumAt w v2 z2):Calls Tryz.prog 126 #[v1,v2] w (RetV w (z1*z2)):=by
 obtain ⟨z,hz⟩:=Zx (z1*z2);rw [hz];have G1:=Zh h1;have G2:=Zh h2;obtain ⟨r1,k1⟩:=h1.raw;obtain ⟨r2,k2⟩:=h2.raw;obtain ⟨A1,n1,c1,rfl,hc1,hm1,hl1,d1⟩:=h1;obtain ⟨A2,n2,c2,rfl,hc2,hm2,hl2,d2⟩:=h2;obtain ⟨s1,hs1⟩:=Zx (decide (z1<0));obtain ⟨s2,hs2⟩:=Zx (decide (z2<0));rw [hs1] at r1 k1 G1 ⊢;rw [hs2] at r2 k2 G2 ⊢;have H:=Zh (Zi hz (Zi hs1 hs2));clear hz hs1 hs2 d1 d2 r1 k1 r2 k2;go_enter Tryz.func126,Tryz.ntmps126;have hW:=((((Zb w.heap.size w).alloc (Zr _) (.cells #[.bool s1,.slice A1 n1 c1] 35)).alloc aS (.cells #[.bool s2,.slice A2 n2 c2] 35)).alloc aT (.cells nz1 35));go_wp2_with fail;have o6:Own (((w.alloc (.cells #[.bool s1,.slice A1 n1 c1] 35)).alloc (.cells #[.bool s2,.slice A2 n2 c2] 35)).alloc (.cells nz1 35)) (w.heap.size+1+1) nz1:=aOwn;generalize (((w.alloc (.cells #[.bool s1,.slice A1 n1 c1] 35)).alloc (.cells #[.bool s2,.slice A2 n2 c2] 35)).alloc (.cells nz1 35))=W0 at *;have q:=num_Mul (G1.out.below hW) (G2.out.below hW);rw [H.out.1] at q;refine Zd q ?_;rintro e u1 ⟨⟨b,rfl,g2,g3,g1⟩,hb⟩;obtain ⟨A9,n9,c9,hsl⟩:=slN_form z b;simp only [numV];rw [hsl];obtain ⟨ok,hok⟩:=Zx (fits z);rw [hok];have HSL:=Zh hsl;have hk:=(Zb u1.heap.size u1).alloc (Zr _) (.cells #[.bool (sgnN z),.slice A9 n9 c9] 35);have hbz:=hb.size;have HB:=Zh (Zi (Zl o6.lt g2) (Zi g3 (g1.below hk)));have hw:=hW.trans ((hb.trans (hk.mono hbz)).mono hW.size);have p2:=(o6.below hb).below hk;have p2c:=p2.cell;have p2f:=p2.thaw;clear hsl hok g1 g2 g3 hk hb;go_wp2;refine retC (b:=w.heap.size+1+1) (v:= .agg #[.bool (sgnN z),.slice A9 n9 c9]) ((p2.set 0 _).set 1 _) (fun w' hw'=>by simp [results,Tryz.results126,go_sem,hw']) rfl ⟨⟨b,by rw [numV,HSL.out],(HB.out.2.2.far (by simp; have:=HB.out.1; omega) _).far (by simp; have:=HB.out.1; omega) _,by have:=HB.out.1; omega,by have:=HB.out.2.1; simp; omega⟩,(hw.setCell aT _).setCell aT _⟩
def zAt (Z:List Int) (i:Nat):Int:=Z.getD i 0
structure NumsX (X:Nat->Prop) (w:World) (A:Option Addr) (n:Nat) (Z:List Int):Prop where
 len:Z.length=n
 row:0<n->∃ b off,A=some ⟨b,off,none⟩/\b<w.heap.size/\X b/\∀ i,i<n->∃ s B m c,w.cell? ⟨b,off+i*2,none⟩=some (.bool s)/\w.cell? ⟨b,off+i*2+1,none⟩=some (.slice B m c) /\
  (∀ b off,B=some ⟨b,off,none⟩->b<w.heap.size/\X b)/\NumAt w (.agg #[.bool s,.slice B m c]) (zAt Z i)
theorem NumsX.nil (X:Nat->Prop) (w:World) (A:Option Addr):NumsX X w A 0 []:=⟨rfl,fun h=>aO⟩
theorem NumAt.same {w w':World} {s:Bool} {B:Option Addr} {m c:Nat} {z:Int} (h:NumAt w (.agg #[.bool s,.slice B m c]) z) (hs:w.heap.size<=w'.heap.size) (hk:∀ b off,B=some ⟨b,off,none⟩->w'.heap[b]?=w.heap[b]?):NumAt w' (.agg #[.bool s,.slice B m c]) z:=by
 obtain ⟨A,n,c',e,h1,h2,h3,h4⟩:=h;injection e with e
 simp at e;obtain ⟨rfl,rfl,rfl,rfl⟩:=e;refine ⟨_,_,_,rfl,h1,h2,h3,h4.len,h4.dg,fun hp=>?_⟩;obtain ⟨b,off,rfl,hb,hc⟩:=h4.row hp;exact ⟨b,off,rfl,Zl hb hs,fun i hi=>(Zc (w:=w) (a:=⟨b,off+i,none⟩) (hk b off rfl)).trans (hc i hi)⟩
theorem NumsX.move {X Y:Nat->Prop} {w w':World} {A:Option Addr} {n:Nat} {Z:List Int} (h:NumsX X w A n Z) (hs:w.heap.size<=w'.heap.size) (hk:∀ b,b<w.heap.size->X b->w'.heap[b]?=w.heap[b]?/\Y b):NumsX Y w' A n Z:=
 ⟨h.len,fun h0=>by
  obtain ⟨b,off,e,hlt,hX,hc⟩:=h.row h0;refine ⟨b,off,e,Zl hlt hs,(hk b hlt hX).2,fun i hi=>?_⟩;obtain ⟨s,B,m,c,h1,h2,h3,h4⟩:=hc i hi;have hB:=(hk b hlt hX).1;refine ⟨s,B,m,c,(Zc (w:=w) (a:=⟨b,off+i*2,none⟩) hB).trans h1,(Zc (w:=w) (a:=⟨b,off+i*2+1,none⟩) hB).trans h2,fun b' off' e'=>?_,h4.same hs fun b' off' e'=>?_⟩
  ·obtain ⟨h5,h6⟩:=h3 b' off' e';exact ⟨Zl h5 hs,(hk b' h5 h6).2⟩
  ·obtain ⟨h5,h6⟩:=h3 b' off' e';exact (hk b' h5 h6).1⟩
theorem NumsX.below {X:Nat->Prop} {w w':World} {A:Option Addr} {n:Nat} {Z:List Int} (h:NumsX X w A n Z) (hb:Below w.heap.size w w'):NumsX X w' A n Z:=
 h.move hb.size fun b hlt hX=>⟨hb.block b hlt,hX⟩
theorem NumsX.imp {X Y:Nat->Prop} {w:World} {A:Option Addr} {n:Nat} {Z:List Int} (h:NumsX X w A n Z) (hk:∀ b,b<w.heap.size->X b->Y b):NumsX Y w A n Z:=
 h.move (Zr _) fun b hlt hX=>⟨rfl,hk b hlt hX⟩
theorem NumsX.keeps {X:Nat->Prop} {w u:World} {A:Option Addr} {n:Nat} {Z:List Int} (h:NumsX X w A n Z) (hk:Keeps [] w u):NumsX X u A n Z:=
 h.move hk.1 fun b hlt hX=>⟨hk.2 b hlt aS,hX⟩
def OutB (X:Nat->Prop) (w:World) (v:Value):Prop:=∃ A n c,v = .slice A n c/\∀ b off,A=some ⟨b,off,none⟩->b<w.heap.size/\X b
def RowC (X:Nat->Prop) (w:World):List Value->List Int->Prop
 | [],[]=>True
 | a::v::xs,z::Z=>(∃ s,a = .bool s)/\OutB X w v/\NumAt w (.agg #[a,v]) z/\RowC X w xs Z
 | _,_=>False
theorem RowC.move {X Y:Nat->Prop} {w w':World} (hs:w.heap.size<=w'.heap.size) (hk:∀ b,b<w.heap.size->X b->w'.heap[b]?=w.heap[b]?/\Y b):∀ {xs:List Value} {Z:List Int},RowC X w xs Z->RowC Y w' xs Z
 | [],[],_=>trivial
 | _::_::_,_::_,h=>by
  obtain ⟨⟨s,rfl⟩,⟨B,m,c,rfl,h3⟩,h4,h5⟩:=h;refine ⟨⟨s,rfl⟩,⟨B,m,c,rfl,fun b off e=>?_⟩,h4.same hs fun b off e=>?_,RowC.move hs hk h5⟩
  ·obtain ⟨h6,h7⟩:=h3 b off e;exact ⟨Zl h6 hs,(hk b h6 h7).2⟩
  ·obtain ⟨h6,h7⟩:=h3 b off e;exact (hk b h6 h7).1
 | [],_::_,h=>h.elim
 | [_],[],h=>h.elim
 | [_],_::_,h=>h.elim
 | _::_::_,[],h=>h.elim
theorem RowC.below {X:Nat->Prop} {w w':World} (hb:Below w.heap.size w w') {xs:List Value} {Z:List Int} (h:RowC X w xs Z):RowC X w' xs Z:=
 h.move hb.size fun b hlt hX=>⟨hb.block b hlt,hX⟩
theorem RowC.grown {X Y:Nat->Prop} {w w':World} {g:Option Nat} (hg:w.grownBy w' g) (hk:∀ b,b<w.heap.size->X b->some b≠g/\Y b) {xs:List Value} {Z:List Int} (h:RowC X w xs Z):RowC Y w' xs Z:=
 h.move hg.size fun b hlt hX=>⟨hg.block b hlt (hk b hlt hX).1,(hk b hlt hX).2⟩
theorem RowC.snoc {X:Nat->Prop} {w:World} {s:Bool} {v:Value} {z:Int} (h2:OutB X w v) (h3:NumAt w (.agg #[.bool s,v]) z):∀ {xs:List Value} {Z:List Int},RowC X w xs Z->RowC X w (xs++[.bool s,v]) (Z++[z])
 | [],[],_=>⟨⟨s,rfl⟩,h2,h3,trivial⟩
 | _::_::_,_::_,h=>⟨h.1,h.2.1,h.2.2.1,RowC.snoc h2 h3 h.2.2.2⟩
 | [],_::_,h=>h.elim
 | [_],[],h=>h.elim
 | [_],_::_,h=>h.elim
 | _::_::_,[],h=>h.elim
theorem RowC.at_ {X:Nat->Prop} {w:World}:∀ {xs:List Value} {Z:List Int},RowC X w xs Z->∀ i,i<Z.length->∃ s B m c,xs[i*2]?=some (.bool s)/\xs[i*2+1]?=some (.slice B m c)/\(∀ b off,B=some ⟨b,off,none⟩->b<w.heap.size/\X b)/\NumAt w (.agg #[.bool s,.slice B m c]) (zAt Z i)
 | a::v::xs,z::Z,h,0,_=>by
  obtain ⟨⟨s,rfl⟩,⟨B,m,c,rfl,h2⟩,h3,_⟩:=h;exact ⟨s,B,m,c,rfl,rfl,h2,h3⟩
 | a::v::xs,z::Z,h,i+1,hi=>by
  obtain ⟨s,B,m,c,h1,h2,h3,h4⟩:=RowC.at_ h.2.2.2 i (by simpa using hi);refine ⟨s,B,m,c,?_,?_,h3,h4⟩
  ·rw [show (i+1)*2=i*2+2 by omega]; exact h1
  ·rw [show (i+1)*2+1=i*2+1+2 by omega]; exact h2
 | [],[],_,_,h=>by simp at h
 | [],_::_,h,_,_=>h.elim
 | [_],[],h,_,_=>h.elim
 | [_],_::_,h,_,_=>h.elim
 | _::_::_,[],h,_,_=>h.elim
def RowV (X:Nat->Prop) (v:Value) (Z:List Int) (w':World):Prop:=∃ A c,v = .slice A Z.length c/\(0<Z.length->∃ b,A=some ⟨b,0,none⟩)/\Z.length<=c/\c<=9223372036854775807/\NumsX X w' A Z.length Z
theorem row_of {X:Nat->Prop} {W:World} {base:Nat} {e:TypeId} {v:Value} {Z:List Int} {n:Nat} {xs:List Value} (hn:Z.length=n) (h:W.ownsRow base e 2 v n xs) (hr:RowC X W xs Z) (hX:∀ b,base<=b->v.ownBlock=some b->X b):RowV X v Z W:=by
 subst hn;rcases h.2 with ⟨rfl,h0⟩ | ⟨g,cap,cur,rfl,h1,h2,h3,h4,h5,h6⟩
 ·obtain rfl:Z=[]:=List.eq_nil_of_length_eq_zero h0;exact ⟨none,0,rfl,fun h=>by simp at h,aS,aO,NumsX.nil _ _ _⟩
 ·unfold maxLen at h4;refine ⟨_,cap,rfl,fun _=>⟨g,rfl⟩,h3,aO,⟨rfl,fun h0=>⟨g,0,rfl,?_,hX g h1 rfl,fun i hi=>?_⟩⟩⟩
  ·rcases Nat.lt_or_ge g W.heap.size with hl | hl
   ·exact hl
   ·rw [Array.getElem?_eq_none hl] at h2; cases h2
  ·obtain ⟨s,B,m,c,e1,e2,e3⟩:=hr.at_ i hi;have key:∀ j x,xs[j]?=some x->W.cell? ⟨g,j,none⟩=some x:=fun j x hx=>by
    rw [cell_of_row W g j cur e (0,0) h2];rw [<- h6,List.getElem?_take] at hx;split at hx
    ·rw [<- Array.getElem?_toList]; exact hx
    ·cases hx
   refine ⟨s,B,m,c,?_,?_,e3⟩
   ·rw [Nat.zero_add]; exact key _ _ e1
   ·rw [Nat.zero_add]; exact key _ _ e2
theorem ownsRow_stay {w w':World} {base:Nat} {e:TypeId} {size:Nat} {v:Value} {n:Nat} {xs:List Value} (h:w.ownsRow base e size v n xs) (hb:Below w.heap.size w w'):w'.ownsRow base e size v n xs:=by
 refine ⟨h.1,?_⟩;rcases h.2 with h1 | ⟨g,cap,cur,e1,e2,e3,e4⟩
 ·exact .inl h1
 ·refine .inr ⟨g,cap,cur,e1,e2,?_,e4⟩;exact (hb.block g (Zt.1 e3).1).trans e3
theorem ownBlock_lt {w:World} {base:Nat} {e:TypeId} {size:Nat} {v:Value} {n:Nat} {xs:List Value} (h:w.ownsRow base e size v n xs) {b:Nat} (hb:v.ownBlock=some b):b<w.heap.size:=by
 rcases h.2 with ⟨rfl,_⟩ | ⟨g,cap,cur,rfl,e2,e3,e4⟩
 ·cases hb
 ·cases hb; exact (Zt.1 e3).1
theorem slN_addr {z:Int} {b0 b off:Nat} {n c:Nat} (h:slN z b0 = .slice (some ⟨b,off,none⟩) n c):b0=b:=by
 unfold slN at h;split at h
 ·injection h with h; injection h with h; injection h
 ·injection h with h; cases h
def Sm (z:Int):Prop:=z.natAbs<2^1000
theorem fits_iff {z:Int}:fits z=true↔z.natAbs<4294967296^64:=⟨fun h=>digs_len.1 (of_decide_eq_true h),fun h=>decide_eq_true (digs_len.2 h)⟩
theorem sm_top:2^1000*2^1000+2^1000*2^1000<4294967296^64:=by decide +kernel
theorem Sm.mul_lt {a b:Int} (ha:Sm a) (hb:Sm b):(a*b).natAbs<2^1000*2^1000:=by
 rw [Int.natAbs_mul];have h1:a.natAbs<2^1000:=ha;have h2:b.natAbs<2^1000:=hb;revert h1 h2;generalize 2^1000=X;intro h1 h2;exact Nat.mul_lt_mul'' h1 h2
theorem Sm.mul {a b:Int} (ha:Sm a) (hb:Sm b):fits (a*b)=true:=by
 have h1:=ha.mul_lt hb;have h2:=sm_top;generalize 2^1000*2^1000=X at *;exact fits_iff.2 (Nat.lt_trans h1 aO)
theorem Sm.cross {a b c d:Int} (ha:Sm a) (hb:Sm b) (hc:Sm c) (hd:Sm d):fits (a*b - c*d)=true:=by
 have h1:=ha.mul_lt hb;have h3:=hc.mul_lt hd;have h2:=sm_top;have h4:(a*b - c*d).natAbs<=(a*b).natAbs+(c*d).natAbs:=Int.natAbs_sub_le _ _;generalize 2^1000*2^1000=X at *;exact fits_iff.2 aO
theorem Sm.fits {a:Int} (ha:Sm a):fits a=true:=by
 have h1:a.natAbs<2^1000:=ha;generalize 2^1000*2^1000=X at *;exact fits_iff.2 aO
def combZ (R O:List Int) (j:Nat) (p:Int):Nat->List Int
 | 0=>[]
 | k+1=>combZ R O j p k++[(zAt O j*zAt R k - zAt R j*zAt O k) / p]
theorem combZ_len (R O:List Int) (j:Nat) (p:Int):∀ k,(combZ R O j p k).length=k
 | 0=>rfl
 | k+1=>by simp [combZ,combZ_len R O j p k]
end Go.Proofs.YtflgngjocgiojaaGreat
