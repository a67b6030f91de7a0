import Derived.Test.YtflgngjocgiojaaGreatSinkp
set_option linter.all false
namespace Go.Proofs.YtflgngjocgiojaaGreat
open Go.RowKit
set_option maxHeartbeats 8000000
set_option maxRecDepth 100000
def ratV (p q:Int) (b1 b2:Nat):Value:= .agg #[.bool (sgnN p),slN p b1,.bool (sgnN q),slN q b2]
def RetR (w:World) (p q:Int) (r:Ending) (w':World):Prop:=(∃ b1 b2,r = .returned (.tuple #[ratV p q b1 b2,.bool true])/\NumO w' b1 p/\NumO w' b2 q/\w.heap.size<=b1/\b1<w'.heap.size/\w.heap.size<=b2/\b2<w'.heap.size)/\Below w.heap.size w w'
theorem noU_rat:noU nz2:=fun i d h=>by
 match i with
 | 0=>cases h
 | 1=>cases h
 | 2=>cases h
 | 3=>cases h
 | i+4=>simp at h
theorem NumAt.keepU {T:List Nat} {w u:World} {v:Value} {z:Int} (h:NumAt w v z) (hk:Keeps T w u) (hT:∀ b∈T,∃ cs,Own w b cs/\noU cs):NumAt u v z:=by
 obtain ⟨A,n,c,e,h1,h2,h3,h4⟩:=h;exact ⟨A,n,c,e,h1,h2,h3,h4.keepU hk hT⟩
def ofN (n d:Int):Int:=(if d<0 then -n else n) / ((Nat.gcd n.natAbs d.natAbs:Nat):Int)
def ofD (n d:Int):Int:=(if d<0 then -d else d) / ((Nat.gcd n.natAbs d.natAbs:Nat):Int)
theorem ratio_Of_pos {w:World} {v1 v2:Value} {z1 z2:Int} (h1:NumAt w v1 z1) (h2:NumAt w v2 z2) (h0:0<z2):Calls Tryz.prog 22 #[v1,v2] w (RetR w (ofN z1 z2) (ofD z1 z2)):=by
 obtain ⟨y,hy⟩:=Zx (ofD z1 z2);rw [hy];have HY:=Zh (Zi hy h0);clear hy h0;obtain ⟨z,hz⟩:=Zx (ofN z1 z2);rw [hz];have G1:=Zh h1;have G2:=Zh h2;obtain ⟨r1,k1⟩:=h1.raw;obtain ⟨r2,k2⟩:=h2.raw;obtain ⟨A1,n1,c1,rfl,hc1,hm1,hl1,d1⟩:=h1;obtain ⟨A2,n2,c2,rfl,hc2,hm2,hl2,d2⟩:=h2;obtain ⟨s1,hs1⟩:=Zx (decide (z1<0));obtain ⟨s2,hs2⟩:=Zx (decide (z2<0));rw [hs1] at r1 k1 G1 ⊢;rw [hs2] at r2 k2 G2 ⊢;have H:=Zh (Zi hz (Zi hs1 hs2));clear hz hs1 hs2 d1 d2 r1 k1 r2 k2;have HS2:Hid (s2=false):=Zh (by rw [<- H.out.2.2]; exact decide_eq_false (by have:=HY.out.2; omega));go_enter Tryz.func22,Tryz.ntmps22;have hW:=((((Zb w.heap.size w).alloc (Zr _) (.cells #[.bool s1,.slice A1 n1 c1] 35)).alloc aS (.cells #[.bool s2,.slice A2 n2 c2] 35)).alloc aT (.cells nz2 37));have o2:Own (((w.alloc (.cells #[.bool s1,.slice A1 n1 c1] 35)).alloc (.cells #[.bool s2,.slice A2 n2 c2] 35)).alloc (.cells nz2 37)) w.heap.size #[.bool s1,.slice A1 n1 c1]:=aOwn;have o3:Own (((w.alloc (.cells #[.bool s1,.slice A1 n1 c1] 35)).alloc (.cells #[.bool s2,.slice A2 n2 c2] 35)).alloc (.cells nz2 37)) (w.heap.size+1) #[.bool s2,.slice A2 n2 c2]:=aOwn;have o4:Own (((w.alloc (.cells #[.bool s1,.slice A1 n1 c1] 35)).alloc (.cells #[.bool s2,.slice A2 n2 c2] 35)).alloc (.cells nz2 37)) (w.heap.size+1+1) nz2:=aOwn;go_wp2;generalize (((w.alloc (.cells #[.bool s1,.slice A1 n1 c1] 35)).alloc (.cells #[.bool s2,.slice A2 n2 c2] 35)).alloc (.cells nz2 37))=W0 at *;refine region_gen (T:=[]) [.make 2 [] (ownB [] #[.bool s1,.slice A1 n1 c1,.bool s2,.slice A2 n2 c2] (fun p=>.slice (some ⟨p,0,none⟩) 2 2)),.need 3 [2],.need 4 []] 11 0 40 (fun _ _=>True) (fun _ _ _ _ _=>trivial) trivial aK aK (by rfl) ?_;have q_d2:=fun v y=>(o2.later (v:=v) (T:=[]) aS y).cell
 have q_d3:=fun v y=>(o3.later (v:=v) (T:=[]) aS y).cell
 unfold genWalk;refine ⟨_,pz1,?_⟩;refine one_of (by rfl) ⟨fun f=>⟨rfl,fun u hu _=>?_⟩,?_⟩
 ·refine make_own (e:=35) gA1 aS
 unfold genWalk;refine ⟨_,pz6,?_⟩;unfold genWalk;apply Zs;apply Zi
 ·apply Piece.mk
  ·intro f v hv hr hne;simp only [TK,Nat.reduceSub,Nat.reduceAdd]
   (try simp only [LN])
   (try simp only [VB1])
   have h4:Own v (f 2).1 #[.bool s1,.slice A1 n1 c1,.bool s2,.slice A2 n2 c2]:=(hr 2 aS).2;have k4:=fun x:Later [] W0 v=>Own.below h4 x.g
   have L1:=fun x:Later [] W0 v=>NumAt.keeps (G1.out.below hW) x.h
   have L2:=fun x:Later [] W0 v=>NumAt.keeps (G2.out.below hW) x.h
   repeat (go_big_quiet_step ((go_at_call 62; with_reducible exact lateB (ratio_right2 (k4 _) (L1 _) (L2 _)))))
   refine wpQuiet_nil ?_;exact rfl
  ·intro f; kernel_rfl
  ·intro f f' hf; first | (simp; done) | (simp [hf 2 aS])
 unfold genWalk;apply Zs;apply Zi
 ·apply Piece.mk
  ·intro f v hv hr hne;simp only [TK,Nat.reduceSub,Nat.reduceAdd]
   (try simp only [LN])
   (try simp only [VB1])
   have d3:=fun y=>(o3.later (v:=v) (T:=[]) aS y).cell
   have L2:=fun x:Later [] W0 v=>NumAt.keeps (G2.out.below hW) x.h
   repeat (go_big_quiet_step (first | (go_at_call 63; with_reducible exact lateB ratio_zero) | (go_at_call 26; with_reducible exact lateB (cmp_zero (ordI_gt HY.out.2) (L2 _)))))
   refine wpQuiet_nil ?_;exact rfl
  ·intro f; kernel_rfl
  ·intro f f' hf; simp
 intro f u' hup hph hmade hdist;refine effc_nil ?_;simp only [TK,Nat.reduceSub,Nat.reduceAdd]
 (try simp only [LN])
 (try simp only [VB1])
 clear hmade hdist hph;have hwU:Below w.heap.size w u':=Upd.below hW hup aS;have p2:=o2.upd hup aS;have p3:=o3.upd hup aS;have p4:=o4.upd hup aS;have M1:=Zh (NumAt.keeps (G1.out.below hW) (Upd.keeps (Keeps.refl _ _) hup));have M2:=Zh (NumAt.keeps (G2.out.below hW) (Upd.keeps (Keeps.refl _ _) hup));generalize (f 2).1=b4 at *;clear f hup o2 o3 o4 hW;have hzU:=hwU.size;have p2c:=p2.cell;have p3c:=p3.cell;have hs2:=HS2.out;subst hs2;go_wp2_with fail;obtain ⟨g,hg⟩:∃ g:Nat,Nat.gcd z1.natAbs z2.natAbs=g:=⟨_,rfl⟩;have hz20:=HY.out.2;have hgf:fits (g:Int)=true:=fits_le (b:=z2) (by rw [<- hg]; exact Nat.le_of_dvd aO (Nat.gcd_dvd_right _ _)) (NumAt.fits M2.out);have hg0:(g:Int)≠0:=by
  have:0<Nat.gcd z1.natAbs z2.natAbs:=Nat.gcd_pos_of_pos_right _ aO;omega
 have HD:Hid (z1 / (g:Int)=z/\z2 / (g:Int)=y):=Zh (by
  have e1:=H.out.1;have e2:=HY.out.1;unfold ofN at e1;unfold ofD at e2;rw [if_neg aO,hg] at e1 e2;exact ⟨e1,e2⟩)
 have qq:=num_Gcd M1.out M2.out;rw [hg] at qq;have HGF:=Zh (Zi hg0 hgf);clear hg hgf hg0 hz20;refine Zd qq ?_;clear qq;rintro e u1 ⟨⟨b,rfl,h1,h2,h3⟩,hb⟩;rw [HGF.out.2];have hk:=(Zb u1.heap.size u1).alloc (Zr _) (.cells #[.bool (sgnN g),slN g b] 35);have r6:Own (u1.alloc (.cells #[.bool (sgnN g),slN g b] 35)) u1.heap.size #[.bool (sgnN g),slN g b]:=Own.new rfl;have hbk:=hb.trans (hk.mono hb.size);have hw1:=hwU.trans (hbk.mono hzU);have N1:=Zh (NumO.at_ (NumO.below h3 hk) HGF.out.2);have K1:=Zh (NumAt.below M1.out hbk);have K2:=Zh (NumAt.below M2.out hbk);have h16:=Zl p4.lt hb.size;replace p2:=p2.below hbk;replace p3:=p3.below hbk;replace p4:=p4.below hbk;obtain ⟨A9,n9,c9,hsl⟩:=slN_form g b;simp only [numV] at N1 ⊢;rw [hsl] at r6 N1 hw1 p2 p3 p4 K1 K2 ⊢;clear h1 h2 h3 hb hk hsl hbk M1 M2 p2c p3c;go_wp2;generalize (u1.alloc (.cells #[.bool (sgnN (g:Int)),.slice A9 n9 c9] 35))=u2 at *;have p4z:=p4.lt;have hTb:∀ b,b∈[w.heap.size+1+1]->b<u2.heap.size:=fun b hm=>by
  have h1:=List.mem_singleton.1 hm;omega
 have hTn:∀ b∈[w.heap.size+1+1],∃ cs,Own u2 b cs/\noU cs:=fun b hm=>by
  have h1:=List.mem_singleton.1 hm;subst h1;exact ⟨_,p4,noU_rat⟩
 have hwT:∀ u,Upd [w.heap.size+1+1] u2 u->Below w.heap.size w u:=fun u hu=>Upd.below hw1 hu aT
 refine region_gen (T:=[w.heap.size+1+1]) [.make 2 [] (valB _ z),.make 5 [] (valB _ y),.need 6 [2,5]] 7 0 40 (fun _ u=>Own u (w.heap.size+1+1) nz2) (fun _ _ _ h k=>h.below k) p4 aK aK (by rfl) ?_;have q_d2:=fun v y=>(p2.later (v:=v) (T:=[w.heap.size+1+1]) aT y).cell
 have q_d6:=fun v y=>(r6.later (v:=v) (T:=[w.heap.size+1+1]) aT y).cell
 unfold genWalk;refine ⟨_,pz1,?_⟩;refine one_of (by rfl) ⟨fun f=>⟨rfl,fun u hu _=>?_⟩,?_⟩
 ·refine make_call (f:=65) (args:=#[.agg #[.bool s1,.slice A1 n1 c1],.agg #[.bool (sgnN (g:Int)),.slice A9 n9 c9]]) (by (try simp only [LN]); (try simp only [valB_val]); go_simp) ?_;have q:=ratio_quotient (w:=u) (NumAt.keepU K1.out hu hTn) (NumAt.keepU N1.out hu hTn) HGF.out.1;rw [HD.out.1] at q;refine q.mono ?_;rintro e wx ⟨⟨b,rfl,q1,q2,q3⟩,hbx⟩;exact ⟨(b,0),rfl,q2,q3,hbx,fun hm=>absurd (hTb b hm) (by have:=hu.1; omega),q1⟩
 have q_d3:=fun v y=>(p3.later (v:=v) (T:=[w.heap.size+1+1]) aS y).cell
 have q_d6:=fun v y=>(r6.later (v:=v) (T:=[w.heap.size+1+1]) aT y).cell
 unfold genWalk;refine ⟨_,pz13,?_⟩;refine one_of (by rfl) ⟨fun f=>⟨rfl,fun u hu _=>?_⟩,?_⟩
 ·refine make_call (f:=65) (args:=#[.agg #[.bool false,.slice A2 n2 c2],.agg #[.bool (sgnN (g:Int)),.slice A9 n9 c9]]) (by (try simp only [LN]); (try simp only [valB_val]); go_simp) ?_;have q:=ratio_quotient (w:=u) (NumAt.keepU K2.out hu hTn) (NumAt.keepU N1.out hu hTn) HGF.out.1;rw [HD.out.2] at q;refine q.mono ?_;rintro e wx ⟨⟨b,rfl,q1,q2,q3⟩,hbx⟩;exact ⟨(b,0),rfl,q2,q3,hbx,fun hm=>absurd (hTb b hm) (by have:=hu.1; omega),q1⟩
 unfold genWalk;refine ⟨_,pz13,?_⟩;unfold genWalk;refine ⟨_,pz3,?_⟩;intro f u' hup hph hmade hdist;obtain ⟨⟨hT1,oN⟩,loN,hiN⟩:=hmade 2 aO rfl;obtain ⟨⟨hT2,oM⟩,loM,hiM⟩:=hmade 5 aO rfl;replace oN:NumO u' (f 2).1 z:=oN;replace oM:NumO u' (f 5).1 y:=oM;have q4:Own u' (w.heap.size+1+1) nz2:=hph;have hwu:Below w.heap.size w u':=hwT u' hup;clear hmade hdist hph;simp only [TK,Nat.reduceSub,Nat.reduceAdd]
 (try simp only [LN])
 (try simp only [VB2,numV])
 generalize (f 2).1=b1 at *;generalize (f 5).1=b2 at *;clear f;obtain ⟨A7,n7,c7,hs7⟩:=slN_form z b1;obtain ⟨A8,n8,c8,hs8⟩:=slN_form y b2;rw [hs7,hs8];have HSL:=Zh (Zi hs7 hs8);clear hs7 hs8;have q4c:=q4.cell;have q4f:=q4.thaw;have hkT:=Upd.keeps (Keeps.refl _ _) hup;refine effc_mem (by rfl) (fun K hK=>?_);go_simp;refine hK _ _ (((((hkT).set aS _).set aS _).set aS _).set aS _) (fun u3 hu3=>?_);clear hK K;have hs3:=hu3.size;simp [World.setCell] at hs3;have hwu1:=((((hwu.setCell aT _).setCell aT _).setCell aT _).setCell aT _).trans (hu3.mono (by simp [World.setCell]; exact hwu.size));have q5:=((((q4.set 0 (.bool (sgnN z))).set 1 (.slice A7 n7 c7)).set 2 (.bool (sgnN y))).set 3 (.slice A8 n8 c8)).below hu3;have oN1:=NumO.below (((((oN).far aT _).far aT _).far aT _).far aT _) hu3;have oM1:=NumO.below (((((oM).far aT _).far aT _).far aT _).far aT _) hu3;have hk1:=(((((hkT).set aS _).set aS _).set aS _).set aS _).later hu3;clear q4 q4c q4f oN oM hu3;refine effc_mem (by rfl) (fun K hK=>?_);go_simp;refine hK _ _ hk1 (fun u4 hu4=>?_);clear hK K;have q6:=q5.below hu4;have oN2:=oN1.below hu4;have oM2:=oM1.below hu4;have hwu2:=hwu1.trans (hu4.mono hwu1.size);have hs4:=hu4.size;refine effc_nil ?_
 (try simp only [LN])
 go_wp2;refine retC (b:=w.heap.size+1+1) (v:= .tuple #[.agg #[.bool (sgnN z),.slice A7 n7 c7,.bool (sgnN y),.slice A8 n8 c8],.bool true]) q6 (fun w' hw'=>by simp [results,Tryz.results22,go_sem,hw']) rfl ⟨⟨b1,b2,by rw [ratV,HSL.out.1,HSL.out.2],oN2,oM2,aO,aO,aO,aO⟩,hwu2⟩
def ProdAt (w:World) (v:Value) (z:Int):Prop:=∃ s A n c,v = .agg #[.bool s,.slice A n c,.bool true]/\NumAt w (.agg #[.bool s,.slice A n c]) z
theorem RetP.prod {w':World} {z:Int} {b:Nat} (h:NumO w' b z) (hf:fits z=true):ProdAt w' (prodV z b) z:=by
 have q:=h.at_ hf;obtain ⟨A,n,c,hs⟩:=slN_form z b;unfold numV at q;rw [hs] at q;exact ⟨_,A,n,c,by rw [prodV,hs,hf],q⟩
theorem ratio_over {w:World} {v1 v2:Value} {z1 z2:Int} (h1:ProdAt w v1 z1) (h2:ProdAt w v2 z2) (h0:0<z2):Calls Tryz.prog 75 #[v1,v2] w (RetR w (ofN z1 z2) (ofD z1 z2)):=by
 obtain ⟨z,hz⟩:=Zx (ofN z1 z2);obtain ⟨y,hy⟩:=Zx (ofD z1 z2);rw [hz,hy];obtain ⟨s1,A1,n1,c1,rfl,g1⟩:=h1;obtain ⟨s2,A2,n2,c2,rfl,g2⟩:=h2;have G1:=Zh g1;have G2:=Zh g2;have H:=Zh (Zi hz (Zi hy h0));clear g1 g2 hz hy h0;have hW:=((((Zb w.heap.size w).alloc (Zr _) (.cells #[.bool s1,.slice A1 n1 c1,.bool true] 113)).alloc aS (.cells #[.bool s2,.slice A2 n2 c2,.bool true] 113)).alloc aT (.cells nz2 37));have o4:Own (((w.alloc (.cells #[.bool s1,.slice A1 n1 c1,.bool true] 113)).alloc (.cells #[.bool s2,.slice A2 n2 c2,.bool true] 113)).alloc (.cells nz2 37)) (w.heap.size+1+1) nz2:=aOwn;go_enter Tryz.func75,Tryz.ntmps75;go_wp2_with fail;generalize (((w.alloc (.cells #[.bool s1,.slice A1 n1 c1,.bool true] 113)).alloc (.cells #[.bool s2,.slice A2 n2 c2,.bool true] 113)).alloc (.cells nz2 37))=W0 at *;have hz0:=hW.size;have q:=ratio_Of_pos (G1.out.below hW) (G2.out.below hW) H.out.2.2;rw [H.out.1,H.out.2.1] at q;refine Zd q ?_;clear q;rintro e u1 ⟨⟨b1,b2,rfl,oN,oM,loN,hiN,loM,hiM⟩,hb⟩;have q4:=o4.below hb;have hwu:=hW.trans (hb.mono hz0);have q4c:=q4.cell;have q4f:=q4.thaw;have o4l:=o4.lt;have HN:=Zh (Zi oN oM);obtain ⟨A7,n7,c7,hs7⟩:=slN_form z b1;obtain ⟨A8,n8,c8,hs8⟩:=slN_form y b2;simp only [ratV];rw [hs7,hs8];have HSL:=Zh (Zi hs7 hs8);clear hs7 hs8 oN oM hb o4;go_wp2;refine retC (b:=w.heap.size+1+1) (v:= .tuple #[.agg #[.bool (sgnN z),.slice A7 n7 c7,.bool (sgnN y),.slice A8 n8 c8],.bool true]) (((((q4.set 0 (.bool (sgnN z))).set 1 (.slice A7 n7 c7)).set 2 (.bool (sgnN y))).set 3 (.slice A8 n8 c8))) (fun w' hw'=>by simp [results,Tryz.results75,go_sem,hw']) rfl ⟨⟨b1,b2,by rw [ratV,HSL.out.1,HSL.out.2],((((HN.out.1).far aT _).far aT _).far aT _).far aT _,((((HN.out.2).far aT _).far aT _).far aT _).far aT _,aO,aT,aO,aT⟩,((((hwu.setCell aT _).setCell aT _).setCell aT _).setCell aT _)⟩
def prodB (T:List Nat) (z:Int):EBS T where
 val p:=prodV z p.1
 R p u:=p.1∉T/\NumO u p.1 z
 st _ _ _ h k:=⟨h.1,fun h1 h2=>(h.2 h1 h2).upd k h.1⟩
theorem prodB_val {T:List Nat} {z:Int} {p:Nat×Nat}:(prodB T z).val p=prodV z p.1:=rfl
def ratB (T:List Nat) (B:Nat) (z y:Int):EBS T where
 val p:= .tuple #[ratV z y p.1 p.2,.bool true]
 R p u:=p.1∉T/\p.2∉T/\NumO u p.1 z/\NumO u p.2 y/\B<=p.2/\p.2<u.heap.size
 st _ _ _ h k:=⟨h.1,h.2.1,fun h1 h2=>(h.2.2.1 h1 h2).upd k h.1,fun h1 h2=>(h.2.2.2.1 h1 h2).upd k h.2.1,h.2.2.2.2.1,Zl h.2.2.2.2.2 k.size⟩
theorem ratB_val {T:List Nat} {B:Nat} {z y:Int} {p:Nat×Nat}:(ratB T B z y).val p = .tuple #[ratV z y p.1 p.2,.bool true]:=rfl
theorem VB3:(∀ (T:List Nat) (z:Int) (p:Nat×Nat),(prodB T z).val p=prodV z p.1)/\(∀ (T:List Nat) (B:Nat) (z y:Int) (p:Nat×Nat),(ratB T B z y).val p = .tuple #[ratV z y p.1 p.2,.bool true])/\(∀ (T:List Nat) (z:Int) (p:Nat×Nat),(valB T z).val p=numV z p.1)/\(∀ (T:List Nat) (N:Nat) (p:Nat×Nat),(newB T N).val p = .slice (some ⟨p.1,0,none⟩) (digs N).length p.2)/\(∀ (T:List Nat) (z:Int) (p:Nat×Nat),(numB T z).val p = .tuple #[numV z p.1,.bool (fits z)])/\∀ (T:List Nat) (cs:Array Value) (v:Nat->Value) (p:Nat×Nat),(ownB T cs v).val p=v p.1:=⟨fun _ _ _=>rfl,fun _ _ _ _ _=>rfl,VB2⟩
theorem ratio_Mul {w:World} {v1 v2:Value} {a b c d:Int} (h1:RatAt w v1 a b) (h2:RatAt w v2 c d) (k1:goodQ a b=true) (k2:goodQ c d=true) (f1:fits (a*c)=true) (f2:fits (b*d)=true) :
 Calls Tryz.prog 50 #[v1,v2] w (RetR w (ofN (a*c) (b*d)) (ofD (a*c) (b*d))):=by
 obtain ⟨z,hz⟩:=Zx (ofN (a*c) (b*d));obtain ⟨y,hy⟩:=Zx (ofD (a*c) (b*d));rw [hz,hy];obtain ⟨ac,hac⟩:=Zx (a*c);obtain ⟨bd,hbd⟩:=Zx (b*d);have hb0:0<b:=by unfold goodQ at k1; simp at k1; exact k1.1
 have hd0:0<d:=by unfold goodQ at k2; simp at k2; exact k2.1
 have hbd0:0<bd:=by rw [<- hbd]; exact Int.mul_pos hb0 hd0
 rw [hac] at f1 hz hy;rw [hbd] at f2 hz hy;have R1:=Zh (Zi h1 k1);have R2:=Zh (Zi h2 k2);have H:=Zh (Zi hz (Zi hy (Zi hac (Zi hbd (Zi hbd0 (Zi f1 f2))))));obtain ⟨s1,A1,n1,c1,t1,E1,m1,d1,rfl,g1,g2⟩:=h1;obtain ⟨s2,A2,n2,c2,t2,E2,m2,d2,rfl,g3,g4⟩:=h2;have G1:=Zh g1;have G2:=Zh g2;have G3:=Zh g3;have G4:=Zh g4;clear hz hy hac hbd hb0 hd0 hbd0 f1 f2 k1 k2 g1 g2 g3 g4;have hW:=((((Zb w.heap.size w).alloc (Zr _) (.cells #[.bool s1,.slice A1 n1 c1,.bool t1,.slice E1 m1 d1] 37)).alloc aS (.cells #[.bool s2,.slice A2 n2 c2,.bool t2,.slice E2 m2 d2] 37)).alloc aT (.cells nz2 37));have o2:Own (((w.alloc (.cells #[.bool s1,.slice A1 n1 c1,.bool t1,.slice E1 m1 d1] 37)).alloc (.cells #[.bool s2,.slice A2 n2 c2,.bool t2,.slice E2 m2 d2] 37)).alloc (.cells nz2 37)) w.heap.size #[.bool s1,.slice A1 n1 c1,.bool t1,.slice E1 m1 d1]:=aOwn;have o3:Own (((w.alloc (.cells #[.bool s1,.slice A1 n1 c1,.bool t1,.slice E1 m1 d1] 37)).alloc (.cells #[.bool s2,.slice A2 n2 c2,.bool t2,.slice E2 m2 d2] 37)).alloc (.cells nz2 37)) (w.heap.size+1) #[.bool s2,.slice A2 n2 c2,.bool t2,.slice E2 m2 d2]:=aOwn;have o4:Own (((w.alloc (.cells #[.bool s1,.slice A1 n1 c1,.bool t1,.slice E1 m1 d1] 37)).alloc (.cells #[.bool s2,.slice A2 n2 c2,.bool t2,.slice E2 m2 d2] 37)).alloc (.cells nz2 37)) (w.heap.size+1+1) nz2:=aOwn;go_enter Tryz.func50,Tryz.ntmps50;go_wp2_with fail;generalize (((w.alloc (.cells #[.bool s1,.slice A1 n1 c1,.bool t1,.slice E1 m1 d1] 37)).alloc (.cells #[.bool s2,.slice A2 n2 c2,.bool t2,.slice E2 m2 d2] 37)).alloc (.cells nz2 37))=W0 at *;have q:=ratio_Right (R1.out.1.below hW);rw [R1.out.2] at q;refine Zd q ?_;clear q;rintro e u1 ⟨rfl,hb⟩;have hW1:=hW.trans (hb.mono hW.size);replace o2:=o2.below hb;replace o3:=o3.below hb;replace o4:=o4.below hb;have o3c:=o3.cell;clear hb hW;go_wp2_with fail;have q:=ratio_Right (R2.out.1.below hW1);rw [R2.out.2] at q;refine Zd q ?_;clear q;rintro e u2 ⟨rfl,hb⟩;have hWW:=hW1.trans (hb.mono hW1.size);have p2:=o2.below hb;have p3:=o3.below hb;have p4:=o4.below hb;have p4z:=p4.lt;have X1:=Zh (G1.out.below hWW);have X2:=Zh (G2.out.below hWW);have X3:=Zh (G3.out.below hWW);have X4:=Zh (G4.out.below hWW);clear hb hW1 o2 o3 o4 o3c;go_wp2;have hTb:∀ b,b∈[w.heap.size+1+1]->b<u2.heap.size:=fun b hm=>by
  have h1:=List.mem_singleton.1 hm;omega
 have hTn:∀ b∈[w.heap.size+1+1],∃ cs,Own u2 b cs/\noU cs:=fun b hm=>by
  have h1:=List.mem_singleton.1 hm;subst h1;exact ⟨_,p4,noU_rat⟩
 have hwT:∀ u,Upd [w.heap.size+1+1] u2 u->Below w.heap.size w u:=fun u hu=>Upd.below hWW hu aT
 refine region_gen (T:=[w.heap.size+1+1]) [.make 4 [] (prodB _ ac),.make 9 [] (prodB _ bd),.make 10 [4,9] (ratB _ w.heap.size z y),.need 11 [10]] 13 0 40 (fun _ u=>Own u (w.heap.size+1+1) nz2) (fun _ _ _ h k=>h.below k) p4 aK aK (by rfl) ?_;have q_d2:=fun v y=>(p2.later (v:=v) (T:=[w.heap.size+1+1]) aT y).cell
 have q_d3:=fun v y=>(p3.later (v:=v) (T:=[w.heap.size+1+1]) aS y).cell
 unfold genWalk;refine ⟨_,pz1,?_⟩;refine one_of (by rfl) ⟨fun f=>⟨rfl,fun u hu _=>?_⟩,?_⟩
 ·refine make_call (f:=73) (args:=#[.agg #[.bool s1,.slice A1 n1 c1],.agg #[.bool s2,.slice A2 n2 c2]]) (by (try simp only [LN]); (try simp only [VB2,prodB_val,ratB_val]); go_simp) ?_;have q:=ratio_times (w:=u) (NumAt.keepU X1.out hu hTn) (NumAt.keepU X3.out hu hTn);rw [H.out.2.2.1] at q;refine q.mono ?_;rintro e wx ⟨⟨b,rfl,q1,q2,q3⟩,hbx⟩;exact ⟨(b,0),rfl,q2,q3,hbx,fun hm=>absurd (hTb b hm) (by have:=hu.1; omega),q1⟩
 have q_d2:=fun v y=>(p2.later (v:=v) (T:=[w.heap.size+1+1]) aT y).cell
 have q_d3:=fun v y=>(p3.later (v:=v) (T:=[w.heap.size+1+1]) aS y).cell
 unfold genWalk;refine ⟨_,pz16,?_⟩;refine one_of (by rfl) ⟨fun f=>⟨rfl,fun u hu _=>?_⟩,?_⟩
 ·refine make_call (f:=73) (args:=#[.agg #[.bool t1,.slice E1 m1 d1],.agg #[.bool t2,.slice E2 m2 d2]]) (by (try simp only [LN]); (try simp only [VB2,prodB_val,ratB_val]); go_simp) ?_;have q:=ratio_times (w:=u) (NumAt.keepU X2.out hu hTn) (NumAt.keepU X4.out hu hTn);rw [H.out.2.2.2.1] at q;refine q.mono ?_;rintro e wx ⟨⟨b,rfl,q1,q2,q3⟩,hbx⟩;exact ⟨(b,0),rfl,q2,q3,hbx,fun hm=>absurd (hTb b hm) (by have:=hu.1; omega),q1⟩
 unfold genWalk;refine ⟨_,pz16,?_⟩;refine one_of (by rfl) ⟨fun f=>⟨rfl,fun u hu hm=>?_⟩,?_⟩
 ·refine make_call (f:=75) (args:=#[prodV ac (f 4).1,prodV bd (f 9).1]) (by (try simp only [LN]); (try simp only [VB2,prodB_val,ratB_val]); go_simp) ?_;have e1:NumO u (f 4).1 ac:=(show (prodB [w.heap.size+1+1] ac).R (f 4) u from hm 4 aS).2;have e2:NumO u (f 9).1 bd:=(show (prodB [w.heap.size+1+1] bd).R (f 9) u from hm 9 aS).2;have q:=ratio_over (w:=u) (RetP.prod e1 H.out.2.2.2.2.2.1) (RetP.prod e2 H.out.2.2.2.2.2.2) H.out.2.2.2.2.1;rw [H.out.1,H.out.2.1] at q;refine q.mono ?_;rintro e wx ⟨⟨b1,b2,rfl,q1,q2,q3,q4,q5,q6⟩,hbx⟩;have hus:=hu.1;exact ⟨(b1,b2),rfl,q3,q4,hbx,fun hm=>absurd (hTb b1 hm) aO,fun hm=>absurd (hTb b2 hm) aO,q1,q2,by show w.heap.size<=b2; omega,q6⟩
 unfold genWalk;refine ⟨_,pz16,?_⟩;unfold genWalk;refine ⟨_,pz16,?_⟩;intro f u' hup hph hmade hdist;obtain ⟨⟨hT1,hT2,oN,oM,loM,hiM⟩,loN,hiN⟩:=hmade 10 aO rfl;replace oN:NumO u' (f 10).1 z:=oN;replace oM:NumO u' (f 10).2 y:=oM;replace loM:w.heap.size<=(f 10).2:=loM;replace hiM:(f 10).2<u'.heap.size:=hiM;have hT2b:(f 10).2≠w.heap.size+1+1:=fun h=>hT2 (by rw [h]; exact List.mem_singleton_self _)
 clear hT1 hT2;have q4:Own u' (w.heap.size+1+1) nz2:=hph;have hwu:Below w.heap.size w u':=hwT u' hup;clear hmade hdist hph;simp only [TK,Nat.reduceSub,Nat.reduceAdd]
 (try simp only [LN])
 (try simp only [VB2,prodB_val,ratB_val])
 simp only [ratV];generalize (f 10).1=b1 at *;generalize (f 10).2=b2 at *;generalize (f 4).1=b8 at *;generalize (f 9).1=b9 at *;clear f;obtain ⟨A7,n7,c7,hs7⟩:=slN_form z b1;obtain ⟨A8,n8,c8,hs8⟩:=slN_form y b2;rw [hs7,hs8];have HSL:=Zh (Zi hs7 hs8);clear hs7 hs8;have q4c:=q4.cell;have q4f:=q4.thaw;have hkT:=Upd.keeps (Keeps.refl _ _) hup;refine effc_mem (by rfl) (fun K hK=>?_);go_simp;refine hK _ _ (((((hkT).set aS _).set aS _).set aS _).set aS _) (fun u3 hu3=>?_);clear hK K;have hs3:=hu3.size;simp [World.setCell] at hs3;have hwu1:=((((hwu.setCell aT _).setCell aT _).setCell aT _).setCell aT _).trans (hu3.mono (by simp [World.setCell]; exact hwu.size));have q5:=((((q4.set 0 (.bool (sgnN z))).set 1 (.slice A7 n7 c7)).set 2 (.bool (sgnN y))).set 3 (.slice A8 n8 c8)).below hu3;have oN1:=NumO.below (((((oN).far aT _).far aT _).far aT _).far aT _) hu3;have oM1:=NumO.below (((((oM).far aT _).far aT _).far aT _).far aT _) hu3;have hk1:=(((((hkT).set aS _).set aS _).set aS _).set aS _).later hu3;clear q4 q4c q4f oN oM hu3;refine effc_mem (by rfl) (fun K hK=>?_);go_simp;refine hK _ _ hk1 (fun u4 hu4=>?_);clear hK K;have q6:=q5.below hu4;have oN2:=oN1.below hu4;have oM2:=oM1.below hu4;have hwu2:=hwu1.trans (hu4.mono hwu1.size);have hs4:=hu4.size;refine effc_nil ?_
 (try simp only [LN])
 go_wp2;refine retC (b:=w.heap.size+1+1) (v:= .tuple #[.agg #[.bool (sgnN z),.slice A7 n7 c7,.bool (sgnN y),.slice A8 n8 c8],.bool true]) q6 (fun w' hw'=>by simp [results,Tryz.results50,go_sem,hw']) rfl ⟨⟨b1,b2,by rw [ratV,HSL.out.1,HSL.out.2],oN2,oM2,aO,aO,aO,aO⟩,hwu2⟩
end Go.Proofs.YtflgngjocgiojaaGreat
