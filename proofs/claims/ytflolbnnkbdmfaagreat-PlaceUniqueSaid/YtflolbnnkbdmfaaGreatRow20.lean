import Derived.Test.YtflolbnnkbdmfaaGreatOddW
import Derived.Test.YtflolbnnkbdmfaaGreatSan20
set_option linter.all false
namespace Go.Proofs.YtflolbnnkbdmfaaGreat
open Go.RowKit
def AllL (W:World) (b:Nat):Prop:=∀ i,i<4->∃ A n c L,W.cell? ⟨b,i,none⟩=some (.slice A n c)/\LocsAt W A n L/\n<=100
theorem AllL.below {w w':World} {b:Nat} (h:AllL w b) (hb:b<w.heap.size) (k:Below w.heap.size w w'):AllL w' b:=fun i hi=>by
 obtain ⟨A,n,c,L,h1,h2,h3⟩:=h i hi;exact ⟨A,n,c,L,(Zc (w:=w) (a:=⟨b,i,none⟩) (k.block b hb)).trans h1,h2.below k,h3⟩
noncomputable def oddB (n:Nat) (L:List Loc):EBS [] where
 val p:= .slice (some ⟨p.1,0,none⟩) (dec p.2).1 (dec p.2).2
 R p u:=LocsAt u (some ⟨p.1,0,none⟩) (dec p.2).1 L/\(dec p.2).1<=n
 st _ _ _ h k:=⟨h.1.upd k (fun _ _ _=>aS),h.2⟩
theorem oddB_val {n:Nat} {L:List Loc} {p:Nat×Nat}:(oddB n L).val p = .slice (some ⟨p.1,0,none⟩) (dec p.2).1 (dec p.2).2:=rfl
theorem oddB_R {n:Nat} {L:List Loc} {p:Nat×Nat} {u:World}:(oddB n L).R p u=(LocsAt u (some ⟨p.1,0,none⟩) (dec p.2).1 L/\(dec p.2).1<=n):=rfl
set_option maxRecDepth 100000 in
set_option maxHeartbeats 4000000 in
theorem law20_all {w:World} {A:Option Addr} {n:Nat} {l:List Int} (cap:Nat) {q00 q01 q02 q10 q11 q12:Int} (hl:SliceI w A n l) (hI0:I64 q02) (hI1:I64 q12) :
 Calls Tryz.prog 17 #[.agg #[.slice A n cap,.int .i64 q00,.int .i64 q01,.int .i64 q02,.int .i64 q10,.int .i64 q11,.int .i64 q12]] w fun e w'=>(∃ b,e = .returned (.slice (some ⟨b,0,none⟩) 4 4)/\w.heap.size<=b/\b<w'.heap.size/\AllL w' b)/\Below w.heap.size w w':=by
 have HI0:=Zh hI0;have HI1:=Zh hI1;have HS:=Zh hl;clear hI0 hI1 hl;obtain ⟨P,hP⟩:=Zx (madeL l);have HP:=Zh hP;clear hP;go_enter Tryz.func17,Tryz.ntmps17;go_upto_region 1 with fail
 have o1:Own (w.alloc (.cells #[.slice A n cap,.int .i64 q00,.int .i64 q01,.int .i64 q02,.int .i64 q10,.int .i64 q11,.int .i64 q12] 26)) w.heap.size #[.slice A n cap,.int .i64 q00,.int .i64 q01,.int .i64 q02,.int .i64 q10,.int .i64 q11,.int .i64 q12]:=Own.new rfl;have hw:Below w.heap.size w (w.alloc (.cells #[.slice A n cap,.int .i64 q00,.int .i64 q01,.int .i64 q02,.int .i64 q10,.int .i64 q11,.int .i64 q12] 26)):=(Zb _ _).alloc (Zr _) _;generalize (w.alloc (.cells #[.slice A n cap,.int .i64 q00,.int .i64 q01,.int .i64 q02,.int .i64 q10,.int .i64 q11,.int .i64 q12] 26))=W1 at *;have o1c:=o1.cell;have o1f:=o1.thaw;go_wp2_with fail;refine Zd (ref20_Made A n cap l _ (HS.out.below hw)) ?_;rintro e w2 ⟨⟨g,c,rfl,hgc,hcm,hPA,hg1,hg2⟩,hbx⟩;rw [HP.out] at hPA;have HPA:=Zh hPA;clear hPA HS HP;replace o1:=o1.below hbx;replace o1c:=o1.cell;replace o1f:=o1.thaw;replace hw:=Below.hop hw hbx;clear hbx;go_wp2_with fail;refine Zd (ref20_Odd (L:=P) (q0:=q00) (q1:=q01) (q2:=q02) c HPA.out aO aO HI0.out) ?_;rintro e w3 ⟨⟨n2,g2,c2,rfl,hc1,hc2,hP2,hn1,hn2,hg3,hg4⟩,hbx⟩;obtain ⟨P2,hP2e⟩:=Zx (oddL P q00 q01 q02);rw [hP2e] at hP2;have HP2:=Zh hP2;clear hP2 hP2e;replace HPA:=Zh (HPA.out.below hbx);replace o1:=o1.below hbx;replace o1c:=o1.cell;replace o1f:=o1.thaw;replace hw:=Below.hop hw hbx;clear hbx;obtain ⟨P3,hP3⟩:=Zx (oddL P2 q10 q11 q12);have HP3:=Zh hP3;clear hP3;obtain ⟨k,hk,hk6⟩:∃ k:Nat,q02%6=(k:Int)/\k<6:=⟨(q02%6).toNat,aO,aO⟩;have HK:=Zh (congrArg (Value.int IntKind.i64) hk);clear hk;have hkI:(k:Int)<=6:=aO
 have hkc:(k:Int)<=(c:Int):=aO
 go_upto_region 3 with fail
 refine region_gen (T:=[]) [.make 6 [] (oddB 8 P3)] 14 0 60 (fun _ _=>True) (fun _ _ _ _ _=>trivial) trivial aK aK (by rfl) ?_;unfold genWalk;apply Zs;apply Zi
 ·apply Piece.mk
  ·intro f v hv hr hne;simp only [List.take_succ_cons,List.take_zero,List.drop_succ_cons,List.drop_zero,Nat.reduceSub,Nat.reduceAdd];have d1:=fun y=>(o1.later (v:=v) (T:=[]) aS y).cell
   repeat (go_big_quiet_step ((go_at_call 59; exact lateS (callv (ref1_Mod q02 6 aO aO _) HK.out))))
   refine wpQuiet_nil ?_;exact rfl
  ·intro f; kernel_rfl
  ·intro f f' hf; kernel_rfl
 simp only [List.take_succ_cons,List.take_zero,List.drop_succ_cons,List.drop_zero,Nat.reduceSub,Nat.reduceAdd,oneOp];refine ⟨fun f=>⟨rfl,fun u hu _=>?_⟩,?_⟩
 ·refine make_call (f:=76) (args:=#[.slice (some ⟨g2,0,none⟩) n2 c2,.agg #[.int .i64 q10,.int .i64 q11,.int .i64 q12]]) (by (try simp only [LN]); (try simp only [newB_val,numB_val,ownB_val,oddB_val]); go_simp) ?_;refine (ref20_Odd (w:=u) (L:=P2) (q0:=q10) (q1:=q11) (q2:=q12) c2 (HP2.out.keeps hu) aO aO HI1.out).mono ?_;rintro e wx ⟨⟨n3,g3,c3,rfl,r1,r2,r3,r4,r5,r6,r7⟩,hbx⟩;rw [HP3.out] at r3;exact ⟨(g3,code n3 c3),by rw [oddB_val,dec_code],r6,r7,hbx,by rw [oddB_R,dec_code]; exact ⟨r3,by show n3<=8; omega⟩⟩
 unfold genWalk;apply Zs;apply Zi
 ·apply Piece.mk
  ·intro f v hv hr hne;simp only [List.take_succ_cons,List.take_zero,List.drop_succ_cons,List.drop_zero,Nat.reduceSub,Nat.reduceAdd]
   (try simp only [LN])
   (try simp only [newB_val,numB_val,ownB_val,oddB_val])
   have d1:=fun y=>(o1.later (v:=v) (T:=[]) aS y).cell
   repeat (go_big_quiet_step ((go_at_call 59; exact lateS (callv (ref1_Mod q02 6 aO aO _) HK.out))))
   refine wpQuiet_nil ?_;exact rfl
  ·intro f; kernel_rfl
  ·intro f f' hf; simp
 intro f u hup hph hmade hdist;obtain ⟨hR,hlo,hhi⟩:=hmade 6 aO rfl;clear hmade hdist hph;simp only [List.take_succ_cons,List.take_zero,List.drop_succ_cons,List.drop_zero,Nat.reduceSub,Nat.reduceAdd]
 (try simp only [LN])
 (try simp only [newB_val,numB_val,ownB_val,oddB_val])
 replace hR:LocsAt u (some ⟨(f 6).1,0,none⟩) (dec (f 6).2).1 P3/\(dec (f 6).2).1<=8:=hR;have hbu:Below w3.heap.size w3 u:=Upd.below (Zb _ _) hup (fun b hb=>by cases hb);have HR:=Zh hR;have hb0:=hbu;replace HPA:=Zh (HPA.out.below hbu);replace HP2:=Zh (HP2.out.below hbu);replace hw:=hw.trans (hbu.mono hw.size);clear hR hup hbu o1 o1c o1f;generalize (f 6).1=g3 at *;generalize (dec (f 6).2).1=n3 at *;generalize (dec (f 6).2).2=c3 at *;clear f;have hal:Below u.heap.size u (u.alloc (.cells #[.slice (some ⟨g,0,none⟩) 6 c,.slice (some ⟨g2,0,none⟩) n2 c2,.slice (some ⟨g3,0,none⟩) n3 c3,.slice (some ⟨g,0,none⟩) k c] 27)):=(Zb _ _).alloc (Zr _) _;refine effc_mem (by rfl) (fun K hK=>?_);go_simp;refine hK _ _ (Keeps.of_below (hb0.trans (hal.mono hb0.size))) (fun u2 hu2=>?_);clear hK K;refine effc_mem (by rfl) (fun K hK=>?_);go_simp;refine hK _ _ ((Keeps.of_below (hb0.trans (hal.mono hb0.size))).later hu2) (fun u3 hu3=>?_);clear hK K;refine effc_nil ?_
 (try simp only [LN])
 have hw0:=hw.size;have o4:Own u3 u.heap.size #[.slice (some ⟨g,0,none⟩) 6 c,.slice (some ⟨g2,0,none⟩) n2 c2,.slice (some ⟨g3,0,none⟩) n3 c3,.slice (some ⟨g,0,none⟩) k c]:=Own.below (Own.below (Own.new rfl) hu2) hu3;have hb4:Below u.heap.size u u3:=Below.hop (Below.hop hal hu2) hu3;have hw4:=hw.trans (hb4.mono hw.size);have HA:AllL u3 u.heap.size:=fun i hi=>by
  rcases (show i=0\/i=1\/i=2\/i=3 by omega) with rfl | rfl | rfl | rfl
  ·exact ⟨_,_,_,_,o4.cell 0,HPA.out.below hb4,aO⟩
  ·exact ⟨_,_,_,_,o4.cell 1,HP2.out.below hb4,aO⟩
  ·exact ⟨_,_,_,_,o4.cell 2,HR.out.1.below hb4,by have:=HR.out.2; omega⟩
  ·exact ⟨_,_,_,_,o4.cell 3,(HPA.out.take (k:=k) aO).below hb4,aO⟩
 have HAA:=Zh HA;have ho4:=o4.lt;clear hu2 hu3 hb4 hb0 hal HPA HP2 HR HA o4;go_wp2;go_ret;exact ⟨⟨_,rfl,hw0,ho4,HAA.out⟩,hw4⟩
set_option maxRecDepth 100000 in
set_option maxHeartbeats 4000000 in
theorem law20_row {px py pz nx ny nz lo hi':Int} (w:World) :
 Calls Tryz.prog 48 #[.agg #[.int .i64 px,.int .i64 py,.int .i64 pz,.int .i64 nx,.int .i64 ny,.int .i64 nz,.int .i64 lo,.int .i64 hi']] w fun e w'=>(∃ b,e = .returned (.slice (some ⟨b,0,none⟩) 6 6)/\w.heap.size<=b/\b<w'.heap.size/\Own w' b (cellsI (locR ⟨⟨px,py,pz⟩,⟨nx,ny,nz⟩,lo,hi'⟩)))/\Below w.heap.size w w':=by
 obtain ⟨cv,hcv⟩:=Zx (vCross ⟨px,py,pz⟩ ⟨nx,ny,nz⟩);obtain ⟨cx,cy,cz⟩:=cv;have HC:=Zh hcv;have HCV:=Zh (congrArg V3.v hcv);clear hcv;have hA:Below w.heap.size w (w.alloc (.cells #[.int .i64 px,.int .i64 py,.int .i64 pz,.int .i64 nx,.int .i64 ny,.int .i64 nz,.int .i64 lo,.int .i64 hi'] 69)):=(Zb _ _).alloc (Zr _) _;have o1:Own (w.alloc (.cells #[.int .i64 px,.int .i64 py,.int .i64 pz,.int .i64 nx,.int .i64 ny,.int .i64 nz,.int .i64 lo,.int .i64 hi'] 69)) w.heap.size #[.int .i64 px,.int .i64 py,.int .i64 pz,.int .i64 nx,.int .i64 ny,.int .i64 nz,.int .i64 lo,.int .i64 hi']:=Own.new rfl;have hz:=hA.size;go_enter Tryz.func48,Tryz.ntmps48;go_wp2_with fail;generalize (w.alloc (.cells #[.int .i64 px,.int .i64 py,.int .i64 pz,.int .i64 nx,.int .i64 ny,.int .i64 nz,.int .i64 lo,.int .i64 hi'] 69))=W1 at *;refine Zd (callv (plane_Cross px py pz nx ny nz _) (congrArg (fun v=>v) HCV.out)) ?_;rintro e w2 ⟨rfl,hbx⟩;replace o1:=o1.below hbx;have o1c:=o1.cell;have o1f:=o1.thaw;have hw2:=Below.hop hA hbx;have hz2:=hw2.size;clear hbx hA;go_upto_region 2 with fail
 have hA3:Below w2.heap.size w2 (w2.alloc (.cells #[.int .i64 cx,.int .i64 cy,.int .i64 cz] 44)):=(Zb _ _).alloc (Zr _) _;have o3:Own (w2.alloc (.cells #[.int .i64 cx,.int .i64 cy,.int .i64 cz] 44)) w2.heap.size #[.int .i64 cx,.int .i64 cy,.int .i64 cz]:=Own.new rfl;replace o1:=o1.below hA3;have hw3:=hw2.trans (hA3.mono hw2.size);generalize (w2.alloc (.cells #[.int .i64 cx,.int .i64 cy,.int .i64 cz] 44))=W3 at *;have o3c:=o3.cell;have o3f:=o3.thaw;replace o1c:=o1.cell;replace o1f:=o1.thaw;clear hA3;go_wp2;have hz3:=hw3.size;have hlr:cellsI (locR ⟨⟨px,py,pz⟩,⟨nx,ny,nz⟩,lo,hi'⟩)=#[.int .i64 nx,.int .i64 ny,.int .i64 nz,.int .i64 cx,.int .i64 cy,.int .i64 cz]:=by
  unfold locR;rw [HC.out];rfl
 go_ret;exact ⟨⟨_,rfl,hz3,aS,by rw [hlr]; exact Own.new rfl⟩,hw3.alloc hz3 _⟩
end Go.Proofs.YtflolbnnkbdmfaaGreat
