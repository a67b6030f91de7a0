/- Matrix: what Kernel needs: lists of cells of ratios, the vector before it is made whole. -/
import Derived.Test.YtflgngjocgiojaaGreatRefG
import Derived.Test.YtflgngjocgiojaaGreatMatM
namespace Go.Proofs.YtflgngjocgiojaaGreat
open Go.RowKit

/-- A maker: a number of the reference. -/
def numCB (T : List Nat) (z : Int) : EBS T where
 val p := numC z p.1 p.2
 R p u := p.1 ∉ T ∧ NumC u p.1 p.2 z
 st _ _ _ h k := ⟨h.1, h.2.upd h.1 k⟩
theorem numCB_val {T : List Nat} {z : Int} {p : Nat × Nat} : (numCB T z).val p = numC z p.1 p.2 := rfl
def ratC (p q : Int) (b1 C1 b2 C2 : Nat) : Value := .agg #[.bool (sgnN p), slC p b1 C1, .bool (sgnN q), slC q b2 C2]
theorem NumC.at2 {w : World} {b C : Nat} {z : Int} (h : NumC w b C z) (hf : fits z = true) {A : Option Addr} {n c : Nat} (e : slC z b C = .slice A n c) : NumAt w (.agg #[.bool (sgnN z), .slice A n c]) z := by
 have := h.at_ hf
 rw [numC, e] at this
 exact this
theorem ref_cmp0 {w : World} {v1 : Value} {z1 o : Int} (ho : ordI z1 0 = o) (h1 : NumAt w v1 z1) : Calls Tryz.prog 42 #[v1, zeroN] w fun r w' => r = .returned (.int .i64 o) ∧ Below w.heap.size w w' := by
 have q := ref1_Cmp h1 (num_zero w)
 rw [ho] at q
 exact q
set_option maxRecDepth 100000 in
set_option maxHeartbeats 4000000 in
theorem ref3_Of {w : World} {v1 v2 : Value} {z1 z2 : Int} (h1 : NumAt w v1 z1) (h2 : NumAt w v2 z2) (e1 : easyD z1.natAbs) (e2 : easyD z2.natAbs) (h0 : 0 < z2) :
  Calls Tryz.prog 44 #[v1, v2] w fun r w' => (∃ b1 C1 b2 C2, r = .returned (.tuple #[ratC (ofN z1 z2) (ofD z1 z2) b1 C1 b2 C2, .bool true]) ∧ NumC w' b1 C1 (ofN z1 z2) ∧ NumC w' b2 C2 (ofD z1 z2) ∧ w.heap.size ≤ b1 ∧ b1 < w'.heap.size ∧ w.heap.size ≤ b2 ∧ b2 < w'.heap.size) ∧ Below w.heap.size w w' := by
 obtain ⟨z, hz⟩ : ∃ z, ofN z1 z2 = z := ⟨_, rfl⟩
 obtain ⟨y, hy⟩ : ∃ z, ofD z1 z2 = z := ⟨_, rfl⟩
 rw [hz, hy]
 have HY := Lib.hid (And.intro h0 (And.intro hz (And.intro hy (And.intro e1 e2))))
 clear hz hy e1 e2 h0
 have G1 := Lib.hid h1
 have G2 := Lib.hid h2
 obtain ⟨A1, n1, c1, rfl, hc1, hm1, hl1, d1⟩ := h1
 obtain ⟨A2, n2, c2, rfl, hc2, hm2, hl2, d2⟩ := h2
 generalize decide (z1 < 0) = s1 at *
 generalize decide (z2 < 0) = s2 at *
 clear d1 d2
 have hW := ((((Below.refl w.heap.size w).alloc (Nat.le_refl _) (.cells #[.bool s1, .slice A1 n1 c1] 35)).alloc (by simp) (.cells #[.bool s2, .slice A2 n2 c2] 35)).alloc (by simp; omega) (.cells #[.bool false, .slice none 0 0, .bool false, .slice none 0 0] 37))
 have o2 : Own (((w.alloc (.cells #[.bool s1, .slice A1 n1 c1] 35)).alloc (.cells #[.bool s2, .slice A2 n2 c2] 35)).alloc (.cells #[.bool false, .slice none 0 0, .bool false, .slice none 0 0] 37)) w.heap.size #[.bool s1, .slice A1 n1 c1] := (by repeat' (first | ((refine Own.new ?_); (focus (first | rfl | omega | (simp; done) | (simp; omega)))) | assumption | refine Own.alloc ?_ _ | refine Own.drew ?_ | (refine Own.far ?_ ?_ _; rotate_left; (focus (first | rfl | omega | (simp; done) | (simp; omega))))))
 have o3 : Own (((w.alloc (.cells #[.bool s1, .slice A1 n1 c1] 35)).alloc (.cells #[.bool s2, .slice A2 n2 c2] 35)).alloc (.cells #[.bool false, .slice none 0 0, .bool false, .slice none 0 0] 37)) (w.heap.size + 1) #[.bool s2, .slice A2 n2 c2] := (by repeat' (first | ((refine Own.new ?_); (focus (first | rfl | omega | (simp; done) | (simp; omega)))) | assumption | refine Own.alloc ?_ _ | refine Own.drew ?_ | (refine Own.far ?_ ?_ _; rotate_left; (focus (first | rfl | omega | (simp; done) | (simp; omega))))))
 have o4 : Own (((w.alloc (.cells #[.bool s1, .slice A1 n1 c1] 35)).alloc (.cells #[.bool s2, .slice A2 n2 c2] 35)).alloc (.cells #[.bool false, .slice none 0 0, .bool false, .slice none 0 0] 37)) (w.heap.size + 1 + 1) #[.bool false, .slice none 0 0, .bool false, .slice none 0 0] := (by repeat' (first | ((refine Own.new ?_); (focus (first | rfl | omega | (simp; done) | (simp; omega)))) | assumption | refine Own.alloc ?_ _ | refine Own.drew ?_ | (refine Own.far ?_ ?_ _; rotate_left; (focus (first | rfl | omega | (simp; done) | (simp; omega))))))
 go_enter Tryz.func44, Tryz.ntmps44
 go_wp2
 generalize (((w.alloc (.cells #[.bool s1, .slice A1 n1 c1] 35)).alloc (.cells #[.bool s2, .slice A2 n2 c2] 35)).alloc (.cells #[.bool false, .slice none 0 0, .bool false, .slice none 0 0] 37)) = W0 at *
 have K1 := Lib.hid (G1.out.below hW)
 have K2 := Lib.hid (G2.out.below hW)
 have hzW := hW.size
 refine region_late 14 [] (by kernel_rfl) (by kernel_rfl) (by rfl) ?_
 apply Exists.intro
 refine ⟨fun v hv hne => ?_, fun u hu => ?_⟩
 ·simp only [List.take_succ_cons, List.take_zero]
  have d2 := fun y => (o2.later (v := v) (T := []) (by simp) y).cell
  have d3 := fun y => (o3.later (v := v) (T := []) (by simp) y).cell
  have L1 := fun x : Later [] W0 v => NumAt.keeps K1.out x.h
  have L2 := fun x : Later [] W0 v => NumAt.keeps K2.out x.h
  repeat (go_big_quiet_step ((first | (go_at_call 88; with_reducible exact lateB (ref_right (L1 _))) | (go_at_call 88; with_reducible exact lateB (ref_right (L2 _))) | (go_at_call 43; with_reducible exact lateB whole_zero) | (go_at_call 42; with_reducible exact lateB (ref_cmp0 (ordI_gt HY.out.1) (L2 _))))))
  refine wpQuiet_nil ?_
  exact rfl
 simp only [List.drop_succ_cons, List.drop_zero]
 refine late_nil ?_
 (try simp only [Act.put, List.setIfInBounds_toArray, List.set_cons_zero, List.set_cons_succ])
 have hW1 := hW.trans (hu.mono hzW)
 have p2 := o2.below hu
 have p3 := o3.below hu
 have p4 := o4.below hu
 have M1 := Lib.hid (G1.out.below hW1)
 have M2 := Lib.hid (G2.out.below hW1)
 have p2c := p2.cell
 have p3c := p3.cell
 clear o2 o3 o4 hW hzW hu K1 K2
 go_wp2_with fail
 obtain ⟨g, hg⟩ : ∃ g : Nat, Nat.gcd z1.natAbs z2.natAbs = g := ⟨_, rfl⟩
 have hgz : g ≤ z2.natAbs := by rw [← hg]; exact Nat.le_of_dvd (by have := HY.out.1; omega) (Nat.gcd_dvd_right _ _)
 have hg0 : 0 < (g : Int) := by
  have : 0 < Nat.gcd z1.natAbs z2.natAbs := Nat.gcd_pos_of_pos_right _ (by have := HY.out.1; omega)
  omega
 have hge : easyD g := by have := HY.out.2.2.2.2; unfold easyD at this ⊢; omega
 have hgf : fits (g : Int) = true := fits_small (by unfold easyD at hge; omega)
 have HD : Hid (z1 / (g : Int) = z ∧ z2 / (g : Int) = y ∧ (g : Int) ∣ z1 ∧ (g : Int) ∣ z2) := Lib.hid (by
  have e1 := HY.out.2.1
  have e2 := HY.out.2.2.1
  have h0 := HY.out.1
  unfold ofN at e1
  unfold ofD at e2
  rw [if_neg (by omega), hg] at e1 e2
  exact ⟨e1, e2, Int.ofNat_dvd_left.2 (by rw [← hg]; exact Nat.gcd_dvd_left _ _), Int.ofNat_dvd_left.2 (by rw [← hg]; exact Nat.gcd_dvd_right _ _)⟩)
 have q := ref1_Gcd M1.out M2.out HY.out.2.2.2.1 HY.out.2.2.2.2
 rw [hg] at q
 unfold RetM at q
 rw [hgf] at q
 have HGF := Lib.hid (And.intro hg0 (And.intro hge hgf))
 clear hg hgf hg0 hge hgz
 refine Calls.mono q ?_
 clear q
 rintro e u1 ⟨⟨b, C, rfl, h3, h1, h2⟩, hb⟩
 obtain ⟨A9, n9, c9, hsl⟩ := slC_form (g : Int) b C
 simp only [numC]
 rw [hsl]
 have hk := (Below.refl u1.heap.size u1).alloc (Nat.le_refl _) (.cells #[.bool (sgnN g), .slice A9 n9 c9] 35)
 have r6 : Own (u1.alloc (.cells #[.bool (sgnN g), .slice A9 n9 c9] 35)) u1.heap.size #[.bool (sgnN g), .slice A9 n9 c9] := Own.new rfl
 have hbk := hb.trans (hk.mono hb.size)
 have hw1 := hW1.trans (hbk.mono hW1.size)
 have N1 := Lib.hid ((NumC.at2 h3 HGF.out.2.2 hsl).below hk)
 have K1 := Lib.hid (NumAt.below M1.out hbk)
 have K2 := Lib.hid (NumAt.below M2.out hbk)
 replace p2 := p2.below hbk
 replace p3 := p3.below hbk
 replace p4 := p4.below hbk
 clear h1 h2 h3 hb hk hsl hbk M1 M2 p2c p3c hW1
 go_wp2
 generalize (u1.alloc (.cells #[.bool (sgnN (g : Int)), .slice A9 n9 c9] 35)) = u2 at *
 have hz1 := hw1.size
 have p4z := p4.lt
 refine region_gen (T := []) [.make 2 [] (numCB [] z), .make 5 [] (numCB [] y), .need 6 [2, 5], .make 7 [] (ownB [] #[.bool false, .slice none 0 0, .bool false, .slice none 0 0] (fun p => .pointer (some ⟨p, 0, none⟩)))] 8 0 40 (fun _ _ => True) (fun _ _ _ _ _ => trivial) trivial (by kernel_rfl) (by kernel_rfl) (by rfl) ?_
 unfold genWalk
 apply Exists.intro
 apply And.intro
 ·apply Piece.mk
  ·intro f v hv hr hne
   simp only [List.take_succ_cons, List.take_zero, List.drop_zero, Nat.reduceSub]
   have d2 := fun y => (p2.later (v := v) (T := []) (by simp) y).cell
   have d3 := fun y => (p3.later (v := v) (T := []) (by simp) y).cell
   have d6 := fun y => (r6.later (v := v) (T := []) (by simp) y).cell
   repeat (go_big_quiet_step (fail))
   refine wpQuiet_nil ?_
   exact rfl
  ·intro f; kernel_rfl
  ·intro f f' hf; kernel_rfl
 simp only [List.take_succ_cons, List.take_zero, List.drop_succ_cons, List.drop_zero, Nat.reduceAdd, oneOp]
 refine ⟨fun f => ⟨rfl, fun u hu _ => ?_⟩, ?_⟩
 ·refine make_call (f := 91) (args := #[.agg #[.bool s1, .slice A1 n1 c1], .agg #[.bool (sgnN (g : Int)), .slice A9 n9 c9]]) (by (try simp only [Act.put, List.setIfInBounds_toArray, List.set_cons_zero, List.set_cons_succ]); (try simp only [newB_val, numB_val, ownB_val, numCB_val]); go_simp) ?_
  have q := ref3_over (w := u) (NumAt.keeps K1.out hu) (NumAt.keeps N1.out hu) HY.out.2.2.2.1 HGF.out.2.1 HGF.out.1 HD.out.2.2.1
  rw [HD.out.1] at q
  refine q.mono ?_
  rintro e wx ⟨⟨b, C, rfl, q1, q2, q3⟩, hbx⟩
  exact ⟨(b, C), rfl, q2, q3, hbx, by simp, q1⟩
 unfold genWalk
 apply Exists.intro
 apply And.intro
 ·apply Piece.mk
  ·intro f v hv hr hne
   simp only [List.take_succ_cons, List.take_zero, List.drop_succ_cons, List.drop_zero, Nat.reduceSub]
   (try simp only [Act.put, List.setIfInBounds_toArray, List.set_cons_zero, List.set_cons_succ])
   (try simp only [numCB_val])
   have d2 := fun y => (p2.later (v := v) (T := []) (by simp) y).cell
   have d3 := fun y => (p3.later (v := v) (T := []) (by simp) y).cell
   have d6 := fun y => (r6.later (v := v) (T := []) (by simp) y).cell
   repeat (go_big_quiet_step (fail))
   refine wpQuiet_nil ?_
   exact rfl
  ·intro f; kernel_rfl
  ·intro f f' hf; simp
 simp only [List.take_succ_cons, List.take_zero, List.drop_succ_cons, List.drop_zero, Nat.reduceAdd, oneOp]
 refine ⟨fun f => ⟨rfl, fun u hu _ => ?_⟩, ?_⟩
 ·refine make_call (f := 91) (args := #[.agg #[.bool s2, .slice A2 n2 c2], .agg #[.bool (sgnN (g : Int)), .slice A9 n9 c9]]) (by (try simp only [Act.put, List.setIfInBounds_toArray, List.set_cons_zero, List.set_cons_succ]); (try simp only [newB_val, numB_val, ownB_val, numCB_val]); go_simp) ?_
  have q := ref3_over (w := u) (NumAt.keeps K2.out hu) (NumAt.keeps N1.out hu) HY.out.2.2.2.2 HGF.out.2.1 HGF.out.1 HD.out.2.2.2
  rw [HD.out.2.1] at q
  refine q.mono ?_
  rintro e wx ⟨⟨b, C, rfl, q1, q2, q3⟩, hbx⟩
  exact ⟨(b, C), rfl, q2, q3, hbx, by simp, q1⟩
 unfold genWalk
 apply Exists.intro
 apply And.intro
 ·apply Piece.mk
  ·intro f v hv hr hne
   simp only [List.take_zero, List.drop_succ_cons, List.drop_zero, Nat.reduceSub]
   (try simp only [Act.put, List.setIfInBounds_toArray, List.set_cons_zero, List.set_cons_succ])
   (try simp only [numCB_val])
   repeat (go_big_quiet_step (fail))
   refine wpQuiet_nil ?_
   exact rfl
  ·intro f; kernel_rfl
  ·intro f f' hf; simp
 unfold genWalk
 apply Exists.intro
 apply And.intro
 ·apply Piece.mk
  ·intro f v hv hr hne
   simp only [List.take_succ_cons, List.take_zero, List.drop_succ_cons, List.drop_zero, Nat.reduceSub]
   (try simp only [Act.put, List.setIfInBounds_toArray, List.set_cons_zero, List.set_cons_succ])
   (try simp only [numC])
   repeat (go_big_quiet_step (fail))
   refine wpQuiet_nil ?_
   exact rfl
  ·intro f; kernel_rfl
  ·intro f f' hf; first | (simp; done) | (simp [hf 2 (by simp), hf 5 (by simp)])
 simp only [List.take_succ_cons, List.take_zero, List.drop_succ_cons, List.drop_zero, Nat.reduceAdd, oneOp]
 refine ⟨fun f => ⟨rfl, fun u hu _ => ?_⟩, ?_⟩
 ·refine make_own (e := 37) (by (try simp only [Act.put, List.setIfInBounds_toArray, List.set_cons_zero, List.set_cons_succ]); (try simp only [newB_val, numB_val, ownB_val, numCB_val]); go_simp) (by simp)
 unfold genWalk
 apply Exists.intro
 apply And.intro
 ·apply Piece.mk
  ·intro f v hv hr hne
   simp only [List.take_zero, List.drop_succ_cons, List.drop_zero, Nat.reduceSub]
   (try simp only [Act.put, List.setIfInBounds_toArray, List.set_cons_zero, List.set_cons_succ])
   (try simp only [ownB_val])
   repeat (go_big_quiet_step (fail))
   refine wpQuiet_nil ?_
   exact rfl
  ·intro f; kernel_rfl
  ·intro f f' hf; simp
 intro f u' hup hph hmade hdist
 obtain ⟨⟨_, oN⟩, loN, hiN⟩ := hmade 2 (by omega) rfl
 obtain ⟨⟨_, oM⟩, loM, hiM⟩ := hmade 5 (by omega) rfl
 obtain ⟨⟨_, o3⟩, lo3, hi3⟩ := hmade 7 (by omega) rfl
 have hne1 := hdist 2 7 (by omega) (by omega) rfl rfl (by omega)
 have hne2 := hdist 5 7 (by omega) (by omega) rfl rfl (by omega)
 replace oN : NumC u' (f 2).1 (f 2).2 z := oN
 replace oM : NumC u' (f 5).1 (f 5).2 y := oM
 replace o3 : Own u' (f 7).1 #[.bool false, .slice none 0 0, .bool false, .slice none 0 0] := o3
 clear hmade hdist hph
 simp only
 (try simp only [Act.put, List.setIfInBounds_toArray, List.set_cons_zero, List.set_cons_succ])
 (try simp only [newB_val, numB_val, ownB_val, numCB_val, numC])
 generalize (f 2).1 = b1 at *
 generalize (f 2).2 = C1 at *
 generalize (f 5).1 = b2 at *
 generalize (f 5).2 = C2 at *
 generalize (f 7).1 = b3 at *
 clear f
 have hwU : Below w.heap.size w u' := Upd.below hw1 hup (by simp)
 have q4 := p4.upd hup (by simp)
 have q3 := p3.upd hup (by simp)
 have hkT := Upd.keeps (Keeps.refl _ _) hup
 obtain ⟨A7, n7, c7, hs7⟩ := slC_form z b1 C1
 obtain ⟨A8, n8, c8, hs8⟩ := slC_form y b2 C2
 rw [hs7, hs8]
 have HSL := Lib.hid (And.intro hs7 hs8)
 have o3c := o3.cell
 have o3f := o3.thaw
 have hB2 : w.heap.size + 1 + 1 < b3 := by omega
 have hB3 : w.heap.size + 1 + 1 < b1 := by omega
 have hB4 : w.heap.size + 1 + 1 < b2 := by omega
 clear hs7 hs8 p2 p3 p4 K1 r6 N1 p4z hup hw1
 refine effc_mem (by rfl) (fun K hK => ?_)
 go_simp
 refine hK _ _ ((((hkT.new (p := ⟨b3, 0, none⟩) lo3 (.bool (sgnN z))).new (p := ⟨b3, 1, none⟩) lo3 (.slice A7 n7 c7)).new (p := ⟨b3, 2, none⟩) lo3 (.bool (sgnN y))).new (p := ⟨b3, 3, none⟩) lo3 (.slice A8 n8 c8)) (fun u3 hu3 => ?_)
 clear hK K
 have hs3 := hu3.size
 simp [World.setCell] at hs3
 have hw2 := (((((hwU.setCell (p := ⟨b3, 0, none⟩) (by simp; omega) (.bool (sgnN z))).setCell (p := ⟨b3, 1, none⟩) (by simp; omega) (.slice A7 n7 c7)).setCell (p := ⟨b3, 2, none⟩) (by simp; omega) (.bool (sgnN y))).setCell (p := ⟨b3, 3, none⟩) (by simp; omega) (.slice A8 n8 c8))).trans (hu3.mono (by simp [World.setCell]; exact hwU.size))
 have k3 := (((((o3.set 0 (.bool (sgnN z))).set 1 (.slice A7 n7 c7)).set 2 (.bool (sgnN y))).set 3 (.slice A8 n8 c8))).below hu3
 have k4 := (((((q4.far (p := ⟨b3, 0, none⟩) (by simp; omega) (.bool (sgnN z))).far (p := ⟨b3, 1, none⟩) (by simp; omega) (.slice A7 n7 c7)).far (p := ⟨b3, 2, none⟩) (by simp; omega) (.bool (sgnN y))).far (p := ⟨b3, 3, none⟩) (by simp; omega) (.slice A8 n8 c8))).below hu3
 have k2 := (((((q3.far (p := ⟨b3, 0, none⟩) (by simp; omega) (.bool (sgnN z))).far (p := ⟨b3, 1, none⟩) (by simp; omega) (.slice A7 n7 c7)).far (p := ⟨b3, 2, none⟩) (by simp; omega) (.bool (sgnN y))).far (p := ⟨b3, 3, none⟩) (by simp; omega) (.slice A8 n8 c8))).below hu3
 have N1 := Lib.hid (And.intro hB3 (And.intro (Nat.lt_of_lt_of_le hiN hs3) ((((((oN.far (p := ⟨b3, 0, none⟩) (by simp; omega) (.bool (sgnN z))).far (p := ⟨b3, 1, none⟩) (by simp; omega) (.slice A7 n7 c7)).far (p := ⟨b3, 2, none⟩) (by simp; omega) (.bool (sgnN y))).far (p := ⟨b3, 3, none⟩) (by simp; omega) (.slice A8 n8 c8))).below hu3)))
 have N2 := Lib.hid (And.intro hB4 (And.intro (Nat.lt_of_lt_of_le hiM hs3) ((((((oM.far (p := ⟨b3, 0, none⟩) (by simp; omega) (.bool (sgnN z))).far (p := ⟨b3, 1, none⟩) (by simp; omega) (.slice A7 n7 c7)).far (p := ⟨b3, 2, none⟩) (by simp; omega) (.bool (sgnN y))).far (p := ⟨b3, 3, none⟩) (by simp; omega) (.slice A8 n8 c8))).below hu3)))
 have K4 := Lib.hid (NumAt.keeps K2.out (Keeps.later ((((hkT.new (p := ⟨b3, 0, none⟩) lo3 (.bool (sgnN z))).new (p := ⟨b3, 1, none⟩) lo3 (.slice A7 n7 c7)).new (p := ⟨b3, 2, none⟩) lo3 (.bool (sgnN y))).new (p := ⟨b3, 3, none⟩) lo3 (.slice A8 n8 c8)) hu3))
 clear o3 o3c o3f q4 q3 oN oM hkT hu3 hwU K2
 refine effc_nil ?_
 (try simp only [Act.put])
 go_wp2
 
 have hz2 := hw2.size
 refine region_late 4 [] (by kernel_rfl) (by kernel_rfl) (by rfl) ?_
 apply Exists.intro
 refine ⟨fun v hv hne => ?_, fun u hu => ?_⟩
 ·simp only [List.take_succ_cons, List.take_zero]
  have d3 := fun y => (k2.later (v := v) (T := []) (by simp) y).cell
  have L2 := fun x : Later [] u3 v => NumAt.keeps K4.out x.h
  repeat (go_big_quiet_step ((first | (go_at_call 43; with_reducible exact lateB whole_zero) | (go_at_call 42; with_reducible exact lateB (ref_cmp0 (ordI_gt HY.out.1) (L2 _))))))
  refine wpQuiet_nil ?_
  exact rfl
 simp only [List.drop_succ_cons, List.drop_zero]
 refine late_nil ?_
 (try simp only [Act.put, List.setIfInBounds_toArray, List.set_cons_zero, List.set_cons_succ])
 have hw3 := hw2.trans (hu.mono hz2)
 have j3 := k3.below hu
 have j4 := k4.below hu
 have J1 := Lib.hid (And.intro N1.out.1 (And.intro (Nat.lt_of_lt_of_le N1.out.2.1 hu.size) (N1.out.2.2.below hu)))
 have J2 := Lib.hid (And.intro N2.out.1 (And.intro (Nat.lt_of_lt_of_le N2.out.2.1 hu.size) (N2.out.2.2.below hu)))
 have j3c := j3.cell
 have j4c := j4.cell
 have j4f := j4.thaw
 have j4z := j4.lt
 clear k3 k4 k2 N1 N2 K4 hu hw2 hz2
 go_wp2
 have hz3 := hw3.size
 refine retC (b := w.heap.size + 1 + 1) (v := .tuple #[.agg #[(.bool (sgnN z)), (.slice A7 n7 c7), (.bool (sgnN y)), (.slice A8 n8 c8)], .bool true]) ((((j4.set 0 (.bool (sgnN z))).set 1 (.slice A7 n7 c7)).set 2 (.bool (sgnN y))).set 3 (.slice A8 n8 c8)) (fun w' hw' => by simp [results, Tryz.results44, go_sem, hw']) rfl ⟨⟨b1, C1, b2, C2, by rw [ratC, HSL.out.1, HSL.out.2], ((((J1.out.2.2.far (p := ⟨w.heap.size + 1 + 1, 0, none⟩) (by simp; omega) (.bool (sgnN z))).far (p := ⟨w.heap.size + 1 + 1, 1, none⟩) (by simp; omega) (.slice A7 n7 c7)).far (p := ⟨w.heap.size + 1 + 1, 2, none⟩) (by simp; omega) (.bool (sgnN y))).far (p := ⟨w.heap.size + 1 + 1, 3, none⟩) (by simp; omega) (.slice A8 n8 c8)), ((((J2.out.2.2.far (p := ⟨w.heap.size + 1 + 1, 0, none⟩) (by simp; omega) (.bool (sgnN z))).far (p := ⟨w.heap.size + 1 + 1, 1, none⟩) (by simp; omega) (.slice A7 n7 c7)).far (p := ⟨w.heap.size + 1 + 1, 2, none⟩) (by simp; omega) (.bool (sgnN y))).far (p := ⟨w.heap.size + 1 + 1, 3, none⟩) (by simp; omega) (.slice A8 n8 c8)), by omega, by have := J1.out.2.1; simp [World.setCell]; omega, by omega, by have := J2.out.2.1; simp [World.setCell]; omega⟩, ((((hw3.setCell (p := ⟨w.heap.size + 1 + 1, 0, none⟩) (by simp; omega) (.bool (sgnN z))).setCell (p := ⟨w.heap.size + 1 + 1, 1, none⟩) (by simp; omega) (.slice A7 n7 c7)).setCell (p := ⟨w.heap.size + 1 + 1, 2, none⟩) (by simp; omega) (.bool (sgnN y))).setCell (p := ⟨w.heap.size + 1 + 1, 3, none⟩) (by simp; omega) (.slice A8 n8 c8))⟩
end Go.Proofs.YtflgngjocgiojaaGreat
namespace Go.Proofs.YtflgngjocgiojaaGreat
open Go.RowKit

/-- How many columns lead with their own row, from the first one on. -/
def firstF (l : List (Nat × Nat)) : Nat := l.foldl (fun f x => if x.1 = x.2 ∧ x.1 = f then f + 1 else f) 0
theorem firstF_snoc (l : List (Nat × Nat)) (x : Nat × Nat) : firstF (l ++ [x]) = if x.1 = x.2 ∧ x.1 = firstF l then firstF l + 1 else firstF l := by
 unfold firstF
 rw [List.foldl_append]
 rfl
theorem foldF_le : ∀ (l : List (Nat × Nat)) (f : Nat), l.foldl (fun f x => if x.1 = x.2 ∧ x.1 = f then f + 1 else f) f ≤ f + l.length
 | [], f => Nat.le_refl _
 | x :: l, f => by
  rw [List.foldl_cons, List.length_cons]
  split
  ·have := foldF_le l (f + 1); omega
  ·have := foldF_le l f; omega
theorem firstF_le (l : List (Nat × Nat)) : firstF l ≤ l.length := by have := foldF_le l 0; unfold firstF; omega
/-- The vector before it is made whole. -/
def kernQ (x : Nat → QI) (f i : Nat) : QI := if i < f then subQ (0, 1) (x i) else if i = f then (1, 1) else (0, 1)
/-- Cells of n ratios, one after the other. -/
def RatC (X : Nat → Prop) (w : World) (xs : List Value) (n : Nat) (Q : Nat → QI) : Prop := xs.length = n * 4 ∧ ∀ i, i < n → ∃ s1 A1 n1 c1 s2 A2 n2 c2, xs[i * 4]? = some (.bool s1) ∧ xs[i * 4 + 1]? = some (.slice A1 n1 c1) ∧ xs[i * 4 + 2]? = some (.bool s2) ∧ xs[i * 4 + 3]? = some (.slice A2 n2 c2) ∧ RatX X w s1 A1 n1 c1 s2 A2 n2 c2 (Q i).1 (Q i).2
theorem RatC.move {X Y : Nat → Prop} {w w' : World} {xs : List Value} {n : Nat} {Q : Nat → QI} (h : RatC X w xs n Q) (hs : w.heap.size ≤ w'.heap.size) (hk : ∀ b, b < w.heap.size → X b → w'.heap[b]? = w.heap[b]? ∧ Y b) : RatC Y w' xs n Q :=
 ⟨h.1, fun i hi => by
  obtain ⟨s1, A1, n1, c1, s2, A2, n2, c2, e1, e2, e3, e4, hr⟩ := h.2 i hi
  exact ⟨s1, A1, n1, c1, s2, A2, n2, c2, e1, e2, e3, e4, hr.move hs hk⟩⟩
theorem RatC.snoc {X : Nat → Prop} {w : World} {xs : List Value} {n : Nat} {Q : Nat → QI} (h : RatC X w xs n Q) {s1 s2 : Bool} {A1 A2 : Option Addr} {n1 c1 n2 c2 : Nat} (hr : RatX X w s1 A1 n1 c1 s2 A2 n2 c2 (Q n).1 (Q n).2) : RatC X w (xs ++ [.bool s1, .slice A1 n1 c1, .bool s2, .slice A2 n2 c2]) (n + 1) Q :=
 ⟨by simp [h.1]; omega, fun i hi => by
  by_cases e : i = n
  ·subst e
   refine ⟨s1, A1, n1, c1, s2, A2, n2, c2, ?_, ?_, ?_, ?_, hr⟩
   ·rw [List.getElem?_append_right (by rw [h.1]; omega), h.1, show i * 4 - i * 4 = 0 by omega]; rfl
   ·rw [List.getElem?_append_right (by rw [h.1]; omega), h.1, show i * 4 + 1 - i * 4 = 1 by omega]; rfl
   ·rw [List.getElem?_append_right (by rw [h.1]; omega), h.1, show i * 4 + 2 - i * 4 = 2 by omega]; rfl
   ·rw [List.getElem?_append_right (by rw [h.1]; omega), h.1, show i * 4 + 3 - i * 4 = 3 by omega]; rfl
  ·obtain ⟨t1, B1, m1, d1, t2, B2, m2, d2, e1, e2, e3, e4, hr⟩ := h.2 i (by omega)
   refine ⟨t1, B1, m1, d1, t2, B2, m2, d2, ?_, ?_, ?_, ?_, hr⟩
   ·rw [List.getElem?_append_left (by rw [h.1]; omega)]; exact e1
   ·rw [List.getElem?_append_left (by rw [h.1]; omega)]; exact e2
   ·rw [List.getElem?_append_left (by rw [h.1]; omega)]; exact e3
   ·rw [List.getElem?_append_left (by rw [h.1]; omega)]; exact e4⟩
theorem RatsO.owns {W : World} {b : Nat} {x : Nat → QI} {n base : Nat} (h : RatsO W b x 0 n) (hb : base ≤ b) (hn : n ≤ 1000) : ∃ xs, W.ownsRow base 37 4 (.slice (some ⟨b, 0, none⟩) n n) n xs ∧ RatC (fun y => y ≠ b) W xs n x := by
 obtain ⟨cs, ho, hz, hc⟩ := h
 refine ⟨cs.toList, ⟨by simp [hz], .inr ⟨b, n, cs, rfl, hb, ho, Nat.le_refl _, by unfold maxLen; omega, hz, List.take_of_length_le (by simp [hz])⟩⟩, by simp [hz], fun i hi => ?_⟩
 obtain ⟨s1, A1, n1, c1, s2, A2, n2, c2, e1, e2, e3, e4, hr⟩ := hc i (by omega) hi
 exact ⟨s1, A1, n1, c1, s2, A2, n2, c2, by rw [Array.getElem?_toList]; exact e1, by rw [Array.getElem?_toList]; exact e2, by rw [Array.getElem?_toList]; exact e3, by rw [Array.getElem?_toList]; exact e4, hr⟩
theorem ratsA_of {X : Nat → Prop} {W : World} {base : Nat} {e : TypeId} {v : Value} {n : Nat} {xs : List Value} {Q : Nat → QI} (h : W.ownsRow base e 4 v n xs) (hr : RatC X W xs n Q) : ∃ A c, v = .slice A n c ∧ RatsA W A n Q := by
 rcases h.2 with ⟨rfl, h0⟩ | ⟨g, cap, cur, rfl, h1, h2, h3, h4, h5, h6⟩
 ·subst h0
  exact ⟨none, 0, rfl, fun h => by omega⟩
 ·refine ⟨_, cap, rfl, fun h0 => ⟨g, 0, rfl, ?_, fun i hi => ?_⟩⟩
  ·rcases Nat.lt_or_ge g W.heap.size with hl | hl
   ·exact hl
   ·rw [Array.getElem?_eq_none hl] at h2; cases h2
  ·obtain ⟨s1, A1, n1, c1, s2, A2, n2, c2, e1, e2, e3, e4, hr⟩ := hr.2 i hi
   have key : ∀ j x, xs[j]? = some x → W.cell? ⟨g, j, none⟩ = some x := fun j x hx => by
    rw [cell_of_row W g j cur e (0, 0) h2]
    rw [← h6, List.getElem?_take] at hx
    split at hx
    ·rw [← Array.getElem?_toList]; exact hx
    ·cases hx
   refine ⟨s1, A1, n1, c1, s2, A2, n2, c2, ?_, ?_, ?_, ?_, hr.2.2.1, hr.2.2.2⟩
   ·rw [Nat.zero_add]; exact key _ _ e1
   ·rw [Nat.zero_add]; exact key _ _ e2
   ·rw [Nat.zero_add]; exact key _ _ e3
   ·rw [Nat.zero_add]; exact key _ _ e4
/-- A maker: a ratio alone. -/
def ratVB (T : List Nat) (B : Nat) (z y : Int) : EBS T where
 val p := ratV z y p.1 p.2
 R p u := p.1 ∉ T ∧ p.2 ∉ T ∧ NumO u p.1 z ∧ NumO u p.2 y ∧ B ≤ p.2 ∧ p.2 < u.heap.size
 st _ _ _ h k := ⟨h.1, h.2.1, fun h1 h2 => (h.2.2.1 h1 h2).upd k h.1, fun h1 h2 => (h.2.2.2.1 h1 h2).upd k h.2.1, h.2.2.2.2.1, Nat.lt_of_lt_of_le h.2.2.2.2.2 k.size⟩
theorem ratVB_val {T : List Nat} {B : Nat} {z y : Int} {p : Nat × Nat} : (ratVB T B z y).val p = ratV z y p.1 p.2 := rfl
/-- What the walk of Kernel asks of the elimination. -/
def FineK (M : List (List Int)) (x : Nat → QI) (f : Nat) : Prop :=
 matCheck M = 0 → FineL (sysL M [] M.length) (cols M) (cols M) ∧ (f < cols M → BackQ (runB ⟨sysL M [] M.length, 1, 0⟩ (cols M)).L x f f ∧ WholeQ (kernQ x f) (cols M))
def kernF (M : List (List Int)) : Nat := firstF (leadsB ⟨sysL M [] M.length, 1, 0⟩ (cols M))
end Go.Proofs.YtflgngjocgiojaaGreat
