/- The examples at the head of each law of package plane hold: sanity returns true. No condition. -/
import Derived.Test.YthijnggeoinlfaaPlaneW
import Derived.Test.YthijnggeoinlfaaPlaneY
import Derived.Test.YthijnggeoinlfaaPlaneZ
import Derived.Test.YthijnggeoinlfaaPlaneT
namespace Go.Proofs.Ythijnggeoinlfaa
open Go.RowKit

theorem s_in1 : vIn ⟨24, -24, 0⟩ = true := by decide +kernel
theorem s_in2 : vIn ⟨0, 25, 0⟩ = false := by decide +kernel
theorem s_cross : vCross ⟨1, 0, 0⟩ ⟨0, 1, 0⟩ = ⟨0, 0, 1⟩ := by simp [vCross, wrap64]
theorem s_prim1 : (veq (vPrim ⟨4, -6, 0⟩) ⟨2, -3, 0⟩ && vGcd ⟨4, -6, 0⟩ == 2) = true := by decide +kernel
theorem s_prim2 : (veq (vPrim ⟨0, 0, -5⟩) ⟨0, 0, -1⟩ && vGcd ⟨0, 0, -5⟩ == 5) = true := by decide +kernel
theorem s_prim3 : (veq (vPrim ⟨0, 0, 0⟩) ⟨0, 0, 0⟩ && vGcd ⟨0, 0, 0⟩ == 0) = true := by decide +kernel
theorem s_valid1 : pValid ⟨⟨2, 4, 0⟩, 1⟩ = false := by decide +kernel
theorem s_valid2 : pValid ⟨⟨1, 4609, 0⟩, 0⟩ = false := by decide +kernel
theorem s_valid3 : pValid ⟨⟨1, 0, 0⟩, 2097152⟩ = true := by decide +kernel
theorem v3eq {a b : V3} (h : veq a b = true) : a = b := by
  obtain ⟨a1, a2, a3⟩ := a; obtain ⟨b1, b2, b3⟩ := b
  simp [veq] at h; simp [h.1, h.2.1, h.2.2]
def peq (p q : Pl) : Bool := veq p.n q.n && p.b == q.b
theorem pleq {p q : Pl} (h : peq p q = true) : p = q := by
  obtain ⟨a, b⟩ := p; obtain ⟨c, d⟩ := q
  simp [peq] at h; simp [v3eq h.1, h.2]
theorem s_thr1 : pThrough ⟨1, 0, 0⟩ ⟨0, 1, 0⟩ ⟨0, 0, 1⟩ = ⟨⟨1, 1, 1⟩, 1⟩ := pleq (by decide +kernel)
theorem s_thr1b : okThrough ⟨1, 0, 0⟩ ⟨0, 1, 0⟩ ⟨0, 0, 1⟩ = true := by decide +kernel
theorem s_thr2 : pThrough ⟨0, 0, 0⟩ ⟨1, 1, 1⟩ ⟨2, 2, 2⟩ = ⟨⟨0, 0, 0⟩, 0⟩ := pleq (by decide +kernel)
theorem s_thr2b : okThrough ⟨0, 0, 0⟩ ⟨1, 1, 1⟩ ⟨2, 2, 2⟩ = false := by decide +kernel
theorem s_side1 : pSide ⟨⟨1, 1, 1⟩, 1⟩ ⟨0, 0, 0⟩ = -1 := by decide +kernel
theorem s_side2 : pSide ⟨⟨1, 1, 1⟩, 1⟩ ⟨1, 0, 0⟩ = 0 := by decide +kernel
theorem s_side3 : pSide ⟨⟨1, 1, 1⟩, 1⟩ ⟨1, 1, 0⟩ = 1 := by decide +kernel
theorem s_push1 : pPush ⟨⟨1, 0, 0⟩, 5⟩ (-7) = ⟨⟨1, 0, 0⟩, -2⟩ := pleq (by decide +kernel)
theorem s_push1b : okPush ⟨⟨1, 0, 0⟩, 5⟩ (-7) = true := by decide +kernel
theorem s_push2 : pPush ⟨⟨1, 0, 0⟩, 2097152⟩ 1 = ⟨⟨0, 0, 0⟩, 0⟩ := pleq (by decide +kernel)
theorem s_push2b : okPush ⟨⟨1, 0, 0⟩, 2097152⟩ 1 = false := by decide +kernel
theorem s_reach : vReach ⟨1, -2, 3⟩ ⟨1, 1, 2⟩ = 9 := by decide +kernel
theorem s_cmp1 : pCompare ⟨⟨1, 0, 0⟩, 5⟩ ⟨⟨1, 0, 0⟩, 7⟩ = -1 := by decide +kernel
theorem s_cmp2 : pCompare ⟨⟨1, 0, 0⟩, 5⟩ ⟨⟨0, 9, 9⟩, 9⟩ = 1 := by decide +kernel
theorem congr3 {p q : Pl} {a b : Bool} (h : p = q) (k : a = b) : Value.tuple #[p.v, .bool a] = Value.tuple #[q.v, .bool b] := by rw [h, k]
theorem i64s {n : Int} (h : (decide (-9223372036854775808 ≤ n) && decide (n ≤ 9223372036854775807)) = true) : I64 n := by simpa using h

set_option maxRecDepth 100000 in
set_option maxHeartbeats 4000000 in
theorem law7_sanity (w : World) :
    Calls Try.prog 16 #[] w fun r w' => r = .returned (.bool true) ∧ Below w.heap.size w w' := by
  go_enter Try.func16, Try.ntmps16
  go_wp2_with fail
  refine Calls.mono (law7_vec _ _ _ _) ?_
  rintro e w1 ⟨rfl, hb1⟩
  have hs1 := hb1.size
  (try simp at hs1)
  have hw1 : Below w.heap.size w w1 := Below.hop (by repeat' (first | exact Below.refl _ _ | assumption | (refine Below.alloc ?_ ?_ _; rotate_left; (focus (first | rfl | omega | (simp; done) | (simp; omega)))) | (refine Below.setCell ?_ ?_ _; rotate_left; (focus (first | rfl | omega | (simp; done) | (simp; omega)))) | refine Below.drew ?_)) hb1
  have hz1 := hw1.size
  clear hb1
  go_wp2_with fail
  refine Calls.mono (law7_vec _ _ _ _) ?_
  rintro e w2 ⟨rfl, hb2⟩
  have hs2 := hb2.size
  (try simp at hs2)
  have hw2 : Below w.heap.size w w2 := Below.hop (by repeat' (first | exact Below.refl _ _ | assumption | (refine Below.alloc ?_ ?_ _; rotate_left; (focus (first | rfl | omega | (simp; done) | (simp; omega)))) | (refine Below.setCell ?_ ?_ _; rotate_left; (focus (first | rfl | omega | (simp; done) | (simp; omega)))) | refine Below.drew ?_)) hb2
  have hz2 := hw2.size
  clear hb2
  go_wp2_with fail
  refine Calls.mono (law7_vec _ _ _ _) ?_
  rintro e w3 ⟨rfl, hb3⟩
  have hs3 := hb3.size
  (try simp at hs3)
  have hw3 : Below w.heap.size w w3 := Below.hop (by repeat' (first | exact Below.refl _ _ | assumption | (refine Below.alloc ?_ ?_ _; rotate_left; (focus (first | rfl | omega | (simp; done) | (simp; omega)))) | (refine Below.setCell ?_ ?_ _; rotate_left; (focus (first | rfl | omega | (simp; done) | (simp; omega)))) | refine Below.drew ?_)) hb3
  have hz3 := hw3.size
  clear hb3
  clear hw1 hw2 hs1 hs2 hs3 hz1 hz2
  go_wp2
  have o1 : Own (((w3.alloc (.cells #[.int .i64 1, .int .i64 0, .int .i64 0] 24)).alloc (.cells #[.int .i64 0, .int .i64 1, .int .i64 0] 24)).alloc (.cells #[.int .i64 0, .int .i64 0, .int .i64 1] 24)) w3.heap.size #[.int .i64 1, .int .i64 0, .int .i64 0] := (by repeat' (first | ((refine Own.new ?_); (focus (first | rfl | omega | (simp; done) | (simp; omega)))) | assumption | refine Own.alloc ?_ _ | refine Own.drew ?_ | (refine Own.far ?_ ?_ _; rotate_left; (focus (first | rfl | omega | (simp; done) | (simp; omega))))))
  have o2 : Own (((w3.alloc (.cells #[.int .i64 1, .int .i64 0, .int .i64 0] 24)).alloc (.cells #[.int .i64 0, .int .i64 1, .int .i64 0] 24)).alloc (.cells #[.int .i64 0, .int .i64 0, .int .i64 1] 24)) (w3.heap.size + 1) #[.int .i64 0, .int .i64 1, .int .i64 0] := (by repeat' (first | ((refine Own.new ?_); (focus (first | rfl | omega | (simp; done) | (simp; omega)))) | assumption | refine Own.alloc ?_ _ | refine Own.drew ?_ | (refine Own.far ?_ ?_ _; rotate_left; (focus (first | rfl | omega | (simp; done) | (simp; omega))))))
  have o3 : Own (((w3.alloc (.cells #[.int .i64 1, .int .i64 0, .int .i64 0] 24)).alloc (.cells #[.int .i64 0, .int .i64 1, .int .i64 0] 24)).alloc (.cells #[.int .i64 0, .int .i64 0, .int .i64 1] 24)) (w3.heap.size + 1 + 1) #[.int .i64 0, .int .i64 0, .int .i64 1] := (by repeat' (first | ((refine Own.new ?_); (focus (first | rfl | omega | (simp; done) | (simp; omega)))) | assumption | refine Own.alloc ?_ _ | refine Own.drew ?_ | (refine Own.far ?_ ?_ _; rotate_left; (focus (first | rfl | omega | (simp; done) | (simp; omega))))))
  have hw4 : Below w.heap.size w (((w3.alloc (.cells #[.int .i64 1, .int .i64 0, .int .i64 0] 24)).alloc (.cells #[.int .i64 0, .int .i64 1, .int .i64 0] 24)).alloc (.cells #[.int .i64 0, .int .i64 0, .int .i64 1] 24)) := (by repeat' (first | exact Below.refl _ _ | assumption | (refine Below.alloc ?_ ?_ _; rotate_left; (focus (first | rfl | omega | (simp; done) | (simp; omega)))) | (refine Below.setCell ?_ ?_ _; rotate_left; (focus (first | rfl | omega | (simp; done) | (simp; omega)))) | refine Below.drew ?_))
  generalize ((w3.alloc (.cells #[.int .i64 1, .int .i64 0, .int .i64 0] 24)).alloc (.cells #[.int .i64 0, .int .i64 1, .int .i64 0] 24)).alloc (.cells #[.int .i64 0, .int .i64 0, .int .i64 1] 24) = w4 at *
  clear hw3
  generalize w3.heap.size = B at *
  refine region_late 29 [] (by kernel_rfl) (by kernel_rfl) (by rfl) ?_
  apply Exists.intro
  refine ⟨fun v hv hne => ?_, fun u hu => ?_⟩
  · simp only [List.take_succ_cons, List.take_zero]
    have d1 := fun x => (o1.later (v := v) (T := []) (by simp) x).cell
    have d2 := fun x => (o2.later (v := v) (T := []) (by simp) x).cell
    have d3 := fun x => (o3.later (v := v) (T := []) (by simp) x).cell
    repeat (go_big_quiet_step ((first | (go_at_call 22; with_reducible exact lateB (law7_vec _ _ _ _)) | (go_at_call 25; with_reducible exact lateB (callv (plane_In 24 (-24) 0 _) (congrArg Value.bool s_in1))) | (go_at_call 25; with_reducible exact lateB (callv (plane_In 0 25 0 _) (congrArg Value.bool s_in2))) | (go_at_call 31; with_reducible exact lateB (callv (plane_Cross 1 0 0 0 1 0 _) (congrArg V3.v s_cross))) | (go_at_call 24; with_reducible exact lateB (callv (law7_prim 4 (-6) 0 2 (-3) 0 2 (i64s rfl) (i64s rfl) (i64s rfl) _) (congrArg Value.bool s_prim1))) | (go_at_call 24; with_reducible exact lateB (callv (law7_prim 0 0 (-5) 0 0 (-1) 5 (i64s rfl) (i64s rfl) (i64s rfl) _) (congrArg Value.bool s_prim2))) | (go_at_call 24; with_reducible exact lateB (callv (law7_prim 0 0 0 0 0 0 0 (i64s rfl) (i64s rfl) (i64s rfl) _) (congrArg Value.bool s_prim3))))))
    refine wpQuiet_nil ?_
    exact rfl
  · simp only [List.drop_succ_cons, List.drop_zero]
    refine late_mem (fun K hK => ?_)
    go_simp
    refine hK _ _ (Keeps.of_below hu) (fun u2 hu2 => ?_)
    clear hK K
    replace o1 := (o1.below hu).below hu2
    replace o2 := (o2.below hu).below hu2
    replace o3 := (o3.below hu).below hu2
    have hw := Below.hop (Below.hop hw4 hu) hu2
    have hz := hw.size
    clear hw4 hu hu2 hz3
    refine late_nil ?_
    (try simp only [Act.put, List.setIfInBounds_toArray, List.set_cons_zero, List.set_cons_succ])
    have o1c := o1.cell
    have o1f := o1.thaw
    have o1z := o1.lt
    have o2c := o2.cell
    have o2f := o2.thaw
    have o2z := o2.lt
    have o3c := o3.cell
    have o3f := o3.thaw
    have o3z := o3.lt
    go_wp2_with (first | (go_at_call 22; with_reducible refine Calls.mono (law7_vec _ _ _ _) ?_; rintro e wx ⟨rfl, hbx⟩; replace o1 : Own wx (B) #[.int .i64 1, .int .i64 0, .int .i64 0] := Own.below (by repeat' (first | ((refine Own.new ?_); (focus (first | rfl | omega | (simp; done) | (simp; omega)))) | assumption | refine Own.alloc ?_ _ | refine Own.drew ?_ | (refine Own.far ?_ ?_ _; rotate_left; (focus (first | rfl | omega | (simp; done) | (simp; omega)))))) hbx; replace o1c := o1.cell; replace o1f := o1.thaw; replace o1z := o1.lt; replace o2 : Own wx (B + 1) #[.int .i64 0, .int .i64 1, .int .i64 0] := Own.below (by repeat' (first | ((refine Own.new ?_); (focus (first | rfl | omega | (simp; done) | (simp; omega)))) | assumption | refine Own.alloc ?_ _ | refine Own.drew ?_ | (refine Own.far ?_ ?_ _; rotate_left; (focus (first | rfl | omega | (simp; done) | (simp; omega)))))) hbx; replace o2c := o2.cell; replace o2f := o2.thaw; replace o2z := o2.lt; replace o3 : Own wx (B + 1 + 1) #[.int .i64 0, .int .i64 0, .int .i64 1] := Own.below (by repeat' (first | ((refine Own.new ?_); (focus (first | rfl | omega | (simp; done) | (simp; omega)))) | assumption | refine Own.alloc ?_ _ | refine Own.drew ?_ | (refine Own.far ?_ ?_ _; rotate_left; (focus (first | rfl | omega | (simp; done) | (simp; omega)))))) hbx; replace o3c := o3.cell; replace o3f := o3.thaw; replace o3z := o3.lt; replace hw : Below w.heap.size w wx := Below.hop (by repeat' (first | exact Below.refl _ _ | assumption | (refine Below.alloc ?_ ?_ _; rotate_left; (focus (first | rfl | omega | (simp; done) | (simp; omega)))) | (refine Below.setCell ?_ ?_ _; rotate_left; (focus (first | rfl | omega | (simp; done) | (simp; omega)))) | refine Below.drew ?_)) hbx; replace hz := hw.size; clear hbx) | (go_at_call 38; with_reducible refine Calls.mono (callv (plane_Valid 2 4 0 1 (i64s rfl) (i64s rfl) (i64s rfl) _) (congrArg Value.bool s_valid1)) ?_; rintro e wx ⟨rfl, hbx⟩; replace o1 : Own wx (B) #[.int .i64 1, .int .i64 0, .int .i64 0] := Own.below (by repeat' (first | ((refine Own.new ?_); (focus (first | rfl | omega | (simp; done) | (simp; omega)))) | assumption | refine Own.alloc ?_ _ | refine Own.drew ?_ | (refine Own.far ?_ ?_ _; rotate_left; (focus (first | rfl | omega | (simp; done) | (simp; omega)))))) hbx; replace o1c := o1.cell; replace o1f := o1.thaw; replace o1z := o1.lt; replace o2 : Own wx (B + 1) #[.int .i64 0, .int .i64 1, .int .i64 0] := Own.below (by repeat' (first | ((refine Own.new ?_); (focus (first | rfl | omega | (simp; done) | (simp; omega)))) | assumption | refine Own.alloc ?_ _ | refine Own.drew ?_ | (refine Own.far ?_ ?_ _; rotate_left; (focus (first | rfl | omega | (simp; done) | (simp; omega)))))) hbx; replace o2c := o2.cell; replace o2f := o2.thaw; replace o2z := o2.lt; replace o3 : Own wx (B + 1 + 1) #[.int .i64 0, .int .i64 0, .int .i64 1] := Own.below (by repeat' (first | ((refine Own.new ?_); (focus (first | rfl | omega | (simp; done) | (simp; omega)))) | assumption | refine Own.alloc ?_ _ | refine Own.drew ?_ | (refine Own.far ?_ ?_ _; rotate_left; (focus (first | rfl | omega | (simp; done) | (simp; omega)))))) hbx; replace o3c := o3.cell; replace o3f := o3.thaw; replace o3z := o3.lt; replace hw : Below w.heap.size w wx := Below.hop (by repeat' (first | exact Below.refl _ _ | assumption | (refine Below.alloc ?_ ?_ _; rotate_left; (focus (first | rfl | omega | (simp; done) | (simp; omega)))) | (refine Below.setCell ?_ ?_ _; rotate_left; (focus (first | rfl | omega | (simp; done) | (simp; omega)))) | refine Below.drew ?_)) hbx; replace hz := hw.size; clear hbx) | (go_at_call 38; with_reducible refine Calls.mono (callv (plane_Valid 1 4609 0 0 (i64s rfl) (i64s rfl) (i64s rfl) _) (congrArg Value.bool s_valid2)) ?_; rintro e wx ⟨rfl, hbx⟩; replace o1 : Own wx (B) #[.int .i64 1, .int .i64 0, .int .i64 0] := Own.below (by repeat' (first | ((refine Own.new ?_); (focus (first | rfl | omega | (simp; done) | (simp; omega)))) | assumption | refine Own.alloc ?_ _ | refine Own.drew ?_ | (refine Own.far ?_ ?_ _; rotate_left; (focus (first | rfl | omega | (simp; done) | (simp; omega)))))) hbx; replace o1c := o1.cell; replace o1f := o1.thaw; replace o1z := o1.lt; replace o2 : Own wx (B + 1) #[.int .i64 0, .int .i64 1, .int .i64 0] := Own.below (by repeat' (first | ((refine Own.new ?_); (focus (first | rfl | omega | (simp; done) | (simp; omega)))) | assumption | refine Own.alloc ?_ _ | refine Own.drew ?_ | (refine Own.far ?_ ?_ _; rotate_left; (focus (first | rfl | omega | (simp; done) | (simp; omega)))))) hbx; replace o2c := o2.cell; replace o2f := o2.thaw; replace o2z := o2.lt; replace o3 : Own wx (B + 1 + 1) #[.int .i64 0, .int .i64 0, .int .i64 1] := Own.below (by repeat' (first | ((refine Own.new ?_); (focus (first | rfl | omega | (simp; done) | (simp; omega)))) | assumption | refine Own.alloc ?_ _ | refine Own.drew ?_ | (refine Own.far ?_ ?_ _; rotate_left; (focus (first | rfl | omega | (simp; done) | (simp; omega)))))) hbx; replace o3c := o3.cell; replace o3f := o3.thaw; replace o3z := o3.lt; replace hw : Below w.heap.size w wx := Below.hop (by repeat' (first | exact Below.refl _ _ | assumption | (refine Below.alloc ?_ ?_ _; rotate_left; (focus (first | rfl | omega | (simp; done) | (simp; omega)))) | (refine Below.setCell ?_ ?_ _; rotate_left; (focus (first | rfl | omega | (simp; done) | (simp; omega)))) | refine Below.drew ?_)) hbx; replace hz := hw.size; clear hbx) | (go_at_call 38; with_reducible refine Calls.mono (callv (plane_Valid 1 0 0 2097152 (i64s rfl) (i64s rfl) (i64s rfl) _) (congrArg Value.bool s_valid3)) ?_; rintro e wx ⟨rfl, hbx⟩; replace o1 : Own wx (B) #[.int .i64 1, .int .i64 0, .int .i64 0] := Own.below (by repeat' (first | ((refine Own.new ?_); (focus (first | rfl | omega | (simp; done) | (simp; omega)))) | assumption | refine Own.alloc ?_ _ | refine Own.drew ?_ | (refine Own.far ?_ ?_ _; rotate_left; (focus (first | rfl | omega | (simp; done) | (simp; omega)))))) hbx; replace o1c := o1.cell; replace o1f := o1.thaw; replace o1z := o1.lt; replace o2 : Own wx (B + 1) #[.int .i64 0, .int .i64 1, .int .i64 0] := Own.below (by repeat' (first | ((refine Own.new ?_); (focus (first | rfl | omega | (simp; done) | (simp; omega)))) | assumption | refine Own.alloc ?_ _ | refine Own.drew ?_ | (refine Own.far ?_ ?_ _; rotate_left; (focus (first | rfl | omega | (simp; done) | (simp; omega)))))) hbx; replace o2c := o2.cell; replace o2f := o2.thaw; replace o2z := o2.lt; replace o3 : Own wx (B + 1 + 1) #[.int .i64 0, .int .i64 0, .int .i64 1] := Own.below (by repeat' (first | ((refine Own.new ?_); (focus (first | rfl | omega | (simp; done) | (simp; omega)))) | assumption | refine Own.alloc ?_ _ | refine Own.drew ?_ | (refine Own.far ?_ ?_ _; rotate_left; (focus (first | rfl | omega | (simp; done) | (simp; omega)))))) hbx; replace o3c := o3.cell; replace o3f := o3.thaw; replace o3z := o3.lt; replace hw : Below w.heap.size w wx := Below.hop (by repeat' (first | exact Below.refl _ _ | assumption | (refine Below.alloc ?_ ?_ _; rotate_left; (focus (first | rfl | omega | (simp; done) | (simp; omega)))) | (refine Below.setCell ?_ ?_ _; rotate_left; (focus (first | rfl | omega | (simp; done) | (simp; omega)))) | refine Below.drew ?_)) hbx; replace hz := hw.size; clear hbx))
    refine Calls.mono (callv (plane_Through 1 0 0 0 1 0 0 0 1 _) (congr3 s_thr1 s_thr1b)) ?_
    rintro e wp ⟨rfl, hbx⟩
    replace o1 : Own wp (B) #[.int .i64 1, .int .i64 0, .int .i64 0] := Own.below (by repeat' (first | ((refine Own.new ?_); (focus (first | rfl | omega | (simp; done) | (simp; omega)))) | assumption | refine Own.alloc ?_ _ | refine Own.drew ?_ | (refine Own.far ?_ ?_ _; rotate_left; (focus (first | rfl | omega | (simp; done) | (simp; omega)))))) hbx
    replace o1c := o1.cell
    replace o1f := o1.thaw
    replace o1z := o1.lt
    replace o2 : Own wp (B + 1) #[.int .i64 0, .int .i64 1, .int .i64 0] := Own.below (by repeat' (first | ((refine Own.new ?_); (focus (first | rfl | omega | (simp; done) | (simp; omega)))) | assumption | refine Own.alloc ?_ _ | refine Own.drew ?_ | (refine Own.far ?_ ?_ _; rotate_left; (focus (first | rfl | omega | (simp; done) | (simp; omega)))))) hbx
    replace o2c := o2.cell
    replace o2f := o2.thaw
    replace o2z := o2.lt
    replace o3 : Own wp (B + 1 + 1) #[.int .i64 0, .int .i64 0, .int .i64 1] := Own.below (by repeat' (first | ((refine Own.new ?_); (focus (first | rfl | omega | (simp; done) | (simp; omega)))) | assumption | refine Own.alloc ?_ _ | refine Own.drew ?_ | (refine Own.far ?_ ?_ _; rotate_left; (focus (first | rfl | omega | (simp; done) | (simp; omega)))))) hbx
    replace o3c := o3.cell
    replace o3f := o3.thaw
    replace o3z := o3.lt
    replace hw : Below w.heap.size w wp := Below.hop (by repeat' (first | exact Below.refl _ _ | assumption | (refine Below.alloc ?_ ?_ _; rotate_left; (focus (first | rfl | omega | (simp; done) | (simp; omega)))) | (refine Below.setCell ?_ ?_ _; rotate_left; (focus (first | rfl | omega | (simp; done) | (simp; omega)))) | refine Below.drew ?_)) hbx
    replace hz := hw.size
    clear hbx
    go_wp2_with fail
    refine Calls.mono (law7_vec _ _ _ _) ?_
    rintro e wx ⟨rfl, hbx⟩
    have o4 : Own wx (wp.heap.size) #[.int .i64 1, .int .i64 1, .int .i64 1, .int .i64 1] := Own.below (by repeat' (first | ((refine Own.new ?_); (focus (first | rfl | omega | (simp; done) | (simp; omega)))) | assumption | refine Own.alloc ?_ _ | refine Own.drew ?_ | (refine Own.far ?_ ?_ _; rotate_left; (focus (first | rfl | omega | (simp; done) | (simp; omega)))))) hbx
    have o4c := o4.cell
    have o4f := o4.thaw
    have o4z := o4.lt
    replace o1 : Own wx (B) #[.int .i64 1, .int .i64 0, .int .i64 0] := Own.below (by repeat' (first | ((refine Own.new ?_); (focus (first | rfl | omega | (simp; done) | (simp; omega)))) | assumption | refine Own.alloc ?_ _ | refine Own.drew ?_ | (refine Own.far ?_ ?_ _; rotate_left; (focus (first | rfl | omega | (simp; done) | (simp; omega)))))) hbx
    replace o1c := o1.cell
    replace o1f := o1.thaw
    replace o1z := o1.lt
    replace o2 : Own wx (B + 1) #[.int .i64 0, .int .i64 1, .int .i64 0] := Own.below (by repeat' (first | ((refine Own.new ?_); (focus (first | rfl | omega | (simp; done) | (simp; omega)))) | assumption | refine Own.alloc ?_ _ | refine Own.drew ?_ | (refine Own.far ?_ ?_ _; rotate_left; (focus (first | rfl | omega | (simp; done) | (simp; omega)))))) hbx
    replace o2c := o2.cell
    replace o2f := o2.thaw
    replace o2z := o2.lt
    replace o3 : Own wx (B + 1 + 1) #[.int .i64 0, .int .i64 0, .int .i64 1] := Own.below (by repeat' (first | ((refine Own.new ?_); (focus (first | rfl | omega | (simp; done) | (simp; omega)))) | assumption | refine Own.alloc ?_ _ | refine Own.drew ?_ | (refine Own.far ?_ ?_ _; rotate_left; (focus (first | rfl | omega | (simp; done) | (simp; omega)))))) hbx
    replace o3c := o3.cell
    replace o3f := o3.thaw
    replace o3z := o3.lt
    replace hw : Below w.heap.size w wx := Below.hop (by repeat' (first | exact Below.refl _ _ | assumption | (refine Below.alloc ?_ ?_ _; rotate_left; (focus (first | rfl | omega | (simp; done) | (simp; omega)))) | (refine Below.setCell ?_ ?_ _; rotate_left; (focus (first | rfl | omega | (simp; done) | (simp; omega)))) | refine Below.drew ?_)) hbx
    replace hz := hw.size
    clear hbx
    go_wp2_with (first | (go_at_call 22; with_reducible refine Calls.mono (law7_vec _ _ _ _) ?_; rintro e wx ⟨rfl, hbx⟩; replace o1 : Own wx (B) #[.int .i64 1, .int .i64 0, .int .i64 0] := Own.below (by repeat' (first | ((refine Own.new ?_); (focus (first | rfl | omega | (simp; done) | (simp; omega)))) | assumption | refine Own.alloc ?_ _ | refine Own.drew ?_ | (refine Own.far ?_ ?_ _; rotate_left; (focus (first | rfl | omega | (simp; done) | (simp; omega)))))) hbx; replace o1c := o1.cell; replace o1f := o1.thaw; replace o1z := o1.lt; replace o2 : Own wx (B + 1) #[.int .i64 0, .int .i64 1, .int .i64 0] := Own.below (by repeat' (first | ((refine Own.new ?_); (focus (first | rfl | omega | (simp; done) | (simp; omega)))) | assumption | refine Own.alloc ?_ _ | refine Own.drew ?_ | (refine Own.far ?_ ?_ _; rotate_left; (focus (first | rfl | omega | (simp; done) | (simp; omega)))))) hbx; replace o2c := o2.cell; replace o2f := o2.thaw; replace o2z := o2.lt; replace o3 : Own wx (B + 1 + 1) #[.int .i64 0, .int .i64 0, .int .i64 1] := Own.below (by repeat' (first | ((refine Own.new ?_); (focus (first | rfl | omega | (simp; done) | (simp; omega)))) | assumption | refine Own.alloc ?_ _ | refine Own.drew ?_ | (refine Own.far ?_ ?_ _; rotate_left; (focus (first | rfl | omega | (simp; done) | (simp; omega)))))) hbx; replace o3c := o3.cell; replace o3f := o3.thaw; replace o3z := o3.lt; replace o4 : Own wx (wp.heap.size) #[.int .i64 1, .int .i64 1, .int .i64 1, .int .i64 1] := Own.below (by repeat' (first | ((refine Own.new ?_); (focus (first | rfl | omega | (simp; done) | (simp; omega)))) | assumption | refine Own.alloc ?_ _ | refine Own.drew ?_ | (refine Own.far ?_ ?_ _; rotate_left; (focus (first | rfl | omega | (simp; done) | (simp; omega)))))) hbx; replace o4c := o4.cell; replace o4f := o4.thaw; replace o4z := o4.lt; replace hw : Below w.heap.size w wx := Below.hop (by repeat' (first | exact Below.refl _ _ | assumption | (refine Below.alloc ?_ ?_ _; rotate_left; (focus (first | rfl | omega | (simp; done) | (simp; omega)))) | (refine Below.setCell ?_ ?_ _; rotate_left; (focus (first | rfl | omega | (simp; done) | (simp; omega)))) | refine Below.drew ?_)) hbx; replace hz := hw.size; clear hbx))
    refine Calls.mono (callv (plane_Through 0 0 0 1 1 1 2 2 2 _) (congr3 s_thr2 s_thr2b)) ?_
    rintro e wq ⟨rfl, hbx⟩
    replace o1 : Own wq (B) #[.int .i64 1, .int .i64 0, .int .i64 0] := Own.below (by repeat' (first | ((refine Own.new ?_); (focus (first | rfl | omega | (simp; done) | (simp; omega)))) | assumption | refine Own.alloc ?_ _ | refine Own.drew ?_ | (refine Own.far ?_ ?_ _; rotate_left; (focus (first | rfl | omega | (simp; done) | (simp; omega)))))) hbx
    replace o1c := o1.cell
    replace o1f := o1.thaw
    replace o1z := o1.lt
    replace o2 : Own wq (B + 1) #[.int .i64 0, .int .i64 1, .int .i64 0] := Own.below (by repeat' (first | ((refine Own.new ?_); (focus (first | rfl | omega | (simp; done) | (simp; omega)))) | assumption | refine Own.alloc ?_ _ | refine Own.drew ?_ | (refine Own.far ?_ ?_ _; rotate_left; (focus (first | rfl | omega | (simp; done) | (simp; omega)))))) hbx
    replace o2c := o2.cell
    replace o2f := o2.thaw
    replace o2z := o2.lt
    replace o3 : Own wq (B + 1 + 1) #[.int .i64 0, .int .i64 0, .int .i64 1] := Own.below (by repeat' (first | ((refine Own.new ?_); (focus (first | rfl | omega | (simp; done) | (simp; omega)))) | assumption | refine Own.alloc ?_ _ | refine Own.drew ?_ | (refine Own.far ?_ ?_ _; rotate_left; (focus (first | rfl | omega | (simp; done) | (simp; omega)))))) hbx
    replace o3c := o3.cell
    replace o3f := o3.thaw
    replace o3z := o3.lt
    replace o4 : Own wq (wp.heap.size) #[.int .i64 1, .int .i64 1, .int .i64 1, .int .i64 1] := Own.below (by repeat' (first | ((refine Own.new ?_); (focus (first | rfl | omega | (simp; done) | (simp; omega)))) | assumption | refine Own.alloc ?_ _ | refine Own.drew ?_ | (refine Own.far ?_ ?_ _; rotate_left; (focus (first | rfl | omega | (simp; done) | (simp; omega)))))) hbx
    replace o4c := o4.cell
    replace o4f := o4.thaw
    replace o4z := o4.lt
    replace hw : Below w.heap.size w wq := Below.hop (by repeat' (first | exact Below.refl _ _ | assumption | (refine Below.alloc ?_ ?_ _; rotate_left; (focus (first | rfl | omega | (simp; done) | (simp; omega)))) | (refine Below.setCell ?_ ?_ _; rotate_left; (focus (first | rfl | omega | (simp; done) | (simp; omega)))) | refine Below.drew ?_)) hbx
    replace hz := hw.size
    clear hbx
    go_wp2
    obtain ⟨wz, hwz⟩ : ∃ wz : World, wz = wq.alloc (.cells #[.int .i64 0, .int .i64 0, .int .i64 0, .int .i64 0] 32) := ⟨_, rfl⟩
    replace o1 : Own wz (B) #[.int .i64 1, .int .i64 0, .int .i64 0] := hwz ▸ o1.alloc _
    replace o2 : Own wz (B + 1) #[.int .i64 0, .int .i64 1, .int .i64 0] := hwz ▸ o2.alloc _
    replace o3 : Own wz (B + 1 + 1) #[.int .i64 0, .int .i64 0, .int .i64 1] := hwz ▸ o3.alloc _
    replace o4 : Own wz (wp.heap.size) #[.int .i64 1, .int .i64 1, .int .i64 1, .int .i64 1] := hwz ▸ o4.alloc _
    replace hw : Below w.heap.size w wz := hwz ▸ hw.alloc hz _
    rw [← hwz]
    clear hwz o1c o1f o2c o2f o3c o3f o4c o4f
    refine region_late 29 [] (by kernel_rfl) (by kernel_rfl) (by rfl) ?_
    apply Exists.intro
    refine ⟨fun v hv hne => ?_, fun u hu => ?_⟩
    · simp only [List.take_succ_cons, List.take_zero]
      have do1 := fun x => (o1.later (v := v) (T := []) (by simp) x).cell
      have do2 := fun x => (o2.later (v := v) (T := []) (by simp) x).cell
      have do3 := fun x => (o3.later (v := v) (T := []) (by simp) x).cell
      have do4 := fun x => (o4.later (v := v) (T := []) (by simp) x).cell
      repeat (go_big_quiet_step ((first | (go_at_call 22; with_reducible exact lateB (law7_vec _ _ _ _)) | (go_at_call 42; with_reducible exact lateB (callv (plane_Side 1 1 1 1 0 0 0 (i64s rfl) (i64s rfl) (i64s rfl) _) (congrArg (Value.int IntKind.i64) s_side1))) | (go_at_call 42; with_reducible exact lateB (callv (plane_Side 1 1 1 1 1 0 0 (i64s rfl) (i64s rfl) (i64s rfl) _) (congrArg (Value.int IntKind.i64) s_side2))) | (go_at_call 42; with_reducible exact lateB (callv (plane_Side 1 1 1 1 1 1 0 (i64s rfl) (i64s rfl) (i64s rfl) _) (congrArg (Value.int IntKind.i64) s_side3))))))
      refine wpQuiet_nil ?_
      exact rfl
    · simp only [List.drop_succ_cons, List.drop_zero]
      refine late_mem (fun K hK => ?_)
      go_simp
      refine hK _ _ (Keeps.of_below hu) (fun u2 hu2 => ?_)
      clear hK K
      replace o1 := (o1.below hu).below hu2
      replace o2 := (o2.below hu).below hu2
      replace o3 := (o3.below hu).below hu2
      replace o4 := (o4.below hu).below hu2
      replace hw := Below.hop (Below.hop hw hu) hu2
      replace hz := hw.size
      clear hu hu2
      refine late_nil ?_
      (try simp only [Act.put, List.setIfInBounds_toArray, List.set_cons_zero, List.set_cons_succ])
      have o1c := o1.cell
      have o1f := o1.thaw
      have o1z := o1.lt
      have o2c := o2.cell
      have o2f := o2.thaw
      have o2z := o2.lt
      have o3c := o3.cell
      have o3f := o3.thaw
      have o3z := o3.lt
      have o4c := o4.cell
      have o4f := o4.thaw
      have o4z := o4.lt
      go_wp2_with fail
      refine Calls.mono (callv (plane_Push 1 0 0 5 (-7) (i64s rfl) (i64s rfl) (i64s rfl) _) (congr3 s_push1 s_push1b)) ?_
      rintro e wr ⟨rfl, hbx⟩
      replace o1 : Own wr (B) #[.int .i64 1, .int .i64 0, .int .i64 0] := Own.below (by repeat' (first | ((refine Own.new ?_); (focus (first | rfl | omega | (simp; done) | (simp; omega)))) | assumption | refine Own.alloc ?_ _ | refine Own.drew ?_ | (refine Own.far ?_ ?_ _; rotate_left; (focus (first | rfl | omega | (simp; done) | (simp; omega)))))) hbx
      replace o1c := o1.cell
      replace o1f := o1.thaw
      replace o1z := o1.lt
      replace o2 : Own wr (B + 1) #[.int .i64 0, .int .i64 1, .int .i64 0] := Own.below (by repeat' (first | ((refine Own.new ?_); (focus (first | rfl | omega | (simp; done) | (simp; omega)))) | assumption | refine Own.alloc ?_ _ | refine Own.drew ?_ | (refine Own.far ?_ ?_ _; rotate_left; (focus (first | rfl | omega | (simp; done) | (simp; omega)))))) hbx
      replace o2c := o2.cell
      replace o2f := o2.thaw
      replace o2z := o2.lt
      replace o3 : Own wr (B + 1 + 1) #[.int .i64 0, .int .i64 0, .int .i64 1] := Own.below (by repeat' (first | ((refine Own.new ?_); (focus (first | rfl | omega | (simp; done) | (simp; omega)))) | assumption | refine Own.alloc ?_ _ | refine Own.drew ?_ | (refine Own.far ?_ ?_ _; rotate_left; (focus (first | rfl | omega | (simp; done) | (simp; omega)))))) hbx
      replace o3c := o3.cell
      replace o3f := o3.thaw
      replace o3z := o3.lt
      replace o4 : Own wr (wp.heap.size) #[.int .i64 1, .int .i64 1, .int .i64 1, .int .i64 1] := Own.below (by repeat' (first | ((refine Own.new ?_); (focus (first | rfl | omega | (simp; done) | (simp; omega)))) | assumption | refine Own.alloc ?_ _ | refine Own.drew ?_ | (refine Own.far ?_ ?_ _; rotate_left; (focus (first | rfl | omega | (simp; done) | (simp; omega)))))) hbx
      replace o4c := o4.cell
      replace o4f := o4.thaw
      replace o4z := o4.lt
      replace hw : Below w.heap.size w wr := Below.hop (by repeat' (first | exact Below.refl _ _ | assumption | (refine Below.alloc ?_ ?_ _; rotate_left; (focus (first | rfl | omega | (simp; done) | (simp; omega)))) | (refine Below.setCell ?_ ?_ _; rotate_left; (focus (first | rfl | omega | (simp; done) | (simp; omega)))) | refine Below.drew ?_)) hbx
      replace hz := hw.size
      clear hbx
      go_wp2_with fail
      refine Calls.mono (callv (plane_Push 1 0 0 2097152 1 (i64s rfl) (i64s rfl) (i64s rfl) _) (congr3 s_push2 s_push2b)) ?_
      rintro e ws ⟨rfl, hbx⟩
      have o5 : Own ws (wr.heap.size) #[.int .i64 1, .int .i64 0, .int .i64 0, .int .i64 (-2)] := Own.below (by repeat' (first | ((refine Own.new ?_); (focus (first | rfl | omega | (simp; done) | (simp; omega)))) | assumption | refine Own.alloc ?_ _ | refine Own.drew ?_ | (refine Own.far ?_ ?_ _; rotate_left; (focus (first | rfl | omega | (simp; done) | (simp; omega)))))) hbx
      have o5c := o5.cell
      have o5f := o5.thaw
      have o5z := o5.lt
      replace o1 : Own ws (B) #[.int .i64 1, .int .i64 0, .int .i64 0] := Own.below (by repeat' (first | ((refine Own.new ?_); (focus (first | rfl | omega | (simp; done) | (simp; omega)))) | assumption | refine Own.alloc ?_ _ | refine Own.drew ?_ | (refine Own.far ?_ ?_ _; rotate_left; (focus (first | rfl | omega | (simp; done) | (simp; omega)))))) hbx
      replace o1c := o1.cell
      replace o1f := o1.thaw
      replace o1z := o1.lt
      replace o2 : Own ws (B + 1) #[.int .i64 0, .int .i64 1, .int .i64 0] := Own.below (by repeat' (first | ((refine Own.new ?_); (focus (first | rfl | omega | (simp; done) | (simp; omega)))) | assumption | refine Own.alloc ?_ _ | refine Own.drew ?_ | (refine Own.far ?_ ?_ _; rotate_left; (focus (first | rfl | omega | (simp; done) | (simp; omega)))))) hbx
      replace o2c := o2.cell
      replace o2f := o2.thaw
      replace o2z := o2.lt
      replace o3 : Own ws (B + 1 + 1) #[.int .i64 0, .int .i64 0, .int .i64 1] := Own.below (by repeat' (first | ((refine Own.new ?_); (focus (first | rfl | omega | (simp; done) | (simp; omega)))) | assumption | refine Own.alloc ?_ _ | refine Own.drew ?_ | (refine Own.far ?_ ?_ _; rotate_left; (focus (first | rfl | omega | (simp; done) | (simp; omega)))))) hbx
      replace o3c := o3.cell
      replace o3f := o3.thaw
      replace o3z := o3.lt
      replace o4 : Own ws (wp.heap.size) #[.int .i64 1, .int .i64 1, .int .i64 1, .int .i64 1] := Own.below (by repeat' (first | ((refine Own.new ?_); (focus (first | rfl | omega | (simp; done) | (simp; omega)))) | assumption | refine Own.alloc ?_ _ | refine Own.drew ?_ | (refine Own.far ?_ ?_ _; rotate_left; (focus (first | rfl | omega | (simp; done) | (simp; omega)))))) hbx
      replace o4c := o4.cell
      replace o4f := o4.thaw
      replace o4z := o4.lt
      replace hw : Below w.heap.size w ws := Below.hop (by repeat' (first | exact Below.refl _ _ | assumption | (refine Below.alloc ?_ ?_ _; rotate_left; (focus (first | rfl | omega | (simp; done) | (simp; omega)))) | (refine Below.setCell ?_ ?_ _; rotate_left; (focus (first | rfl | omega | (simp; done) | (simp; omega)))) | refine Below.drew ?_)) hbx
      replace hz := hw.size
      clear hbx
      go_wp2_with fail
      refine Calls.mono (law7_vec _ _ _ _) ?_
      rintro e wx ⟨rfl, hbx⟩
      replace o1 : Own wx (B) #[.int .i64 1, .int .i64 0, .int .i64 0] := Own.below (by repeat' (first | ((refine Own.new ?_); (focus (first | rfl | omega | (simp; done) | (simp; omega)))) | assumption | refine Own.alloc ?_ _ | refine Own.drew ?_ | (refine Own.far ?_ ?_ _; rotate_left; (focus (first | rfl | omega | (simp; done) | (simp; omega)))))) hbx
      replace o1c := o1.cell
      replace o1f := o1.thaw
      replace o1z := o1.lt
      replace o2 : Own wx (B + 1) #[.int .i64 0, .int .i64 1, .int .i64 0] := Own.below (by repeat' (first | ((refine Own.new ?_); (focus (first | rfl | omega | (simp; done) | (simp; omega)))) | assumption | refine Own.alloc ?_ _ | refine Own.drew ?_ | (refine Own.far ?_ ?_ _; rotate_left; (focus (first | rfl | omega | (simp; done) | (simp; omega)))))) hbx
      replace o2c := o2.cell
      replace o2f := o2.thaw
      replace o2z := o2.lt
      replace o3 : Own wx (B + 1 + 1) #[.int .i64 0, .int .i64 0, .int .i64 1] := Own.below (by repeat' (first | ((refine Own.new ?_); (focus (first | rfl | omega | (simp; done) | (simp; omega)))) | assumption | refine Own.alloc ?_ _ | refine Own.drew ?_ | (refine Own.far ?_ ?_ _; rotate_left; (focus (first | rfl | omega | (simp; done) | (simp; omega)))))) hbx
      replace o3c := o3.cell
      replace o3f := o3.thaw
      replace o3z := o3.lt
      replace o4 : Own wx (wp.heap.size) #[.int .i64 1, .int .i64 1, .int .i64 1, .int .i64 1] := Own.below (by repeat' (first | ((refine Own.new ?_); (focus (first | rfl | omega | (simp; done) | (simp; omega)))) | assumption | refine Own.alloc ?_ _ | refine Own.drew ?_ | (refine Own.far ?_ ?_ _; rotate_left; (focus (first | rfl | omega | (simp; done) | (simp; omega)))))) hbx
      replace o4c := o4.cell
      replace o4f := o4.thaw
      replace o4z := o4.lt
      replace o5 : Own wx (wr.heap.size) #[.int .i64 1, .int .i64 0, .int .i64 0, .int .i64 (-2)] := Own.below (by repeat' (first | ((refine Own.new ?_); (focus (first | rfl | omega | (simp; done) | (simp; omega)))) | assumption | refine Own.alloc ?_ _ | refine Own.drew ?_ | (refine Own.far ?_ ?_ _; rotate_left; (focus (first | rfl | omega | (simp; done) | (simp; omega)))))) hbx
      replace o5c := o5.cell
      replace o5f := o5.thaw
      replace o5z := o5.lt
      replace hw : Below w.heap.size w wx := Below.hop (by repeat' (first | exact Below.refl _ _ | assumption | (refine Below.alloc ?_ ?_ _; rotate_left; (focus (first | rfl | omega | (simp; done) | (simp; omega)))) | (refine Below.setCell ?_ ?_ _; rotate_left; (focus (first | rfl | omega | (simp; done) | (simp; omega)))) | refine Below.drew ?_)) hbx
      replace hz := hw.size
      clear hbx
      go_wp2_with (first | (go_at_call 22; with_reducible refine Calls.mono (law7_vec _ _ _ _) ?_; rintro e wx ⟨rfl, hbx⟩; replace o1 : Own wx (B) #[.int .i64 1, .int .i64 0, .int .i64 0] := Own.below (by repeat' (first | ((refine Own.new ?_); (focus (first | rfl | omega | (simp; done) | (simp; omega)))) | assumption | refine Own.alloc ?_ _ | refine Own.drew ?_ | (refine Own.far ?_ ?_ _; rotate_left; (focus (first | rfl | omega | (simp; done) | (simp; omega)))))) hbx; replace o1c := o1.cell; replace o1f := o1.thaw; replace o1z := o1.lt; replace o2 : Own wx (B + 1) #[.int .i64 0, .int .i64 1, .int .i64 0] := Own.below (by repeat' (first | ((refine Own.new ?_); (focus (first | rfl | omega | (simp; done) | (simp; omega)))) | assumption | refine Own.alloc ?_ _ | refine Own.drew ?_ | (refine Own.far ?_ ?_ _; rotate_left; (focus (first | rfl | omega | (simp; done) | (simp; omega)))))) hbx; replace o2c := o2.cell; replace o2f := o2.thaw; replace o2z := o2.lt; replace o3 : Own wx (B + 1 + 1) #[.int .i64 0, .int .i64 0, .int .i64 1] := Own.below (by repeat' (first | ((refine Own.new ?_); (focus (first | rfl | omega | (simp; done) | (simp; omega)))) | assumption | refine Own.alloc ?_ _ | refine Own.drew ?_ | (refine Own.far ?_ ?_ _; rotate_left; (focus (first | rfl | omega | (simp; done) | (simp; omega)))))) hbx; replace o3c := o3.cell; replace o3f := o3.thaw; replace o3z := o3.lt; replace o4 : Own wx (wp.heap.size) #[.int .i64 1, .int .i64 1, .int .i64 1, .int .i64 1] := Own.below (by repeat' (first | ((refine Own.new ?_); (focus (first | rfl | omega | (simp; done) | (simp; omega)))) | assumption | refine Own.alloc ?_ _ | refine Own.drew ?_ | (refine Own.far ?_ ?_ _; rotate_left; (focus (first | rfl | omega | (simp; done) | (simp; omega)))))) hbx; replace o4c := o4.cell; replace o4f := o4.thaw; replace o4z := o4.lt; replace o5 : Own wx (wr.heap.size) #[.int .i64 1, .int .i64 0, .int .i64 0, .int .i64 (-2)] := Own.below (by repeat' (first | ((refine Own.new ?_); (focus (first | rfl | omega | (simp; done) | (simp; omega)))) | assumption | refine Own.alloc ?_ _ | refine Own.drew ?_ | (refine Own.far ?_ ?_ _; rotate_left; (focus (first | rfl | omega | (simp; done) | (simp; omega)))))) hbx; replace o5c := o5.cell; replace o5f := o5.thaw; replace o5z := o5.lt; replace hw : Below w.heap.size w wx := Below.hop (by repeat' (first | exact Below.refl _ _ | assumption | (refine Below.alloc ?_ ?_ _; rotate_left; (focus (first | rfl | omega | (simp; done) | (simp; omega)))) | (refine Below.setCell ?_ ?_ _; rotate_left; (focus (first | rfl | omega | (simp; done) | (simp; omega)))) | refine Below.drew ?_)) hbx; replace hz := hw.size; clear hbx) | (go_at_call 33; with_reducible refine Calls.mono (callv (plane_Reach 1 (-2) 3 1 1 2 (i64s rfl) (i64s rfl) (i64s rfl) _) (congrArg (Value.int IntKind.i64) s_reach)) ?_; rintro e wx ⟨rfl, hbx⟩; replace o1 : Own wx (B) #[.int .i64 1, .int .i64 0, .int .i64 0] := Own.below (by repeat' (first | ((refine Own.new ?_); (focus (first | rfl | omega | (simp; done) | (simp; omega)))) | assumption | refine Own.alloc ?_ _ | refine Own.drew ?_ | (refine Own.far ?_ ?_ _; rotate_left; (focus (first | rfl | omega | (simp; done) | (simp; omega)))))) hbx; replace o1c := o1.cell; replace o1f := o1.thaw; replace o1z := o1.lt; replace o2 : Own wx (B + 1) #[.int .i64 0, .int .i64 1, .int .i64 0] := Own.below (by repeat' (first | ((refine Own.new ?_); (focus (first | rfl | omega | (simp; done) | (simp; omega)))) | assumption | refine Own.alloc ?_ _ | refine Own.drew ?_ | (refine Own.far ?_ ?_ _; rotate_left; (focus (first | rfl | omega | (simp; done) | (simp; omega)))))) hbx; replace o2c := o2.cell; replace o2f := o2.thaw; replace o2z := o2.lt; replace o3 : Own wx (B + 1 + 1) #[.int .i64 0, .int .i64 0, .int .i64 1] := Own.below (by repeat' (first | ((refine Own.new ?_); (focus (first | rfl | omega | (simp; done) | (simp; omega)))) | assumption | refine Own.alloc ?_ _ | refine Own.drew ?_ | (refine Own.far ?_ ?_ _; rotate_left; (focus (first | rfl | omega | (simp; done) | (simp; omega)))))) hbx; replace o3c := o3.cell; replace o3f := o3.thaw; replace o3z := o3.lt; replace o4 : Own wx (wp.heap.size) #[.int .i64 1, .int .i64 1, .int .i64 1, .int .i64 1] := Own.below (by repeat' (first | ((refine Own.new ?_); (focus (first | rfl | omega | (simp; done) | (simp; omega)))) | assumption | refine Own.alloc ?_ _ | refine Own.drew ?_ | (refine Own.far ?_ ?_ _; rotate_left; (focus (first | rfl | omega | (simp; done) | (simp; omega)))))) hbx; replace o4c := o4.cell; replace o4f := o4.thaw; replace o4z := o4.lt; replace o5 : Own wx (wr.heap.size) #[.int .i64 1, .int .i64 0, .int .i64 0, .int .i64 (-2)] := Own.below (by repeat' (first | ((refine Own.new ?_); (focus (first | rfl | omega | (simp; done) | (simp; omega)))) | assumption | refine Own.alloc ?_ _ | refine Own.drew ?_ | (refine Own.far ?_ ?_ _; rotate_left; (focus (first | rfl | omega | (simp; done) | (simp; omega)))))) hbx; replace o5c := o5.cell; replace o5f := o5.thaw; replace o5z := o5.lt; replace hw : Below w.heap.size w wx := Below.hop (by repeat' (first | exact Below.refl _ _ | assumption | (refine Below.alloc ?_ ?_ _; rotate_left; (focus (first | rfl | omega | (simp; done) | (simp; omega)))) | (refine Below.setCell ?_ ?_ _; rotate_left; (focus (first | rfl | omega | (simp; done) | (simp; omega)))) | refine Below.drew ?_)) hbx; replace hz := hw.size; clear hbx))
      clear o2 o2c o2f o2z
      clear o3 o3c o3f o3z
      clear o4 o4c o4f o4z
      clear o5 o5c o5f o5z
      refine region_late 26 [] (by kernel_rfl) (by kernel_rfl) (by rfl) ?_
      apply Exists.intro
      refine ⟨fun v hv hne => ?_, fun u hu => ?_⟩
      · simp only [List.take_succ_cons, List.take_zero]
        have do1 := fun x => (o1.later (v := v) (T := []) (by simp) x).cell
        repeat (go_big_quiet_step ((first | (go_at_call 22; with_reducible exact lateB (law7_vec _ _ _ _)) | (go_at_call 46; with_reducible exact lateB (callv (plane_Compare 1 0 0 5 1 0 0 7 _) (congrArg (Value.int IntKind.i64) s_cmp1))) | (go_at_call 46; with_reducible exact lateB (callv (plane_Compare 1 0 0 5 0 9 9 9 _) (congrArg (Value.int IntKind.i64) s_cmp2))))))
        refine wpQuiet_nil ?_
        exact rfl
      · simp only [List.drop_succ_cons, List.drop_zero]
        refine late_mem (fun K hK => ?_)
        go_simp
        refine hK _ _ (Keeps.of_below hu) (fun u2 hu2 => ?_)
        clear hK K
        replace hw := Below.hop (Below.hop hw hu) hu2
        clear hu hu2
        refine late_nil ?_
        (try simp only [Act.put, List.setIfInBounds_toArray, List.set_cons_zero])
        go_wp2
        go_ret
        exact ⟨rfl, hw⟩
end Go.Proofs.Ythijnggeoinlfaa
