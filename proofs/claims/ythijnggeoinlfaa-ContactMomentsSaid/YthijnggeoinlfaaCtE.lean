/- What both Wrench return, and axes and Has of the reference of package contact. The components are int64. -/
import Derived.Test.YthijnggeoinlfaaCtD
import Derived.Test.YthijnggeoinlfaaPlaneA
namespace Go.Proofs.Ythijnggeoinlfaa
open Go.RowKit

set_option maxRecDepth 100000 in
set_option maxHeartbeats 1000000 in
theorem contact_Wrench (x y z f0 f1 f2 : Int) (w : World) :
    Calls Try.prog 62 #[vV x y z, vV f0 f1 f2] w fun r w' => ∃ g, r = .returned (.slice (some ⟨g, 0, none⟩) 6 6) ∧ w.heap.size ≤ g ∧ Below w.heap.size w w' ∧
      Own w' g #[.int .i64 f0, .int .i64 f1, .int .i64 f2, .int .i64 (vCross ⟨x, y, z⟩ ⟨f0, f1, f2⟩).x, .int .i64 (vCross ⟨x, y, z⟩ ⟨f0, f1, f2⟩).y, .int .i64 (vCross ⟨x, y, z⟩ ⟨f0, f1, f2⟩).z] := by
  obtain ⟨M, hM⟩ : ∃ M, vCross ⟨x, y, z⟩ ⟨f0, f1, f2⟩ = M := ⟨_, rfl⟩
  rw [hM]
  have HM := Lib.hid (congrArg V3.v hM)
  clear hM
  go_enter Try.func62, Try.ntmps62
  go_wp2_with fail
  refine Calls.mono (callv (plane_Cross x y z f0 f1 f2 _) HM.out) ?_
  rintro e w1 ⟨rfl, hb1⟩
  have o1 : Own w1 (w.heap.size) #[.int .i64 x, .int .i64 y, .int .i64 z] := Own.below (by repeat' (first | ((refine Own.new ?_); (focus (first | rfl | omega | (simp; done) | (simp; omega)))) | assumption | refine Own.alloc ?_ _ | refine Own.drew ?_ | (refine Own.far ?_ ?_ _; rotate_left; (focus (first | rfl | omega | (simp; done) | (simp; omega)))))) hb1
  have o1c := o1.cell
  have o1f := o1.thaw
  have o1z := o1.lt
  have p1 : Own w1 (w.heap.size + 1) #[.int .i64 f0, .int .i64 f1, .int .i64 f2] := Own.below (by repeat' (first | ((refine Own.new ?_); (focus (first | rfl | omega | (simp; done) | (simp; omega)))) | assumption | refine Own.alloc ?_ _ | refine Own.drew ?_ | (refine Own.far ?_ ?_ _; rotate_left; (focus (first | rfl | omega | (simp; done) | (simp; omega)))))) hb1
  have p1c := p1.cell
  have p1f := p1.thaw
  have p1z := p1.lt
  have hs1 := hb1.size
  (try simp at hs1)
  have hw1 : Below w.heap.size w w1 := Below.hop (by repeat' (first | exact Below.refl _ _ | assumption | (refine Below.alloc ?_ ?_ _; rotate_left; (focus (first | rfl | omega | (simp; done) | (simp; omega)))) | (refine Below.setCell ?_ ?_ _; rotate_left; (focus (first | rfl | omega | (simp; done) | (simp; omega)))) | refine Below.drew ?_)) hb1
  have hz1 := hw1.size
  clear hb1
  go_wp2
  go_ret
  exact ⟨_, rfl, by first | omega | (simp; omega), (by repeat' (first | exact Below.refl _ _ | assumption | (refine Below.alloc ?_ ?_ _; rotate_left; (focus (first | rfl | omega | (simp; done) | (simp; omega)))) | (refine Below.setCell ?_ ?_ _; rotate_left; (focus (first | rfl | omega | (simp; done) | (simp; omega)))) | refine Below.drew ?_)), Own.new (by simp)⟩
set_option maxRecDepth 100000 in
set_option maxHeartbeats 1000000 in
theorem ref25_Wrench (x y z f0 f1 f2 : Int) (w : World) :
    Calls Try.prog 63 #[vV x y z, vV f0 f1 f2] w fun r w' => ∃ g, r = .returned (.slice (some ⟨g, 0, none⟩) 6 6) ∧ w.heap.size ≤ g ∧ Below w.heap.size w w' ∧
      Own w' g #[.int .i64 f0, .int .i64 f1, .int .i64 f2, .int .i64 (vCross ⟨x, y, z⟩ ⟨f0, f1, f2⟩).x, .int .i64 (vCross ⟨x, y, z⟩ ⟨f0, f1, f2⟩).y, .int .i64 (vCross ⟨x, y, z⟩ ⟨f0, f1, f2⟩).z] := by
  obtain ⟨M, hM⟩ : ∃ M, vCross ⟨x, y, z⟩ ⟨f0, f1, f2⟩ = M := ⟨_, rfl⟩
  rw [hM]
  have HM := Lib.hid (congrArg V3.v hM)
  clear hM
  go_enter Try.func63, Try.ntmps63
  go_wp2_with fail
  refine Calls.mono (callv (ref7_Cross x y z f0 f1 f2 _) HM.out) ?_
  rintro e w1 ⟨rfl, hb1⟩
  have o1 : Own w1 (w.heap.size) #[.int .i64 x, .int .i64 y, .int .i64 z] := Own.below (by repeat' (first | ((refine Own.new ?_); (focus (first | rfl | omega | (simp; done) | (simp; omega)))) | assumption | refine Own.alloc ?_ _ | refine Own.drew ?_ | (refine Own.far ?_ ?_ _; rotate_left; (focus (first | rfl | omega | (simp; done) | (simp; omega)))))) hb1
  have o1c := o1.cell
  have o1f := o1.thaw
  have o1z := o1.lt
  have p1 : Own w1 (w.heap.size + 1) #[.int .i64 f0, .int .i64 f1, .int .i64 f2] := Own.below (by repeat' (first | ((refine Own.new ?_); (focus (first | rfl | omega | (simp; done) | (simp; omega)))) | assumption | refine Own.alloc ?_ _ | refine Own.drew ?_ | (refine Own.far ?_ ?_ _; rotate_left; (focus (first | rfl | omega | (simp; done) | (simp; omega)))))) hb1
  have p1c := p1.cell
  have p1f := p1.thaw
  have p1z := p1.lt
  have hs1 := hb1.size
  (try simp at hs1)
  have hw1 : Below w.heap.size w w1 := Below.hop (by repeat' (first | exact Below.refl _ _ | assumption | (refine Below.alloc ?_ ?_ _; rotate_left; (focus (first | rfl | omega | (simp; done) | (simp; omega)))) | (refine Below.setCell ?_ ?_ _; rotate_left; (focus (first | rfl | omega | (simp; done) | (simp; omega)))) | refine Below.drew ?_)) hb1
  have hz1 := hw1.size
  clear hb1
  go_wp2
  go_ret
  exact ⟨_, rfl, by first | omega | (simp; omega), (by repeat' (first | exact Below.refl _ _ | assumption | (refine Below.alloc ?_ ?_ _; rotate_left; (focus (first | rfl | omega | (simp; done) | (simp; omega)))) | (refine Below.setCell ?_ ?_ _; rotate_left; (focus (first | rfl | omega | (simp; done) | (simp; omega)))) | refine Below.drew ?_)), Own.new (by simp)⟩
/-- The axes of a valid contact. -/
def axA (n : V3) : V3 := if n.x = 0 then ⟨1, 0, 0⟩ else ⟨0, 1, 0⟩
def axB (n : V3) : V3 := if n.x = 0 then (if n.y = 0 then ⟨0, 1, 0⟩ else ⟨0, 0, 1⟩) else ⟨0, 0, 1⟩
set_option maxRecDepth 100000 in
set_option maxHeartbeats 400000 in
theorem axes_x (a0 a1 a2 n0 n1 n2 mn md : Int) (h : ¬ n0 = 0) (w : World) :
    Calls Try.prog 78 #[vC a0 a1 a2 n0 n1 n2 mn md] w fun r w' => r = .returned (.agg #[.int .i64 0, .int .i64 1, .int .i64 0, .int .i64 0, .int .i64 0, .int .i64 1]) ∧ Below w.heap.size w w' := by
  go_enter Try.func78, Try.ntmps78
  go_wp2
  refine bodyPost_ret (v := .agg #[.int .i64 0, .int .i64 1, .int .i64 0, .int .i64 0, .int .i64 0, .int .i64 1]) (by simp [results, Try.results78, go_sem]) rfl ⟨rfl, (by repeat' (first | exact Below.refl _ _ | assumption | (refine Below.alloc ?_ ?_ _; rotate_left; (focus (first | rfl | omega | (simp; done) | (simp; omega)))) | (refine Below.setCell ?_ ?_ _; rotate_left; (focus (first | rfl | omega | (simp; done) | (simp; omega)))) | refine Below.drew ?_))⟩
set_option maxRecDepth 100000 in
set_option maxHeartbeats 400000 in
theorem axes_y (a0 a1 a2 n0 n1 n2 mn md : Int) (h0 : n0 = 0) (h : ¬ n1 = 0) (w : World) :
    Calls Try.prog 78 #[vC a0 a1 a2 n0 n1 n2 mn md] w fun r w' => r = .returned (.agg #[.int .i64 1, .int .i64 0, .int .i64 0, .int .i64 0, .int .i64 0, .int .i64 1]) ∧ Below w.heap.size w w' := by
  go_enter Try.func78, Try.ntmps78
  go_wp2
  refine bodyPost_ret (v := .agg #[.int .i64 1, .int .i64 0, .int .i64 0, .int .i64 0, .int .i64 0, .int .i64 1]) (by simp [results, Try.results78, go_sem]) rfl ⟨rfl, (by repeat' (first | exact Below.refl _ _ | assumption | (refine Below.alloc ?_ ?_ _; rotate_left; (focus (first | rfl | omega | (simp; done) | (simp; omega)))) | (refine Below.setCell ?_ ?_ _; rotate_left; (focus (first | rfl | omega | (simp; done) | (simp; omega)))) | refine Below.drew ?_))⟩
set_option maxRecDepth 100000 in
set_option maxHeartbeats 400000 in
theorem axes_z (a0 a1 a2 n0 n1 n2 mn md : Int) (h0 : n0 = 0) (h : n1 = 0) (w : World) :
    Calls Try.prog 78 #[vC a0 a1 a2 n0 n1 n2 mn md] w fun r w' => r = .returned (.agg #[.int .i64 1, .int .i64 0, .int .i64 0, .int .i64 0, .int .i64 1, .int .i64 0]) ∧ Below w.heap.size w w' := by
  go_enter Try.func78, Try.ntmps78
  go_wp2
  refine bodyPost_ret (v := .agg #[.int .i64 1, .int .i64 0, .int .i64 0, .int .i64 0, .int .i64 1, .int .i64 0]) (by simp [results, Try.results78, go_sem]) rfl ⟨rfl, (by repeat' (first | exact Below.refl _ _ | assumption | (refine Below.alloc ?_ ?_ _; rotate_left; (focus (first | rfl | omega | (simp; done) | (simp; omega)))) | (refine Below.setCell ?_ ?_ _; rotate_left; (focus (first | rfl | omega | (simp; done) | (simp; omega)))) | refine Below.drew ?_))⟩
theorem ref25_axes (a0 a1 a2 n0 n1 n2 mn md : Int) (w : World) :
    Calls Try.prog 78 #[vC a0 a1 a2 n0 n1 n2 mn md] w fun r w' => r = .returned (.agg #[.int .i64 (axA ⟨n0, n1, n2⟩).x, .int .i64 (axA ⟨n0, n1, n2⟩).y, .int .i64 (axA ⟨n0, n1, n2⟩).z, .int .i64 (axB ⟨n0, n1, n2⟩).x, .int .i64 (axB ⟨n0, n1, n2⟩).y, .int .i64 (axB ⟨n0, n1, n2⟩).z]) ∧ Below w.heap.size w w' := by
  by_cases h0 : n0 = 0
  · by_cases h1 : n1 = 0
    · have eA : axA ⟨n0, n1, n2⟩ = ⟨1, 0, 0⟩ := by unfold axA; rw [if_pos h0]
      have eB : axB ⟨n0, n1, n2⟩ = ⟨0, 1, 0⟩ := by unfold axB; rw [if_pos h0, if_pos h1]
      rw [eA, eB]; exact axes_z a0 a1 a2 n0 n1 n2 mn md h0 h1 w
    · have eA : axA ⟨n0, n1, n2⟩ = ⟨1, 0, 0⟩ := by unfold axA; rw [if_pos h0]
      have eB : axB ⟨n0, n1, n2⟩ = ⟨0, 0, 1⟩ := by unfold axB; rw [if_pos h0, if_neg h1]
      rw [eA, eB]; exact axes_y a0 a1 a2 n0 n1 n2 mn md h0 h1 w
  · have eA : axA ⟨n0, n1, n2⟩ = ⟨0, 1, 0⟩ := by unfold axA; rw [if_neg h0]
    have eB : axB ⟨n0, n1, n2⟩ = ⟨0, 0, 1⟩ := by unfold axB; rw [if_neg h0]
    rw [eA, eB]; exact axes_x a0 a1 a2 n0 n1 n2 mn md h0 w

/-- How far a force lies sideways, by the axes. -/
theorem side_axes {n f : V3} (hu : cUnit n = true) (hg : (ng f.x && (ng f.y && ng f.z)) = true) :
    ∃ s t : Int, vDot f (axA n) = s ∧ vDot f (axB n) = t ∧ (-2147483648 ≤ s ∧ s ≤ 2147483648) ∧ (-2147483648 ≤ t ∧ t ≤ 2147483648) ∧ cSide n f = (if s < -s then -s else s) + (if t < -t then -t else t) := by
  unfold ng at hg
  simp only [Bool.and_eq_true, decide_eq_true_eq] at hg
  have w0 : wrap64 0 = 0 := wr_zero
  have wx : wrap64 f.x = f.x := wr_id ⟨by omega, by omega⟩
  have wy : wrap64 f.y = f.y := wr_id ⟨by omega, by omega⟩
  have wz : wrap64 f.z = f.z := wr_id ⟨by omega, by omega⟩
  rcases unit_cases hu with rfl | rfl | rfl | rfl | rfl | rfl
  · exact ⟨f.y, f.z, by simp [vDot, axA, w0, wy], by simp [vDot, axB, w0, wz], by omega, by omega, by simp [cSide, sideK, sd1]⟩
  · exact ⟨f.y, f.z, by simp [vDot, axA, w0, wy], by simp [vDot, axB, w0, wz], by omega, by omega, by simp [cSide, sideK, sd1]⟩
  · exact ⟨f.x, f.z, by simp [vDot, axA, w0, wx], by simp [vDot, axB, w0, wz], by omega, by omega, by simp [cSide, sideK, sd1]⟩
  · exact ⟨f.x, f.z, by simp [vDot, axA, w0, wx], by simp [vDot, axB, w0, wz], by omega, by omega, by simp [cSide, sideK, sd1]⟩
  · exact ⟨f.x, f.y, by simp [vDot, axA, w0, wx], by simp [vDot, axB, w0, wy], by omega, by omega, by simp [cSide, sideK, sd1]⟩
  · exact ⟨f.x, f.y, by simp [vDot, axA, w0, wx], by simp [vDot, axB, w0, wy], by omega, by omega, by simp [cSide, sideK, sd1]⟩
end Go.Proofs.Ythijnggeoinlfaa
