/- What the small functions of package plane, of its reference and of its laws return. The ints are any ints. -/
import Derived.Test.YthijnggeoinlfaaProg
import Derived.WalkKit
import Derived.WalkSpells
import Derived.WalkLawsBesides
import Derived.Test.YthijnggeoinlfaaBase
import Derived.Test.YthijnggeoinlfaaPlain
namespace Go.Proofs.Ythijnggeoinlfaa
open Go.RowKit

set_option maxHeartbeats 400000 in
theorem plane_Add (x y z x' y' z' : Int) (w : World) :
    Calls Try.prog 27 #[vV x y z, vV x' y' z'] w fun r w' => r = .returned (vAdd ⟨x, y, z⟩ ⟨x', y', z'⟩).v ∧ Below w.heap.size w w' := by
  go_enter Try.func27, Try.ntmps27
  go_wp2
  refine bodyPost_ret (v := (vAdd ⟨x, y, z⟩ ⟨x', y', z'⟩).v) (by simp [results, Try.results27, go_sem, vAdd]) rfl ⟨rfl, (by repeat' (first | exact Below.refl _ _ | assumption | (refine Below.alloc ?_ ?_ _; rotate_left; (focus (first | rfl | omega | (simp; done) | (simp; omega)))) | (refine Below.setCell ?_ ?_ _; rotate_left; (focus (first | rfl | omega | (simp; done) | (simp; omega)))) | refine Below.drew ?_))⟩

set_option maxHeartbeats 400000 in
theorem plane_Sub (x y z x' y' z' : Int) (w : World) :
    Calls Try.prog 28 #[vV x y z, vV x' y' z'] w fun r w' => r = .returned (vSub ⟨x, y, z⟩ ⟨x', y', z'⟩).v ∧ Below w.heap.size w w' := by
  go_enter Try.func28, Try.ntmps28
  go_wp2
  refine bodyPost_ret (v := (vSub ⟨x, y, z⟩ ⟨x', y', z'⟩).v) (by simp [results, Try.results28, go_sem, vSub]) rfl ⟨rfl, (by repeat' (first | exact Below.refl _ _ | assumption | (refine Below.alloc ?_ ?_ _; rotate_left; (focus (first | rfl | omega | (simp; done) | (simp; omega)))) | (refine Below.setCell ?_ ?_ _; rotate_left; (focus (first | rfl | omega | (simp; done) | (simp; omega)))) | refine Below.drew ?_))⟩

set_option maxHeartbeats 400000 in
theorem plane_Dot (x y z x' y' z' : Int) (w : World) :
    Calls Try.prog 29 #[vV x y z, vV x' y' z'] w fun r w' => r = .returned (.int .i64 (vDot ⟨x, y, z⟩ ⟨x', y', z'⟩)) ∧ Below w.heap.size w w' := by
  go_enter Try.func29, Try.ntmps29
  go_wp2
  go_ret
  exact ⟨by simp [vDot], (by repeat' (first | exact Below.refl _ _ | assumption | (refine Below.alloc ?_ ?_ _; rotate_left; (focus (first | rfl | omega | (simp; done) | (simp; omega)))) | (refine Below.setCell ?_ ?_ _; rotate_left; (focus (first | rfl | omega | (simp; done) | (simp; omega)))) | refine Below.drew ?_))⟩

set_option maxHeartbeats 400000 in
theorem plane_Cross (x y z x' y' z' : Int) (w : World) :
    Calls Try.prog 31 #[vV x y z, vV x' y' z'] w fun r w' => r = .returned (vCross ⟨x, y, z⟩ ⟨x', y', z'⟩).v ∧ Below w.heap.size w w' := by
  go_enter Try.func31, Try.ntmps31
  go_wp2
  refine bodyPost_ret (v := (vCross ⟨x, y, z⟩ ⟨x', y', z'⟩).v) (by simp [results, Try.results31, go_sem, vCross]) rfl ⟨rfl, (by repeat' (first | exact Below.refl _ _ | assumption | (refine Below.alloc ?_ ?_ _; rotate_left; (focus (first | rfl | omega | (simp; done) | (simp; omega)))) | (refine Below.setCell ?_ ?_ _; rotate_left; (focus (first | rfl | omega | (simp; done) | (simp; omega)))) | refine Below.drew ?_))⟩

set_option maxHeartbeats 400000 in
theorem ref7_Add (x y z x' y' z' : Int) (w : World) :
    Calls Try.prog 19 #[vV x y z, vV x' y' z'] w fun r w' => r = .returned (vAdd ⟨x, y, z⟩ ⟨x', y', z'⟩).v ∧ Below w.heap.size w w' := by
  go_enter Try.func19, Try.ntmps19
  go_wp2
  refine bodyPost_ret (v := (vAdd ⟨x, y, z⟩ ⟨x', y', z'⟩).v) (by simp [results, Try.results19, go_sem, vAdd]) rfl ⟨rfl, (by repeat' (first | exact Below.refl _ _ | assumption | (refine Below.alloc ?_ ?_ _; rotate_left; (focus (first | rfl | omega | (simp; done) | (simp; omega)))) | (refine Below.setCell ?_ ?_ _; rotate_left; (focus (first | rfl | omega | (simp; done) | (simp; omega)))) | refine Below.drew ?_))⟩

set_option maxHeartbeats 400000 in
theorem ref7_Sub (x y z x' y' z' : Int) (w : World) :
    Calls Try.prog 18 #[vV x y z, vV x' y' z'] w fun r w' => r = .returned (vSub ⟨x, y, z⟩ ⟨x', y', z'⟩).v ∧ Below w.heap.size w w' := by
  go_enter Try.func18, Try.ntmps18
  go_wp2
  refine bodyPost_ret (v := (vSub ⟨x, y, z⟩ ⟨x', y', z'⟩).v) (by simp [results, Try.results18, go_sem, vSub]) rfl ⟨rfl, (by repeat' (first | exact Below.refl _ _ | assumption | (refine Below.alloc ?_ ?_ _; rotate_left; (focus (first | rfl | omega | (simp; done) | (simp; omega)))) | (refine Below.setCell ?_ ?_ _; rotate_left; (focus (first | rfl | omega | (simp; done) | (simp; omega)))) | refine Below.drew ?_))⟩

set_option maxHeartbeats 400000 in
theorem ref7_Dot (x y z x' y' z' : Int) (w : World) :
    Calls Try.prog 30 #[vV x y z, vV x' y' z'] w fun r w' => r = .returned (.int .i64 (vDot ⟨x, y, z⟩ ⟨x', y', z'⟩)) ∧ Below w.heap.size w w' := by
  go_enter Try.func30, Try.ntmps30
  go_wp2
  go_ret
  exact ⟨by simp [vDot], (by repeat' (first | exact Below.refl _ _ | assumption | (refine Below.alloc ?_ ?_ _; rotate_left; (focus (first | rfl | omega | (simp; done) | (simp; omega)))) | (refine Below.setCell ?_ ?_ _; rotate_left; (focus (first | rfl | omega | (simp; done) | (simp; omega)))) | refine Below.drew ?_))⟩

set_option maxHeartbeats 400000 in
theorem ref7_Cross (x y z x' y' z' : Int) (w : World) :
    Calls Try.prog 32 #[vV x y z, vV x' y' z'] w fun r w' => r = .returned (vCross ⟨x, y, z⟩ ⟨x', y', z'⟩).v ∧ Below w.heap.size w w' := by
  go_enter Try.func32, Try.ntmps32
  go_wp2
  refine bodyPost_ret (v := (vCross ⟨x, y, z⟩ ⟨x', y', z'⟩).v) (by simp [results, Try.results32, go_sem, vCross]) rfl ⟨rfl, (by repeat' (first | exact Below.refl _ _ | assumption | (refine Below.alloc ?_ ?_ _; rotate_left; (focus (first | rfl | omega | (simp; done) | (simp; omega)))) | (refine Below.setCell ?_ ?_ _; rotate_left; (focus (first | rfl | omega | (simp; done) | (simp; omega)))) | refine Below.drew ?_))⟩

set_option maxHeartbeats 400000 in
theorem law7_vec (x y z : Int) (w : World) :
    Calls Try.prog 22 #[.int .i64 x, .int .i64 y, .int .i64 z] w fun r w' => r = .returned (vV x y z) ∧ Below w.heap.size w w' := by
  go_enter Try.func22, Try.ntmps22
  go_wp2
  refine bodyPost_ret (v := vV x y z) (by simp [results, Try.results22, go_sem]) rfl ⟨rfl, (by repeat' (first | exact Below.refl _ _ | assumption | (refine Below.alloc ?_ ?_ _; rotate_left; (focus (first | rfl | omega | (simp; done) | (simp; omega)))) | (refine Below.setCell ?_ ?_ _; rotate_left; (focus (first | rfl | omega | (simp; done) | (simp; omega)))) | refine Below.drew ?_))⟩

set_option maxHeartbeats 400000 in
theorem ref7_components (x y z : Int) (w : World) :
    Calls Try.prog 70 #[vV x y z] w fun r w' => r = .returned (vV x y z) ∧ Below w.heap.size w w' := by
  go_enter Try.func70, Try.ntmps70
  go_wp2
  refine bodyPost_ret (v := vV x y z) (by simp [results, Try.results70, go_sem]) rfl ⟨rfl, (by repeat' (first | exact Below.refl _ _ | assumption | (refine Below.alloc ?_ ?_ _; rotate_left; (focus (first | rfl | omega | (simp; done) | (simp; omega)))) | (refine Below.setCell ?_ ?_ _; rotate_left; (focus (first | rfl | omega | (simp; done) | (simp; omega)))) | refine Below.drew ?_))⟩

set_option maxHeartbeats 400000 in
theorem plane_absolute (x : Int) (hx : I64 x) (w : World) :
    Calls Try.prog 71 #[.int .i64 x] w fun r w' => r = .returned (.int .i64 (iabs x)) ∧ w = w' := by
  obtain ⟨h0, h1⟩ := hx
  go_enter Try.func71, Try.ntmps71
  go_wp2
  all_goals go_ret
  all_goals exact ⟨ret_int (by unfold iabs; (try unfold wrap64 at *); simp; (try unfold wrap64 at *); first | omega | (intro _; omega)), rfl⟩

set_option maxHeartbeats 400000 in
theorem ref7_absolute (x : Int) (w : World) :
    Calls Try.prog 72 #[.int .i64 x] w fun r w' => r = .returned (.int .i64 (iabs x)) ∧ w = w' := by
  go_enter Try.func72, Try.ntmps72
  go_wp2
  all_goals go_ret
  all_goals exact ⟨ret_int (by unfold iabs; split <;> first | rfl | omega), rfl⟩

set_option maxHeartbeats 400000 in
theorem plane_order (x y : Int) (w : World) :
    Calls Try.prog 74 #[.int .i64 x, .int .i64 y] w fun r w' => r = .returned (.int .i64 (ordI x y)) ∧ w = w' := by
  go_enter Try.func74, Try.ntmps74
  go_wp2
  all_goals go_ret
  all_goals exact ⟨ret_int (by unfold ordI; split <;> first | rfl | (split <;> first | rfl | omega) | omega), rfl⟩

set_option maxHeartbeats 400000 in
theorem law7_side (x : Int) (w : World) :
    Calls Try.prog 48 #[.int .i64 x] w fun r w' => r = .returned (.int .i64 (sgn x)) ∧ w = w' := by
  go_enter Try.func48, Try.ntmps48
  go_wp2
  all_goals go_ret
  all_goals exact ⟨ret_int (by unfold sgn; split <;> omega), rfl⟩

end Go.Proofs.Ythijnggeoinlfaa
