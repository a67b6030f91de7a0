/- What the small functions of package plane, of its reference and of its laws return. The ints are any ints. -/
import Derived.Test.YtccnlnkgoaelpaaProg
import Derived.WalkKit
import Derived.WalkSpells
import Derived.WalkLawsBesides
import Derived.Test.YtccnlnkgoaelpaaBase
import Derived.Test.YtccnlnkgoaelpaaPlain
namespace Go.Proofs.Ytccnlnkgoaelpaa
open Go.RowKit

set_option maxHeartbeats 400000 in
theorem plane_Add (x y z x' y' z' : Int) (w : World) :
    Calls Try.prog 22 #[vV x y z, vV x' y' z'] w fun r w' => r = .returned (vAdd ⟨x, y, z⟩ ⟨x', y', z'⟩).v ∧ Below w.heap.size w w' := by
  go_enter Try.func22, Try.ntmps22
  go_wp2
  refine bodyPost_ret (v := (vAdd ⟨x, y, z⟩ ⟨x', y', z'⟩).v) (by simp [results, Try.results22, go_sem, vAdd]) rfl ⟨rfl, (by repeat' (first | exact Below.refl _ _ | assumption | (refine Below.alloc ?_ ?_ _; rotate_left; (focus (first | rfl | omega | (simp; done) | (simp; omega)))) | (refine Below.setCell ?_ ?_ _; rotate_left; (focus (first | rfl | omega | (simp; done) | (simp; omega)))) | refine Below.drew ?_))⟩

set_option maxHeartbeats 400000 in
theorem plane_Sub (x y z x' y' z' : Int) (w : World) :
    Calls Try.prog 13 #[vV x y z, vV x' y' z'] w fun r w' => r = .returned (vSub ⟨x, y, z⟩ ⟨x', y', z'⟩).v ∧ Below w.heap.size w w' := by
  go_enter Try.func13, Try.ntmps13
  go_wp2
  refine bodyPost_ret (v := (vSub ⟨x, y, z⟩ ⟨x', y', z'⟩).v) (by simp [results, Try.results13, go_sem, vSub]) rfl ⟨rfl, (by repeat' (first | exact Below.refl _ _ | assumption | (refine Below.alloc ?_ ?_ _; rotate_left; (focus (first | rfl | omega | (simp; done) | (simp; omega)))) | (refine Below.setCell ?_ ?_ _; rotate_left; (focus (first | rfl | omega | (simp; done) | (simp; omega)))) | refine Below.drew ?_))⟩

set_option maxHeartbeats 400000 in
theorem plane_Dot (x y z x' y' z' : Int) (w : World) :
    Calls Try.prog 23 #[vV x y z, vV x' y' z'] w fun r w' => r = .returned (.int .i64 (vDot ⟨x, y, z⟩ ⟨x', y', z'⟩)) ∧ Below w.heap.size w w' := by
  go_enter Try.func23, Try.ntmps23
  go_wp2
  go_ret
  exact ⟨by simp [vDot], (by repeat' (first | exact Below.refl _ _ | assumption | (refine Below.alloc ?_ ?_ _; rotate_left; (focus (first | rfl | omega | (simp; done) | (simp; omega)))) | (refine Below.setCell ?_ ?_ _; rotate_left; (focus (first | rfl | omega | (simp; done) | (simp; omega)))) | refine Below.drew ?_))⟩

set_option maxHeartbeats 400000 in
theorem plane_Cross (x y z x' y' z' : Int) (w : World) :
    Calls Try.prog 12 #[vV x y z, vV x' y' z'] w fun r w' => r = .returned (vCross ⟨x, y, z⟩ ⟨x', y', z'⟩).v ∧ Below w.heap.size w w' := by
  go_enter Try.func12, Try.ntmps12
  go_wp2
  refine bodyPost_ret (v := (vCross ⟨x, y, z⟩ ⟨x', y', z'⟩).v) (by simp [results, Try.results12, go_sem, vCross]) rfl ⟨rfl, (by repeat' (first | exact Below.refl _ _ | assumption | (refine Below.alloc ?_ ?_ _; rotate_left; (focus (first | rfl | omega | (simp; done) | (simp; omega)))) | (refine Below.setCell ?_ ?_ _; rotate_left; (focus (first | rfl | omega | (simp; done) | (simp; omega)))) | refine Below.drew ?_))⟩

set_option maxHeartbeats 400000 in
theorem ref7_Sub (x y z x' y' z' : Int) (w : World) :
    Calls Try.prog 64 #[vV x y z, vV x' y' z'] w fun r w' => r = .returned (vSub ⟨x, y, z⟩ ⟨x', y', z'⟩).v ∧ Below w.heap.size w w' := by
  go_enter Try.func64, Try.ntmps64
  go_wp2
  refine bodyPost_ret (v := (vSub ⟨x, y, z⟩ ⟨x', y', z'⟩).v) (by simp [results, Try.results64, go_sem, vSub]) rfl ⟨rfl, (by repeat' (first | exact Below.refl _ _ | assumption | (refine Below.alloc ?_ ?_ _; rotate_left; (focus (first | rfl | omega | (simp; done) | (simp; omega)))) | (refine Below.setCell ?_ ?_ _; rotate_left; (focus (first | rfl | omega | (simp; done) | (simp; omega)))) | refine Below.drew ?_))⟩

set_option maxHeartbeats 400000 in
theorem ref7_Dot (x y z x' y' z' : Int) (w : World) :
    Calls Try.prog 65 #[vV x y z, vV x' y' z'] w fun r w' => r = .returned (.int .i64 (vDot ⟨x, y, z⟩ ⟨x', y', z'⟩)) ∧ Below w.heap.size w w' := by
  go_enter Try.func65, Try.ntmps65
  go_wp2
  go_ret
  exact ⟨by simp [vDot], (by repeat' (first | exact Below.refl _ _ | assumption | (refine Below.alloc ?_ ?_ _; rotate_left; (focus (first | rfl | omega | (simp; done) | (simp; omega)))) | (refine Below.setCell ?_ ?_ _; rotate_left; (focus (first | rfl | omega | (simp; done) | (simp; omega)))) | refine Below.drew ?_))⟩

set_option maxHeartbeats 400000 in
theorem ref7_Cross (x y z x' y' z' : Int) (w : World) :
    Calls Try.prog 63 #[vV x y z, vV x' y' z'] w fun r w' => r = .returned (vCross ⟨x, y, z⟩ ⟨x', y', z'⟩).v ∧ Below w.heap.size w w' := by
  go_enter Try.func63, Try.ntmps63
  go_wp2
  refine bodyPost_ret (v := (vCross ⟨x, y, z⟩ ⟨x', y', z'⟩).v) (by simp [results, Try.results63, go_sem, vCross]) rfl ⟨rfl, (by repeat' (first | exact Below.refl _ _ | assumption | (refine Below.alloc ?_ ?_ _; rotate_left; (focus (first | rfl | omega | (simp; done) | (simp; omega)))) | (refine Below.setCell ?_ ?_ _; rotate_left; (focus (first | rfl | omega | (simp; done) | (simp; omega)))) | refine Below.drew ?_))⟩

set_option maxHeartbeats 400000 in
theorem ref7_components (x y z : Int) (w : World) :
    Calls Try.prog 81 #[vV x y z] w fun r w' => r = .returned (vV x y z) ∧ Below w.heap.size w w' := by
  go_enter Try.func81, Try.ntmps81
  go_wp2
  refine bodyPost_ret (v := vV x y z) (by simp [results, Try.results81, go_sem]) rfl ⟨rfl, (by repeat' (first | exact Below.refl _ _ | assumption | (refine Below.alloc ?_ ?_ _; rotate_left; (focus (first | rfl | omega | (simp; done) | (simp; omega)))) | (refine Below.setCell ?_ ?_ _; rotate_left; (focus (first | rfl | omega | (simp; done) | (simp; omega)))) | refine Below.drew ?_))⟩

set_option maxHeartbeats 400000 in
theorem plane_absolute (x : Int) (hx : I64 x) (w : World) :
    Calls Try.prog 56 #[.int .i64 x] w fun r w' => r = .returned (.int .i64 (iabs x)) ∧ w = w' := by
  obtain ⟨h0, h1⟩ := hx
  go_enter Try.func56, Try.ntmps56
  go_wp2
  all_goals go_ret
  all_goals exact ⟨ret_int (by unfold iabs; (try unfold wrap64 at *); simp; (try unfold wrap64 at *); first | omega | (intro _; omega)), rfl⟩

set_option maxHeartbeats 400000 in
theorem ref7_absolute (x : Int) (w : World) :
    Calls Try.prog 82 #[.int .i64 x] w fun r w' => r = .returned (.int .i64 (iabs x)) ∧ w = w' := by
  go_enter Try.func82, Try.ntmps82
  go_wp2
  all_goals go_ret
  all_goals exact ⟨ret_int (by unfold iabs; split <;> first | rfl | omega), rfl⟩

set_option maxHeartbeats 400000 in
theorem plane_order (x y : Int) (w : World) :
    Calls Try.prog 34 #[.int .i64 x, .int .i64 y] w fun r w' => r = .returned (.int .i64 (ordI x y)) ∧ w = w' := by
  go_enter Try.func34, Try.ntmps34
  go_wp2
  all_goals go_ret
  all_goals exact ⟨ret_int (by unfold ordI; split <;> first | rfl | (split <;> first | rfl | omega) | omega), rfl⟩

end Go.Proofs.Ytccnlnkgoaelpaa
