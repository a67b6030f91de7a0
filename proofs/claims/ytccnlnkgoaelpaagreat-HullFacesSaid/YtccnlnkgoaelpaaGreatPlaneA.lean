/- What the small functions of package plane, of its reference and of its laws return. The ints are any ints. -/
import Derived.Test.YtccnlnkgoaelpaaGreatProg
import Derived.WalkKit
import Derived.WalkSpells
import Derived.WalkLawsBesides
import Derived.Test.YtccnlnkgoaelpaaGreatBase
import Derived.Test.YtccnlnkgoaelpaaGreatPlain
namespace Go.Proofs.YtccnlnkgoaelpaaGreat
open Go.RowKit

set_option maxHeartbeats 400000 in
theorem plane_Sub (x y z x' y' z' : Int) (w : World) :
    Calls Tryz.prog 77 #[vV x y z, vV x' y' z'] w fun r w' => r = .returned (vSub ⟨x, y, z⟩ ⟨x', y', z'⟩).v ∧ Below w.heap.size w w' := by
  go_enter Tryz.func77, Tryz.ntmps77
  go_wp2
  refine bodyPost_ret (v := (vSub ⟨x, y, z⟩ ⟨x', y', z'⟩).v) (by simp [results, Tryz.results77, go_sem, vSub]) rfl ⟨rfl, (by repeat' (first | exact Below.refl _ _ | assumption | (refine Below.alloc ?_ ?_ _; rotate_left; (focus (first | rfl | omega | (simp; done) | (simp; omega)))) | (refine Below.setCell ?_ ?_ _; rotate_left; (focus (first | rfl | omega | (simp; done) | (simp; omega)))) | refine Below.drew ?_))⟩

set_option maxHeartbeats 400000 in
theorem plane_Dot (x y z x' y' z' : Int) (w : World) :
    Calls Tryz.prog 63 #[vV x y z, vV x' y' z'] w fun r w' => r = .returned (.int .i64 (vDot ⟨x, y, z⟩ ⟨x', y', z'⟩)) ∧ Below w.heap.size w w' := by
  go_enter Tryz.func63, Tryz.ntmps63
  go_wp2
  go_ret
  exact ⟨by simp [vDot], (by repeat' (first | exact Below.refl _ _ | assumption | (refine Below.alloc ?_ ?_ _; rotate_left; (focus (first | rfl | omega | (simp; done) | (simp; omega)))) | (refine Below.setCell ?_ ?_ _; rotate_left; (focus (first | rfl | omega | (simp; done) | (simp; omega)))) | refine Below.drew ?_))⟩

set_option maxHeartbeats 400000 in
theorem plane_Cross (x y z x' y' z' : Int) (w : World) :
    Calls Tryz.prog 64 #[vV x y z, vV x' y' z'] w fun r w' => r = .returned (vCross ⟨x, y, z⟩ ⟨x', y', z'⟩).v ∧ Below w.heap.size w w' := by
  go_enter Tryz.func64, Tryz.ntmps64
  go_wp2
  refine bodyPost_ret (v := (vCross ⟨x, y, z⟩ ⟨x', y', z'⟩).v) (by simp [results, Tryz.results64, go_sem, vCross]) rfl ⟨rfl, (by repeat' (first | exact Below.refl _ _ | assumption | (refine Below.alloc ?_ ?_ _; rotate_left; (focus (first | rfl | omega | (simp; done) | (simp; omega)))) | (refine Below.setCell ?_ ?_ _; rotate_left; (focus (first | rfl | omega | (simp; done) | (simp; omega)))) | refine Below.drew ?_))⟩

set_option maxHeartbeats 400000 in
theorem ref7_Sub (x y z x' y' z' : Int) (w : World) :
    Calls Tryz.prog 59 #[vV x y z, vV x' y' z'] w fun r w' => r = .returned (vSub ⟨x, y, z⟩ ⟨x', y', z'⟩).v ∧ Below w.heap.size w w' := by
  go_enter Tryz.func59, Tryz.ntmps59
  go_wp2
  refine bodyPost_ret (v := (vSub ⟨x, y, z⟩ ⟨x', y', z'⟩).v) (by simp [results, Tryz.results59, go_sem, vSub]) rfl ⟨rfl, (by repeat' (first | exact Below.refl _ _ | assumption | (refine Below.alloc ?_ ?_ _; rotate_left; (focus (first | rfl | omega | (simp; done) | (simp; omega)))) | (refine Below.setCell ?_ ?_ _; rotate_left; (focus (first | rfl | omega | (simp; done) | (simp; omega)))) | refine Below.drew ?_))⟩

set_option maxHeartbeats 400000 in
theorem ref7_Dot (x y z x' y' z' : Int) (w : World) :
    Calls Tryz.prog 60 #[vV x y z, vV x' y' z'] w fun r w' => r = .returned (.int .i64 (vDot ⟨x, y, z⟩ ⟨x', y', z'⟩)) ∧ Below w.heap.size w w' := by
  go_enter Tryz.func60, Tryz.ntmps60
  go_wp2
  go_ret
  exact ⟨by simp [vDot], (by repeat' (first | exact Below.refl _ _ | assumption | (refine Below.alloc ?_ ?_ _; rotate_left; (focus (first | rfl | omega | (simp; done) | (simp; omega)))) | (refine Below.setCell ?_ ?_ _; rotate_left; (focus (first | rfl | omega | (simp; done) | (simp; omega)))) | refine Below.drew ?_))⟩

set_option maxHeartbeats 400000 in
theorem ref7_Cross (x y z x' y' z' : Int) (w : World) :
    Calls Tryz.prog 58 #[vV x y z, vV x' y' z'] w fun r w' => r = .returned (vCross ⟨x, y, z⟩ ⟨x', y', z'⟩).v ∧ Below w.heap.size w w' := by
  go_enter Tryz.func58, Tryz.ntmps58
  go_wp2
  refine bodyPost_ret (v := (vCross ⟨x, y, z⟩ ⟨x', y', z'⟩).v) (by simp [results, Tryz.results58, go_sem, vCross]) rfl ⟨rfl, (by repeat' (first | exact Below.refl _ _ | assumption | (refine Below.alloc ?_ ?_ _; rotate_left; (focus (first | rfl | omega | (simp; done) | (simp; omega)))) | (refine Below.setCell ?_ ?_ _; rotate_left; (focus (first | rfl | omega | (simp; done) | (simp; omega)))) | refine Below.drew ?_))⟩

set_option maxHeartbeats 400000 in
theorem ref7_components (x y z : Int) (w : World) :
    Calls Tryz.prog 70 #[vV x y z] w fun r w' => r = .returned (vV x y z) ∧ Below w.heap.size w w' := by
  go_enter Tryz.func70, Tryz.ntmps70
  go_wp2
  refine bodyPost_ret (v := vV x y z) (by simp [results, Tryz.results70, go_sem]) rfl ⟨rfl, (by repeat' (first | exact Below.refl _ _ | assumption | (refine Below.alloc ?_ ?_ _; rotate_left; (focus (first | rfl | omega | (simp; done) | (simp; omega)))) | (refine Below.setCell ?_ ?_ _; rotate_left; (focus (first | rfl | omega | (simp; done) | (simp; omega)))) | refine Below.drew ?_))⟩

set_option maxHeartbeats 400000 in
theorem plane_absolute (x : Int) (hx : I64 x) (w : World) :
    Calls Tryz.prog 104 #[.int .i64 x] w fun r w' => r = .returned (.int .i64 (iabs x)) ∧ w = w' := by
  obtain ⟨h0, h1⟩ := hx
  go_enter Tryz.func104, Tryz.ntmps104
  go_wp2
  all_goals go_ret
  all_goals exact ⟨ret_int (by unfold iabs; (try unfold wrap64 at *); simp; (try unfold wrap64 at *); first | omega | (intro _; omega)), rfl⟩

set_option maxHeartbeats 400000 in
theorem ref7_absolute (x : Int) (w : World) :
    Calls Tryz.prog 88 #[.int .i64 x] w fun r w' => r = .returned (.int .i64 (iabs x)) ∧ w = w' := by
  go_enter Tryz.func88, Tryz.ntmps88
  go_wp2
  all_goals go_ret
  all_goals exact ⟨ret_int (by unfold iabs; split <;> first | rfl | omega), rfl⟩

set_option maxHeartbeats 400000 in
theorem plane_order (x y : Int) (w : World) :
    Calls Tryz.prog 56 #[.int .i64 x, .int .i64 y] w fun r w' => r = .returned (.int .i64 (ordI x y)) ∧ w = w' := by
  go_enter Tryz.func56, Tryz.ntmps56
  go_wp2
  all_goals go_ret
  all_goals exact ⟨ret_int (by unfold ordI; split <;> first | rfl | (split <;> first | rfl | omega) | omega), rfl⟩

end Go.Proofs.YtccnlnkgoaelpaaGreat
