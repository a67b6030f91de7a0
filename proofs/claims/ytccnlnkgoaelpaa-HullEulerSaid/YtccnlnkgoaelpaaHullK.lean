/- Package hull: planes as keys of a map. -/
import Derived.DeepKeys5
import Derived.Maps.OwnIn
import Derived.Test.YtccnlnkgoaelpaaHullI
import Derived.Test.YtccnlnkgoaelpaaChecked
namespace Go.Proofs.Ytccnlnkgoaelpaa
open Go.RowKit Go.Maps

theorem laidOutK : laidOutB Try.prog = true := by kernel_rfl
theorem key_law : Keyed Try.prog 33 := Keyed.of_law (deep_law_gate laidOutK (of_decide_eq_true (by kernel_rfl)) (of_decide_eq_true (by kernel_rfl)) (by kernel_rfl) (by kernel_rfl))
theorem key_plane (x y z b : Int) (hx : I64 x) (hy : I64 y) (hz : I64 z) (hb : I64 b) : ∃ kl, keyOf Try.prog 33 (vP x y z b) = some kl := by
  obtain ⟨d, hd⟩ : ∃ d, Try.prog.types.size + 1 = d + 1 + 1 + 1 := ⟨Try.prog.types.size - 2, by have : 2 ≤ Try.prog.types.size := of_decide_eq_true (by kernel_rfl); omega⟩
  have c4 : Try.prog.cellsOf 33 = 4 := by kernel_rfl
  have c3 : Try.prog.cellsOf 31 = 3 := by kernel_rfl
  have c1 : Try.prog.cellsOf 3 = 1 := by kernel_rfl
  have hk : Try.prog.keyType 33 = true := by kernel_rfl
  have wf : ∀ n, I64 n → (Lit.int .i64 n).wf = true := fun n h => by simp [Lit.wf]; exact h
  simp only [keyOf, Try.underlying33, hk, hd, Bool.true_and]
  simp [Program.keyLits, Try.underlying33, Try.underlying31, Try.underlying3, c4, c3, c1, Value.cells, Value.formed, wf x hx, wf y hy, wf z hz, wf b hb]
  rw [if_pos (by decide)]
  exact ⟨_, rfl⟩
end Go.Proofs.Ytccnlnkgoaelpaa
