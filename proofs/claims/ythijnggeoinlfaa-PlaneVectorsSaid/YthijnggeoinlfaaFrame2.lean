/- Numbers that came in. No condition. -/
import Derived.Test.YthijnggeoinlfaaFrame
namespace Go.Proofs.Ythijnggeoinlfaa
open Go.RowKit
theorem u16_wf {n : Int} (h : (Lit.int .u16 n).wf = true) : 0 ≤ n ∧ n ≤ 65535 := by
  simp [Lit.wf] at h
  exact h
theorem u8_wf {n : Int} (h : (Lit.int .u8 n).wf = true) : 0 ≤ n ∧ n ≤ 255 := by
  simp [Lit.wf] at h
  exact h
theorem flatU8x3 : Flat Try.prog 59 3 .u8 := flat_array (c := 3) (m := 1) Try.underlying59 (by kernel_rfl) (by kernel_rfl) (by omega) (flat_int Try.underlying5)
end Go.Proofs.Ythijnggeoinlfaa
