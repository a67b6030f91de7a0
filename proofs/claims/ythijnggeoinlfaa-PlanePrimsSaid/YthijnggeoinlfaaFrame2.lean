/- Numbers that came in. No condition. -/
import Derived.Test.YthijnggeoinlfaaFrame
namespace Go.Proofs.Ythijnggeoinlfaa
open Go.RowKit
theorem u16_wf {n : Int} (h : (Lit.int .u16 n).wf = true) : 0 ≤ n ∧ n ≤ 65535 := by
  simp [Lit.wf] at h
  exact h
theorem u8_wf {n : Int} (h : (Lit.int .u8 n).wf = true) : 0 ≤ n ∧ n ≤ 255 := by
  simp [Lit.wf] at h
  exact h
end Go.Proofs.Ythijnggeoinlfaa
