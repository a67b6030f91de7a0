/- The plain law of ContactMoments: moments add up, stay along the line of a force, and are orthogonal to the force and the point. All modulo 2^64; no condition. -/
import Derived.Test.YthijnggeoinlfaaTurnsM
namespace Go.Proofs.Ythijnggeoinlfaa
open Go.RowKit

theorem wr_of {a b : Int} (h : a = b) : wrap64 a = wrap64 b := by rw [h]
theorem cross_add (p f g : V3) : vAdd (vCross p f) (vCross p g) = vCross p (vAdd f g) := by
  simp only [vAdd, vCross, wr_addl, wr_addr, wr_subl, wr_subr, wr_mulr]
  exact V3.ext (wr_of (by grind)) (wr_of (by grind)) (wr_of (by grind))
theorem cross_moved (p f : V3) (n : Int) : vCross (vSum p n f) f = vCross p f := by
  simp only [vSum, vCross, wr_addr, wr_subl, wr_subr, wr_mull]
  exact V3.ext (wr_of (by grind)) (wr_of (by grind)) (wr_of (by grind))
theorem dot_cross (p f : V3) : vDot (vCross p f) f = 0 ∧ vDot (vCross p f) p = 0 := by
  simp only [vDot, vCross, wr_addl, wr_addr, wr_subl, wr_subr, wr_mull]
  exact ⟨(wr_of (by grind)).trans wr_zero, (wr_of (by grind)).trans wr_zero⟩
end Go.Proofs.Ythijnggeoinlfaa
