/- Products of vectors, where ints wrap around: what the law PlaneTriples compares. The components are int64. -/
import Derived.Test.YtccnlnkgoaelpaaPlain
namespace Go.Proofs.Ytccnlnkgoaelpaa
open Go.RowKit


theorem wr_I (n : Int) : I64 (wrap64 n) := by unfold I64 wrap64; omega
theorem wr_id {n : Int} (h : I64 n) : wrap64 n = n := by obtain ⟨h1, h2⟩ := h; unfold wrap64; omega
theorem wr_mod (a b : Int) (k : Int) (h : a = b + 18446744073709551616 * k) : wrap64 a = wrap64 b := by
  unfold wrap64; subst h
  rw [show b + 18446744073709551616 * k + 9223372036854775808 = b + 9223372036854775808 + 18446744073709551616 * k by omega, Int.add_mul_emod_self_left]
theorem wr_ex (n : Int) : ∃ k, wrap64 n = n + 18446744073709551616 * k :=
  ⟨-((n + 9223372036854775808) / 18446744073709551616), by unfold wrap64; omega⟩
theorem wr_addl (a b : Int) : wrap64 (wrap64 a + b) = wrap64 (a + b) := by
  obtain ⟨k, h⟩ := wr_ex a; exact wr_mod _ _ k (by rw [h]; omega)
theorem wr_addr (a b : Int) : wrap64 (a + wrap64 b) = wrap64 (a + b) := by
  obtain ⟨k, h⟩ := wr_ex b; exact wr_mod _ _ k (by rw [h]; omega)
theorem wr_subl (a b : Int) : wrap64 (wrap64 a - b) = wrap64 (a - b) := by
  obtain ⟨k, h⟩ := wr_ex a; exact wr_mod _ _ k (by rw [h]; omega)
theorem wr_subr (a b : Int) : wrap64 (a - wrap64 b) = wrap64 (a - b) := by
  obtain ⟨k, h⟩ := wr_ex b; exact wr_mod _ _ (-k) (by rw [h]; omega)
theorem wr_mull (a b : Int) : wrap64 (wrap64 a * b) = wrap64 (a * b) := by
  obtain ⟨k, h⟩ := wr_ex a; exact wr_mod _ _ (k * b) (by rw [h, Int.add_mul, Int.mul_assoc])
theorem wr_mulr (a b : Int) : wrap64 (a * wrap64 b) = wrap64 (a * b) := by
  rw [Int.mul_comm, wr_mull, Int.mul_comm]
theorem wr_idem (a : Int) : wrap64 (wrap64 a) = wrap64 a := wr_id (wr_I a)
theorem wr_zero : wrap64 0 = 0 := wr_id ⟨by omega, by omega⟩

theorem cross_orth_l (a b : V3) : vDot (vCross a b) a = 0 := by
  simp only [vDot, vCross, wr_addl, wr_addr, wr_subl, wr_subr, wr_mull]
  rw [show (a.y * b.z - a.z * b.y) * a.x + (a.z * b.x - a.x * b.z) * a.y + (a.x * b.y - a.y * b.x) * a.z = 0 by grind, wr_zero]
theorem cross_orth_r (a b : V3) : vDot (vCross a b) b = 0 := by
  simp only [vDot, vCross, wr_addl, wr_addr, wr_subl, wr_subr, wr_mull]
  rw [show (a.y * b.z - a.z * b.y) * b.x + (a.z * b.x - a.x * b.z) * b.y + (a.x * b.y - a.y * b.x) * b.z = 0 by grind, wr_zero]
theorem cross_opp (a b : V3) : vAdd (vCross a b) (vCross b a) = ⟨0, 0, 0⟩ := by
  simp only [vAdd, vCross, wr_addl, wr_addr, wr_subl, wr_subr]
  rw [show a.y * b.z - a.z * b.y + (b.y * a.z - b.z * a.y) = 0 by grind, show a.z * b.x - a.x * b.z + (b.z * a.x - b.x * a.z) = 0 by grind, show a.x * b.y - a.y * b.x + (b.x * a.y - b.y * a.x) = 0 by grind, wr_zero]
theorem triple_cyc (a b c : V3) : vDot (vCross a b) c = vDot (vCross b c) a := by
  simp only [vDot, vCross, wr_addl, wr_addr, wr_subl, wr_subr, wr_mull]
  congr 1; grind
theorem sub_add (a b : V3) (h : a.Ok) : vSub (vAdd a b) b = a := by
  obtain ⟨x, y, z⟩ := a
  simp only [vSub, vAdd, wr_subl]
  rw [show x + b.x - b.x = x by omega, show y + b.y - b.y = y by omega, show z + b.z - b.z = z by omega, wr_id h.x, wr_id h.y, wr_id h.z]
theorem dot_add (a b c : V3) : vDot a (vAdd b c) = wrap64 (vDot a b + vDot a c) := by
  simp only [vDot, vAdd, wr_addl, wr_addr, wr_mulr]
  congr 1; grind
end Go.Proofs.Ytccnlnkgoaelpaa
