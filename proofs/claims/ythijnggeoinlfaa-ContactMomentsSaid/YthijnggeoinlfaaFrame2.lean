/- Numbers that came in. No condition. -/
import Derived.Test.YthijnggeoinlfaaFrame
namespace Go.Proofs.Ythijnggeoinlfaa
open Go.RowKit
theorem u16_wf {n : Int} (h : (Lit.int .u16 n).wf = true) : 0 ≤ n ∧ n ≤ 65535 := by
  simp [Lit.wf] at h
  exact h
theorem u8_wf {n : Int} (h : (Lit.int .u8 n).wf = true) : 0 ≤ n ∧ n ≤ 255 := by
  simp [Lit.wf] at h
  exact h
theorem flatU8x3 : Flat Try.prog 59 3 .u8 := flat_array (c := 3) (m := 1) Try.underlying59 (by kernel_rfl) (by kernel_rfl) (by omega) (flat_int Try.underlying5)
theorem flatI64x3 : Flat Try.prog 47 3 .i64 := flat_array (c := 3) (m := 1) Try.underlying47 (by kernel_rfl) (by kernel_rfl) (by omega) (flat_int Try.underlying3)
theorem flatPlane : Flat Try.prog 32 4 .i64 :=
  flat_struct Try.underlying32 (by kernel_rfl) (fun i hi => by
    have h1 : Try.prog.cellsOf 3 = 1 := by kernel_rfl
    have h3 : Try.prog.cellsOf 24 = 3 := by kernel_rfl
    have hI := flat_int Try.underlying3
    have hV := flatVec
    match i, hi with
    | 0, _ => exact ⟨0, _, rfl, by simp, by simp [h3], by simpa [h3] using hV⟩
    | 1, _ => exact ⟨0, _, rfl, by simp, by simp [h3], by simpa [h3] using hV⟩
    | 2, _ => exact ⟨0, _, rfl, by simp, by simp [h3], by simpa [h3] using hV⟩
    | 3, _ => exact ⟨1, _, rfl, by simp, by simp [h1], by simpa [h1] using hI⟩)
theorem len4 {l : List Int} (h : l.length = 4) : ∃ a b c d, l = [a, b, c, d] := by
  match l, h with
  | [a, b, c, d], _ => exact ⟨a, b, c, d, rfl⟩
end Go.Proofs.Ythijnggeoinlfaa
