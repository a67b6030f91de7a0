/- Arguments of the laws of package contact: a contact, arrays of small numbers. No condition. -/
import Derived.Test.YthijnggeoinlfaaFrame3
namespace Go.Proofs.Ythijnggeoinlfaa
open Go.RowKit
theorem flatU8x2 : Flat Try.prog 88 2 .u8 := flat_array (c := 2) (m := 1) Try.underlying88 (by kernel_rfl) (by kernel_rfl) (by omega) (flat_int Try.underlying5)
theorem flatU16x4 : Flat Try.prog 79 4 .u16 := flat_array (c := 4) (m := 1) Try.underlying79 (by kernel_rfl) (by kernel_rfl) (by omega) (flat_int Try.underlying36)
theorem flatFrac : Flat Try.prog 64 2 .i64 :=
  flat_struct Try.underlying64 (by kernel_rfl) (fun i hi => by
    have h1 : Try.prog.cellsOf 3 = 1 := by kernel_rfl
    have hI := flat_int Try.underlying3
    match i, hi with
    | 0, _ => exact ⟨0, _, rfl, by simp, by simp [h1], by simpa [h1] using hI⟩
    | 1, _ => exact ⟨1, _, rfl, by simp, by simp [h1], by simpa [h1] using hI⟩)
theorem flatContact : Flat Try.prog 66 8 .i64 :=
  flat_struct Try.underlying66 (by kernel_rfl) (fun i hi => by
    have h3 : Try.prog.cellsOf 24 = 3 := by kernel_rfl
    have h2 : Try.prog.cellsOf 64 = 2 := by kernel_rfl
    have hV := flatVec
    have hF := flatFrac
    match i, hi with
    | 0, _ => exact ⟨0, _, rfl, by simp, by simp [h3], by simpa [h3] using hV⟩
    | 1, _ => exact ⟨0, _, rfl, by simp, by simp [h3], by simpa [h3] using hV⟩
    | 2, _ => exact ⟨0, _, rfl, by simp, by simp [h3], by simpa [h3] using hV⟩
    | 3, _ => exact ⟨1, _, rfl, by simp, by simp [h3], by simpa [h3] using hV⟩
    | 4, _ => exact ⟨1, _, rfl, by simp, by simp [h3], by simpa [h3] using hV⟩
    | 5, _ => exact ⟨1, _, rfl, by simp, by simp [h3], by simpa [h3] using hV⟩
    | 6, _ => exact ⟨2, _, rfl, by simp, by simp [h2], by simpa [h2] using hF⟩
    | 7, _ => exact ⟨2, _, rfl, by simp, by simp [h2], by simpa [h2] using hF⟩)
theorem len2 {l : List Int} (h : l.length = 2) : ∃ a b, l = [a, b] := by
  match l, h with
  | [a, b], _ => exact ⟨a, b, rfl⟩
theorem len8 {l : List Int} (h : l.length = 8) : ∃ a b c d e f g i, l = [a, b, c, d, e, f, g, i] := by
  match l, h with
  | [a, b, c, d, e, f, g, i], _ => exact ⟨a, b, c, d, e, f, g, i, rfl⟩
end Go.Proofs.Ythijnggeoinlfaa
