/- The plain law of ContactTurns: a force turned round the normal by a quarter, or by a half, is one of the contact exactly if it was before. -/
import Derived.Test.YthijnggeoinlfaaCtC
import Derived.Test.YthijnggeoinlfaaSidesM
namespace Go.Proofs.Ythijnggeoinlfaa
open Go.RowKit

theorem small_Bd (f : V3) : Bd 999 (vSmall f) := by
  unfold vSmall
  have h1 := Int.tmod_lt_of_pos f.x (b := 1000) (by omega)
  have h2 := Int.lt_tmod_of_pos f.x (b := 1000) (by omega)
  have h3 := Int.tmod_lt_of_pos f.y (b := 1000) (by omega)
  have h4 := Int.lt_tmod_of_pos f.y (b := 1000) (by omega)
  have h5 := Int.tmod_lt_of_pos f.z (b := 1000) (by omega)
  have h6 := Int.lt_tmod_of_pos f.z (b := 1000) (by omega)
  exact ⟨by simp only []; omega, by simp only []; omega, by simp only []; omega, by simp only []; omega, by simp only []; omega, by simp only []; omega⟩
/-- What Has says of a force, by how far it lies along and aside. -/
theorem has_by {c : Ct} {f g : V3} (hf : Bd 100000 f) (hg : Bd 100000 g) (h1 : vDot f c.n = vDot g c.n) (h2 : cSide c.n f = cSide c.n g) : cHas c f = cHas c g := by
  have n1 : ∀ v : V3, Bd 100000 v → (ng v.x && (ng v.y && ng v.z)) = true := fun v hv => by
    obtain ⟨a1, a2, a3, a4, a5, a6⟩ := hv
    unfold ng; simp; omega
  unfold cHas
  rw [n1 f hf, n1 g hg, h1, h2]
def quarterV (n f : V3) : V3 := vSum (vCross n f) (vDot f n) n
def halfV (n f : V3) : V3 := vSum (vSum ⟨0, 0, 0⟩ (-1) f) (wrap64 (2 * vDot f n)) n
theorem quarter_0 {x y z : Int} (h : Bd 999 ⟨x, y, z⟩) : quarterV ⟨1, 0, 0⟩ ⟨x, y, z⟩ = ⟨x, -z, y⟩ ∧ vDot ⟨x, -z, y⟩ ⟨1, 0, 0⟩ = vDot ⟨x, y, z⟩ ⟨1, 0, 0⟩ ∧ cSide ⟨1, 0, 0⟩ ⟨x, -z, y⟩ = cSide ⟨1, 0, 0⟩ ⟨x, y, z⟩ := by
  obtain ⟨a1, a2, a3, a4, a5, a6⟩ := h
  simp only [] at a1 a2 a3 a4 a5 a6
  refine ⟨?_, ?_, ?_⟩
  · unfold quarterV
    (repeat (first | simp only [vSum] | simp only [vCross] | simp only [vDot] | simp only [V3.mk.injEq]))
    (repeat (first | simp only [wr_addl] | simp only [wr_addr] | simp only [wr_subl] | simp only [wr_subr] | simp only [wr_mull] | simp only [wr_mulr] | simp only [wr_idem]))
    refine ⟨?_, ?_, ?_⟩ <;> (unfold wrap64; (repeat (first | simp only [Int.mul_zero] | simp only [Int.zero_mul] | simp only [Int.mul_one] | simp only [Int.one_mul] | simp only [Int.mul_neg] | simp only [Int.neg_mul])); omega)
  · simp only [vDot]
    (repeat (first | simp only [Int.mul_zero] | simp only [Int.zero_mul] | simp only [Int.mul_one] | simp only [Int.one_mul] | simp only [Int.mul_neg] | simp only [Int.neg_mul]))
  · simp only [cSide, sideK, sd1]
    simp
    (repeat' split) <;> omega
theorem quarter_1 {x y z : Int} (h : Bd 999 ⟨x, y, z⟩) : quarterV ⟨-1, 0, 0⟩ ⟨x, y, z⟩ = ⟨x, z, -y⟩ ∧ vDot ⟨x, z, -y⟩ ⟨-1, 0, 0⟩ = vDot ⟨x, y, z⟩ ⟨-1, 0, 0⟩ ∧ cSide ⟨-1, 0, 0⟩ ⟨x, z, -y⟩ = cSide ⟨-1, 0, 0⟩ ⟨x, y, z⟩ := by
  obtain ⟨a1, a2, a3, a4, a5, a6⟩ := h
  simp only [] at a1 a2 a3 a4 a5 a6
  refine ⟨?_, ?_, ?_⟩
  · unfold quarterV
    (repeat (first | simp only [vSum] | simp only [vCross] | simp only [vDot] | simp only [V3.mk.injEq]))
    (repeat (first | simp only [wr_addl] | simp only [wr_addr] | simp only [wr_subl] | simp only [wr_subr] | simp only [wr_mull] | simp only [wr_mulr] | simp only [wr_idem]))
    refine ⟨?_, ?_, ?_⟩ <;> (unfold wrap64; (repeat (first | simp only [Int.mul_zero] | simp only [Int.zero_mul] | simp only [Int.mul_one] | simp only [Int.one_mul] | simp only [Int.mul_neg] | simp only [Int.neg_mul])); omega)
  · simp only [vDot]
    (repeat (first | simp only [Int.mul_zero] | simp only [Int.zero_mul] | simp only [Int.mul_one] | simp only [Int.one_mul] | simp only [Int.mul_neg] | simp only [Int.neg_mul]))
  · simp only [cSide, sideK, sd1]
    simp
    (repeat' split) <;> omega
theorem quarter_2 {x y z : Int} (h : Bd 999 ⟨x, y, z⟩) : quarterV ⟨0, 1, 0⟩ ⟨x, y, z⟩ = ⟨z, y, -x⟩ ∧ vDot ⟨z, y, -x⟩ ⟨0, 1, 0⟩ = vDot ⟨x, y, z⟩ ⟨0, 1, 0⟩ ∧ cSide ⟨0, 1, 0⟩ ⟨z, y, -x⟩ = cSide ⟨0, 1, 0⟩ ⟨x, y, z⟩ := by
  obtain ⟨a1, a2, a3, a4, a5, a6⟩ := h
  simp only [] at a1 a2 a3 a4 a5 a6
  refine ⟨?_, ?_, ?_⟩
  · unfold quarterV
    (repeat (first | simp only [vSum] | simp only [vCross] | simp only [vDot] | simp only [V3.mk.injEq]))
    (repeat (first | simp only [wr_addl] | simp only [wr_addr] | simp only [wr_subl] | simp only [wr_subr] | simp only [wr_mull] | simp only [wr_mulr] | simp only [wr_idem]))
    refine ⟨?_, ?_, ?_⟩ <;> (unfold wrap64; (repeat (first | simp only [Int.mul_zero] | simp only [Int.zero_mul] | simp only [Int.mul_one] | simp only [Int.one_mul] | simp only [Int.mul_neg] | simp only [Int.neg_mul])); omega)
  · simp only [vDot]
    (repeat (first | simp only [Int.mul_zero] | simp only [Int.zero_mul] | simp only [Int.mul_one] | simp only [Int.one_mul] | simp only [Int.mul_neg] | simp only [Int.neg_mul]))
  · simp only [cSide, sideK, sd1]
    simp
    (repeat' split) <;> omega
theorem quarter_3 {x y z : Int} (h : Bd 999 ⟨x, y, z⟩) : quarterV ⟨0, -1, 0⟩ ⟨x, y, z⟩ = ⟨-z, y, x⟩ ∧ vDot ⟨-z, y, x⟩ ⟨0, -1, 0⟩ = vDot ⟨x, y, z⟩ ⟨0, -1, 0⟩ ∧ cSide ⟨0, -1, 0⟩ ⟨-z, y, x⟩ = cSide ⟨0, -1, 0⟩ ⟨x, y, z⟩ := by
  obtain ⟨a1, a2, a3, a4, a5, a6⟩ := h
  simp only [] at a1 a2 a3 a4 a5 a6
  refine ⟨?_, ?_, ?_⟩
  · unfold quarterV
    (repeat (first | simp only [vSum] | simp only [vCross] | simp only [vDot] | simp only [V3.mk.injEq]))
    (repeat (first | simp only [wr_addl] | simp only [wr_addr] | simp only [wr_subl] | simp only [wr_subr] | simp only [wr_mull] | simp only [wr_mulr] | simp only [wr_idem]))
    refine ⟨?_, ?_, ?_⟩ <;> (unfold wrap64; (repeat (first | simp only [Int.mul_zero] | simp only [Int.zero_mul] | simp only [Int.mul_one] | simp only [Int.one_mul] | simp only [Int.mul_neg] | simp only [Int.neg_mul])); omega)
  · simp only [vDot]
    (repeat (first | simp only [Int.mul_zero] | simp only [Int.zero_mul] | simp only [Int.mul_one] | simp only [Int.one_mul] | simp only [Int.mul_neg] | simp only [Int.neg_mul]))
  · simp only [cSide, sideK, sd1]
    simp
    (repeat' split) <;> omega
theorem quarter_4 {x y z : Int} (h : Bd 999 ⟨x, y, z⟩) : quarterV ⟨0, 0, 1⟩ ⟨x, y, z⟩ = ⟨-y, x, z⟩ ∧ vDot ⟨-y, x, z⟩ ⟨0, 0, 1⟩ = vDot ⟨x, y, z⟩ ⟨0, 0, 1⟩ ∧ cSide ⟨0, 0, 1⟩ ⟨-y, x, z⟩ = cSide ⟨0, 0, 1⟩ ⟨x, y, z⟩ := by
  obtain ⟨a1, a2, a3, a4, a5, a6⟩ := h
  simp only [] at a1 a2 a3 a4 a5 a6
  refine ⟨?_, ?_, ?_⟩
  · unfold quarterV
    (repeat (first | simp only [vSum] | simp only [vCross] | simp only [vDot] | simp only [V3.mk.injEq]))
    (repeat (first | simp only [wr_addl] | simp only [wr_addr] | simp only [wr_subl] | simp only [wr_subr] | simp only [wr_mull] | simp only [wr_mulr] | simp only [wr_idem]))
    refine ⟨?_, ?_, ?_⟩ <;> (unfold wrap64; (repeat (first | simp only [Int.mul_zero] | simp only [Int.zero_mul] | simp only [Int.mul_one] | simp only [Int.one_mul] | simp only [Int.mul_neg] | simp only [Int.neg_mul])); omega)
  · simp only [vDot]
    (repeat (first | simp only [Int.mul_zero] | simp only [Int.zero_mul] | simp only [Int.mul_one] | simp only [Int.one_mul] | simp only [Int.mul_neg] | simp only [Int.neg_mul]))
  · simp only [cSide, sideK, sd1]
    simp
    (repeat' split) <;> omega
theorem quarter_5 {x y z : Int} (h : Bd 999 ⟨x, y, z⟩) : quarterV ⟨0, 0, -1⟩ ⟨x, y, z⟩ = ⟨y, -x, z⟩ ∧ vDot ⟨y, -x, z⟩ ⟨0, 0, -1⟩ = vDot ⟨x, y, z⟩ ⟨0, 0, -1⟩ ∧ cSide ⟨0, 0, -1⟩ ⟨y, -x, z⟩ = cSide ⟨0, 0, -1⟩ ⟨x, y, z⟩ := by
  obtain ⟨a1, a2, a3, a4, a5, a6⟩ := h
  simp only [] at a1 a2 a3 a4 a5 a6
  refine ⟨?_, ?_, ?_⟩
  · unfold quarterV
    (repeat (first | simp only [vSum] | simp only [vCross] | simp only [vDot] | simp only [V3.mk.injEq]))
    (repeat (first | simp only [wr_addl] | simp only [wr_addr] | simp only [wr_subl] | simp only [wr_subr] | simp only [wr_mull] | simp only [wr_mulr] | simp only [wr_idem]))
    refine ⟨?_, ?_, ?_⟩ <;> (unfold wrap64; (repeat (first | simp only [Int.mul_zero] | simp only [Int.zero_mul] | simp only [Int.mul_one] | simp only [Int.one_mul] | simp only [Int.mul_neg] | simp only [Int.neg_mul])); omega)
  · simp only [vDot]
    (repeat (first | simp only [Int.mul_zero] | simp only [Int.zero_mul] | simp only [Int.mul_one] | simp only [Int.one_mul] | simp only [Int.mul_neg] | simp only [Int.neg_mul]))
  · simp only [cSide, sideK, sd1]
    simp
    (repeat' split) <;> omega
theorem half_0 {x y z : Int} (h : Bd 999 ⟨x, y, z⟩) : halfV ⟨1, 0, 0⟩ ⟨x, y, z⟩ = ⟨x, -y, -z⟩ ∧ vDot ⟨x, -y, -z⟩ ⟨1, 0, 0⟩ = vDot ⟨x, y, z⟩ ⟨1, 0, 0⟩ ∧ cSide ⟨1, 0, 0⟩ ⟨x, -y, -z⟩ = cSide ⟨1, 0, 0⟩ ⟨x, y, z⟩ := by
  obtain ⟨a1, a2, a3, a4, a5, a6⟩ := h
  simp only [] at a1 a2 a3 a4 a5 a6
  refine ⟨?_, ?_, ?_⟩
  · unfold halfV
    (repeat (first | simp only [vSum] | simp only [vCross] | simp only [vDot] | simp only [V3.mk.injEq]))
    (repeat (first | simp only [wr_addl] | simp only [wr_addr] | simp only [wr_subl] | simp only [wr_subr] | simp only [wr_mull] | simp only [wr_mulr] | simp only [wr_idem]))
    refine ⟨?_, ?_, ?_⟩ <;> (unfold wrap64; (repeat (first | simp only [Int.mul_zero] | simp only [Int.zero_mul] | simp only [Int.mul_one] | simp only [Int.one_mul] | simp only [Int.mul_neg] | simp only [Int.neg_mul])); omega)
  · simp only [vDot]
    (repeat (first | simp only [Int.mul_zero] | simp only [Int.zero_mul] | simp only [Int.mul_one] | simp only [Int.one_mul] | simp only [Int.mul_neg] | simp only [Int.neg_mul]))
  · simp only [cSide, sideK, sd1]
    simp
    (repeat' split) <;> omega
theorem half_1 {x y z : Int} (h : Bd 999 ⟨x, y, z⟩) : halfV ⟨-1, 0, 0⟩ ⟨x, y, z⟩ = ⟨x, -y, -z⟩ ∧ vDot ⟨x, -y, -z⟩ ⟨-1, 0, 0⟩ = vDot ⟨x, y, z⟩ ⟨-1, 0, 0⟩ ∧ cSide ⟨-1, 0, 0⟩ ⟨x, -y, -z⟩ = cSide ⟨-1, 0, 0⟩ ⟨x, y, z⟩ := by
  obtain ⟨a1, a2, a3, a4, a5, a6⟩ := h
  simp only [] at a1 a2 a3 a4 a5 a6
  refine ⟨?_, ?_, ?_⟩
  · unfold halfV
    (repeat (first | simp only [vSum] | simp only [vCross] | simp only [vDot] | simp only [V3.mk.injEq]))
    (repeat (first | simp only [wr_addl] | simp only [wr_addr] | simp only [wr_subl] | simp only [wr_subr] | simp only [wr_mull] | simp only [wr_mulr] | simp only [wr_idem]))
    refine ⟨?_, ?_, ?_⟩ <;> (unfold wrap64; (repeat (first | simp only [Int.mul_zero] | simp only [Int.zero_mul] | simp only [Int.mul_one] | simp only [Int.one_mul] | simp only [Int.mul_neg] | simp only [Int.neg_mul])); omega)
  · simp only [vDot]
    (repeat (first | simp only [Int.mul_zero] | simp only [Int.zero_mul] | simp only [Int.mul_one] | simp only [Int.one_mul] | simp only [Int.mul_neg] | simp only [Int.neg_mul]))
  · simp only [cSide, sideK, sd1]
    simp
    (repeat' split) <;> omega
theorem half_2 {x y z : Int} (h : Bd 999 ⟨x, y, z⟩) : halfV ⟨0, 1, 0⟩ ⟨x, y, z⟩ = ⟨-x, y, -z⟩ ∧ vDot ⟨-x, y, -z⟩ ⟨0, 1, 0⟩ = vDot ⟨x, y, z⟩ ⟨0, 1, 0⟩ ∧ cSide ⟨0, 1, 0⟩ ⟨-x, y, -z⟩ = cSide ⟨0, 1, 0⟩ ⟨x, y, z⟩ := by
  obtain ⟨a1, a2, a3, a4, a5, a6⟩ := h
  simp only [] at a1 a2 a3 a4 a5 a6
  refine ⟨?_, ?_, ?_⟩
  · unfold halfV
    (repeat (first | simp only [vSum] | simp only [vCross] | simp only [vDot] | simp only [V3.mk.injEq]))
    (repeat (first | simp only [wr_addl] | simp only [wr_addr] | simp only [wr_subl] | simp only [wr_subr] | simp only [wr_mull] | simp only [wr_mulr] | simp only [wr_idem]))
    refine ⟨?_, ?_, ?_⟩ <;> (unfold wrap64; (repeat (first | simp only [Int.mul_zero] | simp only [Int.zero_mul] | simp only [Int.mul_one] | simp only [Int.one_mul] | simp only [Int.mul_neg] | simp only [Int.neg_mul])); omega)
  · simp only [vDot]
    (repeat (first | simp only [Int.mul_zero] | simp only [Int.zero_mul] | simp only [Int.mul_one] | simp only [Int.one_mul] | simp only [Int.mul_neg] | simp only [Int.neg_mul]))
  · simp only [cSide, sideK, sd1]
    simp
    (repeat' split) <;> omega
theorem half_3 {x y z : Int} (h : Bd 999 ⟨x, y, z⟩) : halfV ⟨0, -1, 0⟩ ⟨x, y, z⟩ = ⟨-x, y, -z⟩ ∧ vDot ⟨-x, y, -z⟩ ⟨0, -1, 0⟩ = vDot ⟨x, y, z⟩ ⟨0, -1, 0⟩ ∧ cSide ⟨0, -1, 0⟩ ⟨-x, y, -z⟩ = cSide ⟨0, -1, 0⟩ ⟨x, y, z⟩ := by
  obtain ⟨a1, a2, a3, a4, a5, a6⟩ := h
  simp only [] at a1 a2 a3 a4 a5 a6
  refine ⟨?_, ?_, ?_⟩
  · unfold halfV
    (repeat (first | simp only [vSum] | simp only [vCross] | simp only [vDot] | simp only [V3.mk.injEq]))
    (repeat (first | simp only [wr_addl] | simp only [wr_addr] | simp only [wr_subl] | simp only [wr_subr] | simp only [wr_mull] | simp only [wr_mulr] | simp only [wr_idem]))
    refine ⟨?_, ?_, ?_⟩ <;> (unfold wrap64; (repeat (first | simp only [Int.mul_zero] | simp only [Int.zero_mul] | simp only [Int.mul_one] | simp only [Int.one_mul] | simp only [Int.mul_neg] | simp only [Int.neg_mul])); omega)
  · simp only [vDot]
    (repeat (first | simp only [Int.mul_zero] | simp only [Int.zero_mul] | simp only [Int.mul_one] | simp only [Int.one_mul] | simp only [Int.mul_neg] | simp only [Int.neg_mul]))
  · simp only [cSide, sideK, sd1]
    simp
    (repeat' split) <;> omega
theorem half_4 {x y z : Int} (h : Bd 999 ⟨x, y, z⟩) : halfV ⟨0, 0, 1⟩ ⟨x, y, z⟩ = ⟨-x, -y, z⟩ ∧ vDot ⟨-x, -y, z⟩ ⟨0, 0, 1⟩ = vDot ⟨x, y, z⟩ ⟨0, 0, 1⟩ ∧ cSide ⟨0, 0, 1⟩ ⟨-x, -y, z⟩ = cSide ⟨0, 0, 1⟩ ⟨x, y, z⟩ := by
  obtain ⟨a1, a2, a3, a4, a5, a6⟩ := h
  simp only [] at a1 a2 a3 a4 a5 a6
  refine ⟨?_, ?_, ?_⟩
  · unfold halfV
    (repeat (first | simp only [vSum] | simp only [vCross] | simp only [vDot] | simp only [V3.mk.injEq]))
    (repeat (first | simp only [wr_addl] | simp only [wr_addr] | simp only [wr_subl] | simp only [wr_subr] | simp only [wr_mull] | simp only [wr_mulr] | simp only [wr_idem]))
    refine ⟨?_, ?_, ?_⟩ <;> (unfold wrap64; (repeat (first | simp only [Int.mul_zero] | simp only [Int.zero_mul] | simp only [Int.mul_one] | simp only [Int.one_mul] | simp only [Int.mul_neg] | simp only [Int.neg_mul])); omega)
  · simp only [vDot]
    (repeat (first | simp only [Int.mul_zero] | simp only [Int.zero_mul] | simp only [Int.mul_one] | simp only [Int.one_mul] | simp only [Int.mul_neg] | simp only [Int.neg_mul]))
  · simp only [cSide, sideK, sd1]
    simp
    (repeat' split) <;> omega
theorem half_5 {x y z : Int} (h : Bd 999 ⟨x, y, z⟩) : halfV ⟨0, 0, -1⟩ ⟨x, y, z⟩ = ⟨-x, -y, z⟩ ∧ vDot ⟨-x, -y, z⟩ ⟨0, 0, -1⟩ = vDot ⟨x, y, z⟩ ⟨0, 0, -1⟩ ∧ cSide ⟨0, 0, -1⟩ ⟨-x, -y, z⟩ = cSide ⟨0, 0, -1⟩ ⟨x, y, z⟩ := by
  obtain ⟨a1, a2, a3, a4, a5, a6⟩ := h
  simp only [] at a1 a2 a3 a4 a5 a6
  refine ⟨?_, ?_, ?_⟩
  · unfold halfV
    (repeat (first | simp only [vSum] | simp only [vCross] | simp only [vDot] | simp only [V3.mk.injEq]))
    (repeat (first | simp only [wr_addl] | simp only [wr_addr] | simp only [wr_subl] | simp only [wr_subr] | simp only [wr_mull] | simp only [wr_mulr] | simp only [wr_idem]))
    refine ⟨?_, ?_, ?_⟩ <;> (unfold wrap64; (repeat (first | simp only [Int.mul_zero] | simp only [Int.zero_mul] | simp only [Int.mul_one] | simp only [Int.one_mul] | simp only [Int.mul_neg] | simp only [Int.neg_mul])); omega)
  · simp only [vDot]
    (repeat (first | simp only [Int.mul_zero] | simp only [Int.zero_mul] | simp only [Int.mul_one] | simp only [Int.one_mul] | simp only [Int.mul_neg] | simp only [Int.neg_mul]))
  · simp only [cSide, sideK, sd1]
    simp
    (repeat' split) <;> omega
theorem has_quarter {c : Ct} (h : CtOk c) {f : V3} (hf : Bd 999 f) : cHas c (quarterV c.n f) = cHas c f := by
  obtain ⟨x, y, z⟩ := f
  have hf2 := hf
  obtain ⟨a1, a2, a3, a4, a5, a6⟩ := hf2
  simp only [] at a1 a2 a3 a4 a5 a6
  have key : ∀ g : V3, quarterV c.n ⟨x, y, z⟩ = g → Bd 100000 g → vDot g c.n = vDot ⟨x, y, z⟩ c.n → cSide c.n g = cSide c.n ⟨x, y, z⟩ → cHas c (quarterV c.n ⟨x, y, z⟩) = cHas c ⟨x, y, z⟩ :=
    fun g e b h1 h2 => by rw [e]; exact has_by b (hf.mono (by omega)) h1 h2
  rcases unit_cases h.u with e | e | e | e | e | e
  · rw [e] at key; rw [e]; exact key _ (quarter_0 hf).1 ⟨by simp only []; omega, by simp only []; omega, by simp only []; omega, by simp only []; omega, by simp only []; omega, by simp only []; omega⟩ (quarter_0 hf).2.1 (quarter_0 hf).2.2
  · rw [e] at key; rw [e]; exact key _ (quarter_1 hf).1 ⟨by simp only []; omega, by simp only []; omega, by simp only []; omega, by simp only []; omega, by simp only []; omega, by simp only []; omega⟩ (quarter_1 hf).2.1 (quarter_1 hf).2.2
  · rw [e] at key; rw [e]; exact key _ (quarter_2 hf).1 ⟨by simp only []; omega, by simp only []; omega, by simp only []; omega, by simp only []; omega, by simp only []; omega, by simp only []; omega⟩ (quarter_2 hf).2.1 (quarter_2 hf).2.2
  · rw [e] at key; rw [e]; exact key _ (quarter_3 hf).1 ⟨by simp only []; omega, by simp only []; omega, by simp only []; omega, by simp only []; omega, by simp only []; omega, by simp only []; omega⟩ (quarter_3 hf).2.1 (quarter_3 hf).2.2
  · rw [e] at key; rw [e]; exact key _ (quarter_4 hf).1 ⟨by simp only []; omega, by simp only []; omega, by simp only []; omega, by simp only []; omega, by simp only []; omega, by simp only []; omega⟩ (quarter_4 hf).2.1 (quarter_4 hf).2.2
  · rw [e] at key; rw [e]; exact key _ (quarter_5 hf).1 ⟨by simp only []; omega, by simp only []; omega, by simp only []; omega, by simp only []; omega, by simp only []; omega, by simp only []; omega⟩ (quarter_5 hf).2.1 (quarter_5 hf).2.2
theorem has_half {c : Ct} (h : CtOk c) {f : V3} (hf : Bd 999 f) : cHas c (halfV c.n f) = cHas c f := by
  obtain ⟨x, y, z⟩ := f
  have hf2 := hf
  obtain ⟨a1, a2, a3, a4, a5, a6⟩ := hf2
  simp only [] at a1 a2 a3 a4 a5 a6
  have key : ∀ g : V3, halfV c.n ⟨x, y, z⟩ = g → Bd 100000 g → vDot g c.n = vDot ⟨x, y, z⟩ c.n → cSide c.n g = cSide c.n ⟨x, y, z⟩ → cHas c (halfV c.n ⟨x, y, z⟩) = cHas c ⟨x, y, z⟩ :=
    fun g e b h1 h2 => by rw [e]; exact has_by b (hf.mono (by omega)) h1 h2
  rcases unit_cases h.u with e | e | e | e | e | e
  · rw [e] at key; rw [e]; exact key _ (half_0 hf).1 ⟨by simp only []; omega, by simp only []; omega, by simp only []; omega, by simp only []; omega, by simp only []; omega, by simp only []; omega⟩ (half_0 hf).2.1 (half_0 hf).2.2
  · rw [e] at key; rw [e]; exact key _ (half_1 hf).1 ⟨by simp only []; omega, by simp only []; omega, by simp only []; omega, by simp only []; omega, by simp only []; omega, by simp only []; omega⟩ (half_1 hf).2.1 (half_1 hf).2.2
  · rw [e] at key; rw [e]; exact key _ (half_2 hf).1 ⟨by simp only []; omega, by simp only []; omega, by simp only []; omega, by simp only []; omega, by simp only []; omega, by simp only []; omega⟩ (half_2 hf).2.1 (half_2 hf).2.2
  · rw [e] at key; rw [e]; exact key _ (half_3 hf).1 ⟨by simp only []; omega, by simp only []; omega, by simp only []; omega, by simp only []; omega, by simp only []; omega, by simp only []; omega⟩ (half_3 hf).2.1 (half_3 hf).2.2
  · rw [e] at key; rw [e]; exact key _ (half_4 hf).1 ⟨by simp only []; omega, by simp only []; omega, by simp only []; omega, by simp only []; omega, by simp only []; omega, by simp only []; omega⟩ (half_4 hf).2.1 (half_4 hf).2.2
  · rw [e] at key; rw [e]; exact key _ (half_5 hf).1 ⟨by simp only []; omega, by simp only []; omega, by simp only []; omega, by simp only []; omega, by simp only []; omega, by simp only []; omega⟩ (half_5 hf).2.1 (half_5 hf).2.2
end Go.Proofs.Ythijnggeoinlfaa
