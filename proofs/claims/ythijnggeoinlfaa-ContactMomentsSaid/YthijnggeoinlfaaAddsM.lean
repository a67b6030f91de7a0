/- The plain law of ContactAdds: sums and positive multiples of forces of a contact are forces of it, and more friction permits more. -/
import Derived.Test.YthijnggeoinlfaaTurnsM
namespace Go.Proofs.Ythijnggeoinlfaa
open Go.RowKit

theorem Bd.ng3 {f : V3} (h : Bd 100000 f) : (ng f.x && (ng f.y && ng f.z)) = true := by
  obtain ⟨a1, a2, a3, a4, a5, a6⟩ := h
  unfold ng; simp; omega
theorem has_small {c : Ct} (h : CtOk c) {f : V3} (hf : Bd 100000 f) : cHas c f = (decide (0 ≤ vDot f c.n) && decide (c.md * cSide c.n f ≤ c.mn * vDot f c.n)) := by
  unfold cHas
  rw [h.check, hf.ng3]; simp
theorem add_plain {f g : V3} (hf : Bd 999 f) (hg : Bd 999 g) : vAdd f g = ⟨f.x + g.x, f.y + g.y, f.z + g.z⟩ ∧ Bd 100000 (vAdd f g) := by
  obtain ⟨a1, a2, a3, a4, a5, a6⟩ := hf
  obtain ⟨b1, b2, b3, b4, b5, b6⟩ := hg
  have e : vAdd f g = ⟨f.x + g.x, f.y + g.y, f.z + g.z⟩ := by
    unfold vAdd
    rw [wr_id (n := f.x + g.x) ⟨by omega, by omega⟩, wr_id (n := f.y + g.y) ⟨by omega, by omega⟩, wr_id (n := f.z + g.z) ⟨by omega, by omega⟩]
  rw [e]
  exact ⟨rfl, ⟨by simp only []; omega, by simp only []; omega, by simp only []; omega, by simp only []; omega, by simp only []; omega, by simp only []; omega⟩⟩
theorem side_add {n f g : V3} (hu : cUnit n = true) (hf : Bd 999 f) (hg : Bd 999 g) :
    vDot (vAdd f g) n = vDot f n + vDot g n ∧ cSide n (vAdd f g) ≤ cSide n f + cSide n g := by
  have ha := add_plain hf hg
  rw [(dot_unit hu ha.2.ng3).1, (dot_unit hu (hf.mono (show (999 : Int) ≤ 100000 by omega)).ng3).1, (dot_unit hu (hg.mono (show (999 : Int) ≤ 100000 by omega)).ng3).1, ha.1]
  obtain ⟨x, y, z⟩ := f
  obtain ⟨x', y', z'⟩ := g
  refine ⟨by simp only [Int.add_mul]; omega, ?_⟩
  rcases unit_cases hu with rfl | rfl | rfl | rfl | rfl | rfl <;> simp [cSide, sideK, sd1] <;> (repeat' split) <;> omega
theorem side_nn (n f : V3) : 0 ≤ cSide n f := by
  simp only [cSide, sideK, sd1]
  (repeat' split) <;> omega
theorem has_add {c : Ct} (h : CtOk c) {f g : V3} (hf : Bd 999 f) (hg : Bd 999 g) (h1 : cHas c f = true) (h2 : cHas c g = true) : cHas c (vAdd f g) = true := by
  rw [has_small h (hf.mono (by omega))] at h1
  rw [has_small h (hg.mono (by omega))] at h2
  rw [has_small h (add_plain hf hg).2]
  simp only [Bool.and_eq_true, decide_eq_true_eq] at h1 h2 ⊢
  obtain ⟨e1, e2⟩ := side_add h.u hf hg
  rw [e1]
  have hd : 0 ≤ c.md := by have := h.d1; omega
  have := Int.mul_le_mul_of_nonneg_left e2 hd
  rw [Int.mul_add] at this
  rw [Int.mul_add]
  omega
/-- More friction permits more. -/
theorem has_more {c d : Ct} (hc : CtOk c) (hd : CtOk d) (hn : c.n = d.n) {f : V3} (hf : Bd 999 f) (hm : c.mn * d.md ≤ d.mn * c.md) (h : cHas c f = true) : cHas d f = true := by
  rw [has_small hc (hf.mono (by omega))] at h
  rw [has_small hd (hf.mono (by omega))]
  simp only [Bool.and_eq_true, decide_eq_true_eq] at h ⊢
  rw [← hn]
  refine ⟨h.1, ?_⟩
  have c1 := hc.d1
  have d1 := hd.d1
  -- d.md * side * c.md <= d.md * c.mn * up <= d.mn * c.md * up
  have s1 := Int.mul_le_mul_of_nonneg_left h.2 (show 0 ≤ d.md by omega)
  have s2 := Int.mul_le_mul_of_nonneg_right hm h.1
  have s3 : c.md * (d.md * cSide c.n f) ≤ c.md * (d.mn * vDot f c.n) := by
    calc c.md * (d.md * cSide c.n f) = d.md * (c.md * cSide c.n f) := by rw [← Int.mul_assoc, Int.mul_comm c.md d.md, Int.mul_assoc]
      _ ≤ d.md * (c.mn * vDot f c.n) := s1
      _ = c.mn * d.md * vDot f c.n := by rw [← Int.mul_assoc, Int.mul_comm d.md c.mn]
      _ ≤ d.mn * c.md * vDot f c.n := s2
      _ = c.md * (d.mn * vDot f c.n) := by rw [Int.mul_comm d.mn c.md, Int.mul_assoc]
  exact Int.le_of_mul_le_mul_left s3 (by omega)
theorem times_plain {f : V3} {n : Int} (hf : Bd 999 f) (h1 : 1 ≤ n) (h2 : n ≤ 50) : vSum ⟨0, 0, 0⟩ n f = ⟨n * f.x, n * f.y, n * f.z⟩ ∧ Bd 100000 (vSum ⟨0, 0, 0⟩ n f) := by
  have p1 := prodBd (show -50 ≤ n by omega) h2 hf.x1 hf.x2
  have p2 := prodBd (show -50 ≤ n by omega) h2 hf.y1 hf.y2
  have p3 := prodBd (show -50 ≤ n by omega) h2 hf.z1 hf.z2
  have e : vSum ⟨0, 0, 0⟩ n f = ⟨n * f.x, n * f.y, n * f.z⟩ := by
    simp only [vSum, Int.zero_add, wr_idem]
    exact V3.ext (@wr_id (n * f.x) ⟨by omega, by omega⟩) (@wr_id (n * f.y) ⟨by omega, by omega⟩) (@wr_id (n * f.z) ⟨by omega, by omega⟩)
  rw [e]
  exact ⟨rfl, ⟨by simp only []; omega, by simp only []; omega, by simp only []; omega, by simp only []; omega, by simp only []; omega, by simp only []; omega⟩⟩
theorem sd1_times {m x n : Int} (h : 1 ≤ n) : sd1 m (n * x) = n * sd1 m x := by
  unfold sd1
  split
  · rcases Int.le_total 0 x with h0 | h0
    · have h1 := Int.mul_nonneg (show 0 ≤ n by omega) h0
      rw [if_neg (by omega), if_neg (by omega)]
    · have h1 := Int.mul_nonneg (show 0 ≤ n by omega) (show 0 ≤ -x by omega)
      rw [Int.mul_neg] at h1
      by_cases hx : x = 0
      · subst hx; simp
      · have h2 := Int.mul_pos (show 0 < n by omega) (show 0 < -x by omega)
        rw [Int.mul_neg] at h2
        rw [if_pos (by omega), if_pos (by omega), Int.mul_neg]
  · simp
theorem side_times {m f : V3} {n : Int} (h : 1 ≤ n) : cSide m ⟨n * f.x, n * f.y, n * f.z⟩ = n * cSide m f := by
  simp only [cSide, sideK]
  rw [sd1_times h, sd1_times h, sd1_times h, Int.mul_add, Int.mul_add]
theorem has_times {c : Ct} (h : CtOk c) {f : V3} {n : Int} (hf : Bd 999 f) (h1 : 1 ≤ n) (h2 : n ≤ 50) : cHas c (vSum ⟨0, 0, 0⟩ n f) = cHas c f := by
  have ht := times_plain hf h1 h2
  have hf2 : Bd 100000 f := hf.mono (by omega)
  rw [has_small h ht.2, has_small h hf2, (dot_unit h.u ht.2.ng3).1, (dot_unit h.u hf2.ng3).1, ht.1]
  rw [side_times h1]
  simp only []
  obtain ⟨U, hU⟩ : ∃ U, f.x * c.n.x + f.y * c.n.y + f.z * c.n.z = U := ⟨_, rfl⟩
  rw [show n * f.x * c.n.x + n * f.y * c.n.y + n * f.z * c.n.z = n * U by rw [← hU, Int.mul_add, Int.mul_add, Int.mul_assoc, Int.mul_assoc, Int.mul_assoc], hU]
  rw [show c.md * (n * cSide c.n f) = n * (c.md * cSide c.n f) by rw [← Int.mul_assoc, Int.mul_comm c.md n, Int.mul_assoc], show c.mn * (n * U) = n * (c.mn * U) by rw [← Int.mul_assoc, Int.mul_comm c.mn n, Int.mul_assoc]]
  have hn : 0 < n := by omega
  congr 1
  · rw [decide_eq_decide]
    constructor
    · intro h3
      rcases Int.lt_or_le U 0 with h4 | h4
      · have := Int.mul_pos hn (show 0 < -U by omega)
        rw [Int.mul_neg] at this; omega
      · exact h4
    · intro h3; exact Int.mul_nonneg (by omega) h3
  · rw [decide_eq_decide]
    exact ⟨fun h3 => Int.le_of_mul_le_mul_left h3 hn, fun h3 => Int.mul_le_mul_of_nonneg_left h3 (by omega)⟩
end Go.Proofs.Ythijnggeoinlfaa
