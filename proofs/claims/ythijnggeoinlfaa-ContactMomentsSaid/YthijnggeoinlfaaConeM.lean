/- The plain law of ContactCone: each combination of the vectors of the cone is a force of the contact. -/
import Derived.Test.YthijnggeoinlfaaAddsM
import Derived.Test.YthijnggeoinlfaaCtP
namespace Go.Proofs.Ythijnggeoinlfaa
open Go.RowKit

theorem has_edge {c : Ct} (h : CtOk c) {x : V3} (hb : Bd 10 x) (h1 : vDot x c.n = c.md) (h2 : cSide c.n x = c.mn) : cHas c x = true := by
  have d1 := h.d1
  rw [has_small h (hb.mono (by omega)), h1, h2, Int.mul_comm c.md c.mn]
  simp; omega
theorem sd1_add (m a b : Int) : sd1 m (a + b) ≤ sd1 m a + sd1 m b := by
  unfold sd1; (repeat' split) <;> omega
theorem sd1_mul {m x k : Int} (h : 0 ≤ k) : sd1 m (k * x) = k * sd1 m x := by
  rcases Int.lt_or_le k 1 with h1 | h1
  · obtain rfl : k = 0 := by omega
    simp [sd1]
  · exact sd1_times h1
theorem has_step {c : Ct} (h : CtOk c) {f x : V3} {k B : Int} (hB0 : 0 ≤ B) (hf : Bd B f) (hB : B ≤ 50000) (hx : Bd 10 x) (hk0 : 0 ≤ k) (hk1 : k ≤ 999) (h1 : cHas c f = true) (h2 : cHas c x = true) :
    cHas c (vSum f k x) = true ∧ Bd (B + 9990) (vSum f k x) := by
  have p1 := prodBd (m := 999) (n := 10) (show -999 ≤ k by omega) hk1 hx.x1 hx.x2
  have p2 := prodBd (m := 999) (n := 10) (show -999 ≤ k by omega) hk1 hx.y1 hx.y2
  have p3 := prodBd (m := 999) (n := 10) (show -999 ≤ k by omega) hk1 hx.z1 hx.z2
  obtain ⟨a1, a2, a3, a4, a5, a6⟩ := hf
  have e : vSum f k x = ⟨f.x + k * x.x, f.y + k * x.y, f.z + k * x.z⟩ := by
    simp only [vSum, wr_addr]
    exact V3.ext (@wr_id (f.x + k * x.x) ⟨by omega, by omega⟩) (@wr_id (f.y + k * x.y) ⟨by omega, by omega⟩) (@wr_id (f.z + k * x.z) ⟨by omega, by omega⟩)
  have hb2 : Bd (B + 9990) (⟨f.x + k * x.x, f.y + k * x.y, f.z + k * x.z⟩ : V3) := ⟨by simp only []; omega, by simp only []; omega, by simp only []; omega, by simp only []; omega, by simp only []; omega, by simp only []; omega⟩
  have hf5 : Bd 100000 f := ⟨by omega, by omega, by omega, by omega, by omega, by omega⟩
  have hx5 : Bd 100000 x := hx.mono (by omega)
  have hb5 := hb2.mono (show B + 9990 ≤ 100000 by omega)
  rw [e]
  refine ⟨?_, hb2⟩
  rw [has_small h hf5] at h1
  rw [has_small h hx5] at h2
  rw [has_small h hb5]
  simp only [Bool.and_eq_true, decide_eq_true_eq] at h1 h2 ⊢
  have ed : vDot (⟨f.x + k * x.x, f.y + k * x.y, f.z + k * x.z⟩ : V3) c.n = vDot f c.n + k * vDot x c.n := by
    rw [(dot_unit h.u hb5.ng3).1, (dot_unit h.u hf5.ng3).1, (dot_unit h.u hx5.ng3).1]
    simp only [Int.add_mul, Int.mul_add, Int.mul_assoc]
    omega
  have es : cSide c.n (⟨f.x + k * x.x, f.y + k * x.y, f.z + k * x.z⟩ : V3) ≤ cSide c.n f + k * cSide c.n x := by
    simp only [cSide, sideK, Int.mul_add]
    have q1 := sd1_add c.n.x f.x (k * x.x)
    have q2 := sd1_add c.n.y f.y (k * x.y)
    have q3 := sd1_add c.n.z f.z (k * x.z)
    rw [sd1_mul hk0] at q1 q2 q3
    omega
  rw [ed]
  have hd : 0 ≤ c.md := by have := h.d1; omega
  have m1 := Int.mul_le_mul_of_nonneg_left es hd
  have m2 := Int.mul_le_mul_of_nonneg_left h2.2 hk0
  have m3 := Int.mul_nonneg hk0 h2.1
  refine ⟨by omega, ?_⟩
  rw [Int.mul_add] at m1
  rw [Int.mul_add]
  have r1 : c.md * (k * cSide c.n x) = k * (c.md * cSide c.n x) := by rw [← Int.mul_assoc, Int.mul_comm c.md k, Int.mul_assoc]
  have r2 : c.mn * (k * vDot x c.n) = k * (c.mn * vDot x c.n) := by rw [← Int.mul_assoc, Int.mul_comm c.mn k, Int.mul_assoc]
  rw [r1] at m1
  rw [r2]
  omega
theorem cone_elems {c : Ct} (h : CtOk c) : ((coneL c).length = 1 ∨ (coneL c).length = 4) ∧ ∀ x ∈ coneL c, cHas c x = true ∧ Bd 10 x := by
  obtain ⟨a, n, mn, md⟩ := c
  have n1 := h.n1
  have n2 := h.n2
  have d1 := h.d1
  have d2 := h.d2
  have hu := h.u
  simp only [] at n1 n2 d1 d2 hu
  unfold coneL
  rw [if_pos h.check]
  simp only []
  have w1 : wrap64 mn = mn := wr_id ⟨by omega, by omega⟩
  have w2 : wrap64 md = md := wr_id ⟨by omega, by omega⟩
  have w3 : wrap64 (-mn) = -mn := wr_id ⟨by omega, by omega⟩
  have w4 : wrap64 (-md) = -md := wr_id ⟨by omega, by omega⟩
  have w0 : wrap64 0 = 0 := wr_zero
  have v1 : wrap64 1 = 1 := wr_id ⟨by omega, by omega⟩
  by_cases hm : mn = 0
  · subst hm
    rw [if_pos rfl]
    refine ⟨.inl rfl, fun x hx => ?_⟩
    simp only [List.mem_singleton] at hx
    subst hx
    have hb : Bd 10 x := by
      rcases unit_cases hu with rfl | rfl | rfl | rfl | rfl | rfl <;> exact ⟨by simp, by simp, by simp, by simp, by simp, by simp⟩
    refine ⟨?_, hb⟩
    rw [has_small h (hb.mono (by omega))]
    rcases unit_cases hu with rfl | rfl | rfl | rfl | rfl | rfl <;> simp [vDot, cSide, sideK, sd1, w0, v1]
  · rw [if_neg hm]
    have key : ∀ x : V3, Bd 10 x → vDot x n = md → cSide n x = mn → cHas ⟨a, n, mn, md⟩ x = true ∧ Bd 10 x := fun x hb e1 e2 => ⟨has_edge h hb e1 e2, hb⟩
    rcases unit_cases hu with rfl | rfl | rfl | rfl | rfl | rfl
    all_goals
      refine ⟨.inr (by simp [edgesK, compV]), fun x hx => ?_⟩
      simp only [edgesK, compV, edgeV] at hx
      simp [w0, w1, w2, w3, w4] at hx
      rcases hx with rfl | rfl | rfl | rfl
      all_goals
        refine key _ ⟨by simp only; omega, by simp only; omega, by simp only; omega, by simp only; omega, by simp only; omega, by simp only; omega⟩ ?_ ?_
        · simp [vDot, w0, w2]
        · simp only [cSide, sideK, sd1]
          (repeat' split)
          all_goals (first | omega | (exact absurd trivial ‹¬True›))
/-- The combination of the first k vectors of the cone. -/
def combV (L : List V3) (by_ : List Int) : Nat → V3
  | 0 => ⟨0, 0, 0⟩
  | k + 1 => vSum (combV L by_ k) (by_.getD k 0 % 1000) (L.getD k ⟨0, 0, 0⟩)
theorem has_zero {c : Ct} (h : CtOk c) : cHas c ⟨0, 0, 0⟩ = true := by
  rw [has_small h ⟨by simp, by simp, by simp, by simp, by simp, by simp⟩]
  have w0 : wrap64 0 = 0 := wr_zero
  simp [vDot, cSide, sideK, sd1, w0]
theorem has_comb {c : Ct} (h : CtOk c) {L : List V3} (hL : ∀ x ∈ L, cHas c x = true ∧ Bd 10 x) (hlen : L.length ≤ 4) (by_ : List Int) : ∀ k, k ≤ L.length → cHas c (combV L by_ k) = true ∧ Bd (9990 * (k : Int)) (combV L by_ k)
  | 0, _ => ⟨has_zero h, ⟨by simp [combV], by simp [combV], by simp [combV], by simp [combV], by simp [combV], by simp [combV]⟩⟩
  | k + 1, hk => by
    obtain ⟨h1, h2⟩ := has_comb h hL hlen by_ k (by omega)
    have hx := hL (L[k]) (List.getElem_mem (by omega))
    have e : L.getD k ⟨0, 0, 0⟩ = L[k] := by simp [show k < L.length by omega]
    simp only [combV]
    rw [e]
    have := has_step h (k := by_.getD k 0 % 1000) (by omega) h2 (by omega) hx.2 (Int.emod_nonneg _ (by omega)) (by have := Int.emod_lt_of_pos (by_.getD k 0) (show (0 : Int) < 1000 by omega); omega) h1 hx.1
    refine ⟨this.1, ?_⟩
    have e2 : 9990 * ((k + 1 : Nat) : Int) = 9990 * (k : Int) + 9990 := by omega
    rw [e2]; exact this.2
theorem has_normal {c : Ct} (h : CtOk c) {n : Int} (h1 : 1 ≤ n) (h2 : n ≤ 1000) : cHas c (vSum ⟨0, 0, 0⟩ n c.n) = true ∧ cHas c (vSum ⟨0, 0, 0⟩ (-n) c.n) = false := by
  obtain ⟨a, m, mn, md⟩ := c
  have hu := h.u
  have n1 := h.n1
  simp only [] at hu n1
  have w0 : wrap64 0 = 0 := wr_zero
  have w1 : wrap64 n = n := wr_id ⟨by omega, by omega⟩
  have w2 : wrap64 (-n) = -n := wr_id ⟨by omega, by omega⟩
  have key : ∀ (f : V3) (b : Int), Bd 1000 f → vDot f m = b → cSide m f = 0 → cHas ⟨a, m, mn, md⟩ f = decide (0 ≤ b) := fun f b hb e1 e2 => by
    rw [has_small h (hb.mono (by omega)), e1, e2]
    simp only [Int.mul_zero]
    by_cases hb0 : 0 ≤ b
    · have := Int.mul_nonneg n1 hb0
      simp [hb0, this]
    · simp [hb0]
  refine ⟨?_, ?_⟩
  · rw [key _ n ?_ ?_ ?_]
    · simp; omega
    · rcases unit_cases hu with rfl | rfl | rfl | rfl | rfl | rfl <;> (simp only [vSum]; simp [w0, w1, w2]; exact ⟨by simp only []; omega, by simp only []; omega, by simp only []; omega, by simp only []; omega, by simp only []; omega, by simp only []; omega⟩)
    · rcases unit_cases hu with rfl | rfl | rfl | rfl | rfl | rfl <;> simp [vSum, vDot, w0, w1, w2]
    · rcases unit_cases hu with rfl | rfl | rfl | rfl | rfl | rfl <;> simp [vSum, cSide, sideK, sd1, w0, w1, w2]
  · rw [key _ (-n) ?_ ?_ ?_]
    · simp; omega
    · rcases unit_cases hu with rfl | rfl | rfl | rfl | rfl | rfl <;> (simp only [vSum]; simp [w0, w1, w2]; exact ⟨by simp only []; omega, by simp only []; omega, by simp only []; omega, by simp only []; omega, by simp only []; omega, by simp only []; omega⟩)
    · rcases unit_cases hu with rfl | rfl | rfl | rfl | rfl | rfl <;> simp [vSum, vDot, w0, w1, w2]
    · rcases unit_cases hu with rfl | rfl | rfl | rfl | rfl | rfl <;> simp [vSum, cSide, sideK, sd1, w0, w1, w2]
end Go.Proofs.Ythijnggeoinlfaa
