/- The plain law of ContactSplits: each force of the contact is a combination of its cone. -/
import Derived.Test.YthijnggeoinlfaaConeM
namespace Go.Proofs.Ythijnggeoinlfaa
open Go.RowKit

theorem split_core {md mn t u U a b : Int} (hd1 : 1 ≤ md) (hd2 : md ≤ 10) (hn1 : 0 ≤ mn) (hn2 : mn ≤ 10) (ht1 : -999 ≤ t) (ht2 : t ≤ 999) (hu1 : -999 ≤ u) (hu2 : u ≤ 999) (hU1 : -999 ≤ U) (hU2 : U ≤ 999) (ha1 : 0 ≤ a) (ha2 : a ≤ 999) (hb1 : 0 ≤ b) (hb2 : b ≤ 999) :
    ∃ RS P0 P1 P2 P3 : Int, wrap64 (wrap64 (mn * U) - wrap64 (md * (a + b))) = RS ∧ RS = mn * U - md * (a + b) ∧ wrap64 (wrap64 (md * (a + t)) + RS) = P0 ∧ wrap64 (wrap64 (md * (a - t)) + RS) = P1 ∧ wrap64 (md * (b + u)) = P2 ∧ wrap64 (md * (b - u)) = P3 ∧
      -60000 ≤ P0 ∧ P0 ≤ 60000 ∧ -60000 ≤ P1 ∧ P1 ≤ 60000 ∧ -60000 ≤ P2 ∧ P2 ≤ 60000 ∧ -60000 ≤ P3 ∧ P3 ≤ 60000 ∧
      md * P0 + md * P1 + md * P2 + md * P3 = 2 * md * mn * U ∧ mn * P0 - mn * P1 = 2 * md * mn * t ∧ mn * P2 - mn * P3 = 2 * md * mn * u := by
  have p1 := prodBd (m := 10) (n := 999) (show -10 ≤ mn by omega) hn2 hU1 hU2
  have p2 := prodBd (m := 10) (n := 1998) (show -10 ≤ md by omega) hd2 (show -1998 ≤ a + b by omega) (show a + b ≤ 1998 by omega)
  have p3 := prodBd (m := 10) (n := 1998) (show -10 ≤ md by omega) hd2 (show -1998 ≤ a + t by omega) (show a + t ≤ 1998 by omega)
  have p4 := prodBd (m := 10) (n := 1998) (show -10 ≤ md by omega) hd2 (show -1998 ≤ a - t by omega) (show a - t ≤ 1998 by omega)
  have p5 := prodBd (m := 10) (n := 1998) (show -10 ≤ md by omega) hd2 (show -1998 ≤ b + u by omega) (show b + u ≤ 1998 by omega)
  have p6 := prodBd (m := 10) (n := 1998) (show -10 ≤ md by omega) hd2 (show -1998 ≤ b - u by omega) (show b - u ≤ 1998 by omega)
  refine ⟨mn * U - md * (a + b), md * (a + t) + (mn * U - md * (a + b)), md * (a - t) + (mn * U - md * (a + b)), md * (b + u), md * (b - u), ?_, rfl, ?_, ?_, ?_, ?_, by omega, by omega, by omega, by omega, by omega, by omega, by omega, by omega, by grind, by grind, by grind⟩
  · rw [wr_subl, wr_subr]; exact wr_id ⟨by omega, by omega⟩
  · rw [wr_addl]; exact wr_id ⟨by omega, by omega⟩
  · rw [wr_addl]; exact wr_id ⟨by omega, by omega⟩
  · exact wr_id ⟨by omega, by omega⟩
  · exact wr_id ⟨by omega, by omega⟩
theorem tdiv_twice {n x : Int} (h : 0 < n) : (2 * n * x).tdiv (2 * n) = x := Int.mul_tdiv_cancel_left x (by omega)
theorem dot_twice {mn y : Int} (h : -9990 ≤ mn * y ∧ mn * y ≤ 9990) : wrap64 (y * (2 * mn)) = 2 * mn * y := by
  rw [show y * (2 * mn) = 2 * mn * y by grind]
  exact wr_id ⟨by rw [Int.mul_assoc]; omega, by rw [Int.mul_assoc]; omega⟩
theorem big_id {md mn x : Int} (h : -99900 ≤ md * mn * x ∧ md * mn * x ≤ 99900) : wrap64 (2 * md * mn * x) = 2 * md * mn * x := by
  have e : 2 * md * mn * x = 2 * (md * mn * x) := by grind
  rw [e]; exact wr_id ⟨by omega, by omega⟩
theorem has_core {md mn U s : Int} (hd : 1 ≤ md) (hn : 0 < mn) (hs : 0 ≤ s) : (decide (0 ≤ U) && decide (md * s ≤ mn * U)) = decide (0 ≤ mn * U - md * s) := by
  have h1 := Int.mul_nonneg (show 0 ≤ md by omega) hs
  rcases Int.lt_or_le U 0 with h2 | h2
  · have h3 := Int.mul_pos hn (show 0 < -U by omega)
    rw [Int.mul_neg] at h3
    rw [decide_eq_false (show ¬ 0 ≤ U by omega), decide_eq_false (show ¬ 0 ≤ mn * U - md * s by omega)]; rfl
  · rw [decide_eq_true h2, Bool.true_and]
    exact decide_eq_decide.2 ⟨fun h => by omega, fun h => by omega⟩
/-- What the law computes. -/
structure SplitF (c : Ct) (f e0 e1 e2 e3 g0 g1 T : V3) (D0 D1 t u U a b RS P0 P1 P2 P3 : Int) : Prop where
  cone : coneL c = [e0, e1, e2, e3]
  s0 : vSub e0 e1 = g0
  s1 : vSub e2 e3 = g1
  d0 : vDot f g0 = D0
  d1 : vDot f g1 = D1
  q0 : D0.tdiv (2 * c.mn) = t
  q1 : D1.tdiv (2 * c.mn) = u
  t1 : -999 ≤ t
  t2 : t ≤ 999
  u1 : -999 ≤ u
  u2 : u ≤ 999
  ma : (if t < -t then -t else t) = a
  mb : (if u < -u then -u else u) = b
  up : vDot f c.n = U
  rs : wrap64 (wrap64 (c.mn * U) - wrap64 (c.md * (a + b))) = RS
  p0 : wrap64 (wrap64 (c.md * (a + t)) + RS) = P0
  p1 : wrap64 (wrap64 (c.md * (a - t)) + RS) = P1
  p2 : wrap64 (c.md * (b + u)) = P2
  p3 : wrap64 (c.md * (b - u)) = P3
  tot : vSum (vSum (vSum (vSum ⟨0, 0, 0⟩ P0 e0) P1 e1) P2 e2) P3 e3 = T
  whole : vSum ⟨0, 0, 0⟩ (wrap64 (wrap64 (2 * c.md) * c.mn)) f = T
  has : cHas c f = decide (0 ≤ RS)
theorem split_0 {a0 : V3} {mn md : Int} (h : CtOk ⟨a0, ⟨1, 0, 0⟩, mn, md⟩) (hm : ¬ mn = 0) {f : V3} (hf : Bd 999 f) :
    ∃ e0 e1 e2 e3 g0 g1 T D0 D1 t u U a b RS P0 P1 P2 P3, SplitF ⟨a0, ⟨1, 0, 0⟩, mn, md⟩ f e0 e1 e2 e3 g0 g1 T D0 D1 t u U a b RS P0 P1 P2 P3 := by
  have n1 := h.n1
  have n2 := h.n2
  have d1 := h.d1
  have d2 := h.d2
  simp only [] at n1 n2 d1 d2
  obtain ⟨b1, b2, b3, b4, b5, b6⟩ := hf
  have w0 : wrap64 0 = 0 := wr_zero
  have w1 : wrap64 mn = mn := wr_id ⟨by omega, by omega⟩
  have w2 : wrap64 md = md := wr_id ⟨by omega, by omega⟩
  have w3 : wrap64 (-mn) = -mn := wr_id ⟨by omega, by omega⟩
  have w4 : wrap64 (-md) = -md := wr_id ⟨by omega, by omega⟩
  obtain ⟨RS, P0, P1, P2, P3, k1, k2, k3, k4, k5, k6, l1, l2, l3, l4, l5, l6, l7, l8, m1, m2, m3⟩ := split_core (md := md) (mn := mn) (t := f.y) (u := f.z) (U := f.x) (a := if f.y < -f.y then -f.y else f.y) (b := if f.z < -f.z then -f.z else f.z)
    d1 d2 n1 (by omega) (by omega) (by omega) (by omega) (by omega) (by omega) (by omega) (by split <;> omega) (by split <;> omega) (by split <;> omega) (by split <;> omega)
  have r1 := prodBd (m := 60000) (n := 10) l1 l2 (show -10 ≤ md by omega) d2
  have r2 := prodBd (m := 60000) (n := 10) l3 l4 (show -10 ≤ md by omega) d2
  have r3 := prodBd (m := 60000) (n := 10) l5 l6 (show -10 ≤ md by omega) d2
  have r4 := prodBd (m := 60000) (n := 10) l7 l8 (show -10 ≤ md by omega) d2
  have r5 := prodBd (m := 60000) (n := 10) l1 l2 (show -10 ≤ mn by omega) (show mn ≤ 10 by omega)
  have r6 := prodBd (m := 60000) (n := 10) l3 l4 (show -10 ≤ mn by omega) (show mn ≤ 10 by omega)
  have r7 := prodBd (m := 60000) (n := 10) l5 l6 (show -10 ≤ mn by omega) (show mn ≤ 10 by omega)
  have r8 := prodBd (m := 60000) (n := 10) l7 l8 (show -10 ≤ mn by omega) (show mn ≤ 10 by omega)
  have y1 := prodBd (m := 10) (n := 10) (show -10 ≤ md by omega) d2 (show -10 ≤ mn by omega) (show mn ≤ 10 by omega)
  have z1 := prodBd (m := 10) (n := 999) (show -10 ≤ mn by omega) (show mn ≤ 10 by omega) b1 b2
  have z2 := prodBd (m := 10) (n := 999) (show -10 ≤ mn by omega) (show mn ≤ 10 by omega) b3 b4
  have z3 := prodBd (m := 10) (n := 999) (show -10 ≤ mn by omega) (show mn ≤ 10 by omega) b5 b6
  have v1 := prodBd (m := 100) (n := 999) (show -100 ≤ md * mn by omega) (show md * mn ≤ 100 by omega) b1 b2
  have v2 := prodBd (m := 100) (n := 999) (show -100 ≤ md * mn by omega) (show md * mn ≤ 100 by omega) b3 b4
  have v3 := prodBd (m := 100) (n := 999) (show -100 ≤ md * mn by omega) (show md * mn ≤ 100 by omega) b5 b6
  have g2 : wrap64 (mn + mn) = 2 * mn := by rw [show mn + mn = 2 * mn by omega]; exact wr_id ⟨by omega, by omega⟩
  have x2 : wrap64 (wrap64 (2 * md) * mn) = 2 * md * mn := by rw [wr_mull]; exact wr_id ⟨by grind, by grind⟩
  refine ⟨⟨md, mn, 0⟩, ⟨md, -mn, 0⟩, ⟨md, 0, mn⟩, ⟨md, 0, -mn⟩, ⟨0, 2 * mn, 0⟩, ⟨0, 0, 2 * mn⟩, ⟨2 * md * mn * f.x, 2 * md * mn * f.y, 2 * md * mn * f.z⟩, 2 * mn * f.y, 2 * mn * f.z, f.y, f.z, f.x, _, _, RS, P0, P1, P2, P3, ⟨?_, ?_, ?_, ?_, ?_, tdiv_twice (show 0 < mn by omega), tdiv_twice (show 0 < mn by omega), by omega, by omega, by omega, by omega, rfl, rfl, ?_, k1, k3, k4, k5, k6, ?_, ?_, ?_⟩⟩
  · unfold coneL
    rw [if_pos h.check, if_neg hm]
    simp [edgesK, compV, edgeV, w0, w1, w2, w3]
  · simp [vSub, w0, g2]
  · simp [vSub, w0, g2]
  · simp only [vDot, Int.mul_zero, w0, Int.add_zero, Int.zero_add, wr_idem]
    exact dot_twice (by omega)
  · simp only [vDot, Int.mul_zero, w0, Int.add_zero, Int.zero_add, wr_idem]
    exact dot_twice (by omega)
  · simp only [vDot, Int.mul_zero, Int.mul_one, w0, Int.add_zero, wr_idem]
    exact wr_id ⟨by omega, by omega⟩
  · simp only [vSum, Int.zero_add, Int.mul_zero, Int.mul_neg, w0, Int.add_zero, wr_addl, wr_addr, wr_idem]
    refine V3.ext ?_ ?_ ?_
    · rw [← big_id (md := md) (mn := mn) (x := f.x) (by omega)]; exact congrArg wrap64 (by grind)
    · rw [← big_id (md := md) (mn := mn) (x := f.y) (by omega)]; exact congrArg wrap64 (by grind)
    · rw [← big_id (md := md) (mn := mn) (x := f.z) (by omega)]; exact congrArg wrap64 (by grind)
  · simp only [x2, vSum, Int.zero_add, wr_idem]
    exact V3.ext (big_id (by omega)) (big_id (by omega)) (big_id (by omega))
  · have hb : Bd 100000 f := ⟨by omega, by omega, by omega, by omega, by omega, by omega⟩
    have eu : vDot f ⟨1, 0, 0⟩ = f.x := by
      simp only [vDot, Int.mul_zero, Int.mul_one, w0, Int.add_zero, wr_idem]
      exact wr_id ⟨by omega, by omega⟩
    rw [has_small h hb]
    simp only []
    rw [eu, k2, ← has_core (by omega) (by omega) (by split <;> split <;> omega)]
    simp [cSide, sideK, sd1]
theorem split_1 {a0 : V3} {mn md : Int} (h : CtOk ⟨a0, ⟨-1, 0, 0⟩, mn, md⟩) (hm : ¬ mn = 0) {f : V3} (hf : Bd 999 f) :
    ∃ e0 e1 e2 e3 g0 g1 T D0 D1 t u U a b RS P0 P1 P2 P3, SplitF ⟨a0, ⟨-1, 0, 0⟩, mn, md⟩ f e0 e1 e2 e3 g0 g1 T D0 D1 t u U a b RS P0 P1 P2 P3 := by
  have n1 := h.n1
  have n2 := h.n2
  have d1 := h.d1
  have d2 := h.d2
  simp only [] at n1 n2 d1 d2
  obtain ⟨b1, b2, b3, b4, b5, b6⟩ := hf
  have w0 : wrap64 0 = 0 := wr_zero
  have w1 : wrap64 mn = mn := wr_id ⟨by omega, by omega⟩
  have w2 : wrap64 md = md := wr_id ⟨by omega, by omega⟩
  have w3 : wrap64 (-mn) = -mn := wr_id ⟨by omega, by omega⟩
  have w4 : wrap64 (-md) = -md := wr_id ⟨by omega, by omega⟩
  obtain ⟨RS, P0, P1, P2, P3, k1, k2, k3, k4, k5, k6, l1, l2, l3, l4, l5, l6, l7, l8, m1, m2, m3⟩ := split_core (md := md) (mn := mn) (t := f.y) (u := f.z) (U := -f.x) (a := if f.y < -f.y then -f.y else f.y) (b := if f.z < -f.z then -f.z else f.z)
    d1 d2 n1 (by omega) (by omega) (by omega) (by omega) (by omega) (by omega) (by omega) (by split <;> omega) (by split <;> omega) (by split <;> omega) (by split <;> omega)
  have r1 := prodBd (m := 60000) (n := 10) l1 l2 (show -10 ≤ md by omega) d2
  have r2 := prodBd (m := 60000) (n := 10) l3 l4 (show -10 ≤ md by omega) d2
  have r3 := prodBd (m := 60000) (n := 10) l5 l6 (show -10 ≤ md by omega) d2
  have r4 := prodBd (m := 60000) (n := 10) l7 l8 (show -10 ≤ md by omega) d2
  have r5 := prodBd (m := 60000) (n := 10) l1 l2 (show -10 ≤ mn by omega) (show mn ≤ 10 by omega)
  have r6 := prodBd (m := 60000) (n := 10) l3 l4 (show -10 ≤ mn by omega) (show mn ≤ 10 by omega)
  have r7 := prodBd (m := 60000) (n := 10) l5 l6 (show -10 ≤ mn by omega) (show mn ≤ 10 by omega)
  have r8 := prodBd (m := 60000) (n := 10) l7 l8 (show -10 ≤ mn by omega) (show mn ≤ 10 by omega)
  have y1 := prodBd (m := 10) (n := 10) (show -10 ≤ md by omega) d2 (show -10 ≤ mn by omega) (show mn ≤ 10 by omega)
  have z1 := prodBd (m := 10) (n := 999) (show -10 ≤ mn by omega) (show mn ≤ 10 by omega) b1 b2
  have z2 := prodBd (m := 10) (n := 999) (show -10 ≤ mn by omega) (show mn ≤ 10 by omega) b3 b4
  have z3 := prodBd (m := 10) (n := 999) (show -10 ≤ mn by omega) (show mn ≤ 10 by omega) b5 b6
  have v1 := prodBd (m := 100) (n := 999) (show -100 ≤ md * mn by omega) (show md * mn ≤ 100 by omega) b1 b2
  have v2 := prodBd (m := 100) (n := 999) (show -100 ≤ md * mn by omega) (show md * mn ≤ 100 by omega) b3 b4
  have v3 := prodBd (m := 100) (n := 999) (show -100 ≤ md * mn by omega) (show md * mn ≤ 100 by omega) b5 b6
  have g2 : wrap64 (mn + mn) = 2 * mn := by rw [show mn + mn = 2 * mn by omega]; exact wr_id ⟨by omega, by omega⟩
  have x2 : wrap64 (wrap64 (2 * md) * mn) = 2 * md * mn := by rw [wr_mull]; exact wr_id ⟨by grind, by grind⟩
  refine ⟨⟨-md, mn, 0⟩, ⟨-md, -mn, 0⟩, ⟨-md, 0, mn⟩, ⟨-md, 0, -mn⟩, ⟨0, 2 * mn, 0⟩, ⟨0, 0, 2 * mn⟩, ⟨2 * md * mn * f.x, 2 * md * mn * f.y, 2 * md * mn * f.z⟩, 2 * mn * f.y, 2 * mn * f.z, f.y, f.z, -f.x, _, _, RS, P0, P1, P2, P3, ⟨?_, ?_, ?_, ?_, ?_, tdiv_twice (show 0 < mn by omega), tdiv_twice (show 0 < mn by omega), by omega, by omega, by omega, by omega, rfl, rfl, ?_, k1, k3, k4, k5, k6, ?_, ?_, ?_⟩⟩
  · unfold coneL
    rw [if_pos h.check, if_neg hm]
    simp [edgesK, compV, edgeV, w0, w1, w3, w4]
  · simp [vSub, w0, g2]
  · simp [vSub, w0, g2]
  · simp only [vDot, Int.mul_zero, w0, Int.add_zero, Int.zero_add, wr_idem]
    exact dot_twice (by omega)
  · simp only [vDot, Int.mul_zero, w0, Int.add_zero, Int.zero_add, wr_idem]
    exact dot_twice (by omega)
  · simp only [vDot, Int.mul_zero, Int.mul_one, Int.mul_neg, w0, Int.add_zero, wr_idem]
    exact wr_id ⟨by omega, by omega⟩
  · simp only [vSum, Int.zero_add, Int.mul_zero, Int.mul_neg, w0, Int.add_zero, wr_addl, wr_addr, wr_idem]
    refine V3.ext ?_ ?_ ?_
    · rw [← big_id (md := md) (mn := mn) (x := f.x) (by omega)]; exact congrArg wrap64 (by grind)
    · rw [← big_id (md := md) (mn := mn) (x := f.y) (by omega)]; exact congrArg wrap64 (by grind)
    · rw [← big_id (md := md) (mn := mn) (x := f.z) (by omega)]; exact congrArg wrap64 (by grind)
  · simp only [x2, vSum, Int.zero_add, wr_idem]
    exact V3.ext (big_id (by omega)) (big_id (by omega)) (big_id (by omega))
  · have hb : Bd 100000 f := ⟨by omega, by omega, by omega, by omega, by omega, by omega⟩
    have eu : vDot f ⟨-1, 0, 0⟩ = -f.x := by
      simp only [vDot, Int.mul_zero, Int.mul_one, Int.mul_neg, w0, Int.add_zero, wr_idem]
      exact wr_id ⟨by omega, by omega⟩
    rw [has_small h hb]
    simp only []
    rw [eu, k2, ← has_core (by omega) (by omega) (by split <;> split <;> omega)]
    simp [cSide, sideK, sd1]
theorem split_2 {a0 : V3} {mn md : Int} (h : CtOk ⟨a0, ⟨0, 1, 0⟩, mn, md⟩) (hm : ¬ mn = 0) {f : V3} (hf : Bd 999 f) :
    ∃ e0 e1 e2 e3 g0 g1 T D0 D1 t u U a b RS P0 P1 P2 P3, SplitF ⟨a0, ⟨0, 1, 0⟩, mn, md⟩ f e0 e1 e2 e3 g0 g1 T D0 D1 t u U a b RS P0 P1 P2 P3 := by
  have n1 := h.n1
  have n2 := h.n2
  have d1 := h.d1
  have d2 := h.d2
  simp only [] at n1 n2 d1 d2
  obtain ⟨b1, b2, b3, b4, b5, b6⟩ := hf
  have w0 : wrap64 0 = 0 := wr_zero
  have w1 : wrap64 mn = mn := wr_id ⟨by omega, by omega⟩
  have w2 : wrap64 md = md := wr_id ⟨by omega, by omega⟩
  have w3 : wrap64 (-mn) = -mn := wr_id ⟨by omega, by omega⟩
  have w4 : wrap64 (-md) = -md := wr_id ⟨by omega, by omega⟩
  obtain ⟨RS, P0, P1, P2, P3, k1, k2, k3, k4, k5, k6, l1, l2, l3, l4, l5, l6, l7, l8, m1, m2, m3⟩ := split_core (md := md) (mn := mn) (t := f.x) (u := f.z) (U := f.y) (a := if f.x < -f.x then -f.x else f.x) (b := if f.z < -f.z then -f.z else f.z)
    d1 d2 n1 (by omega) (by omega) (by omega) (by omega) (by omega) (by omega) (by omega) (by split <;> omega) (by split <;> omega) (by split <;> omega) (by split <;> omega)
  have r1 := prodBd (m := 60000) (n := 10) l1 l2 (show -10 ≤ md by omega) d2
  have r2 := prodBd (m := 60000) (n := 10) l3 l4 (show -10 ≤ md by omega) d2
  have r3 := prodBd (m := 60000) (n := 10) l5 l6 (show -10 ≤ md by omega) d2
  have r4 := prodBd (m := 60000) (n := 10) l7 l8 (show -10 ≤ md by omega) d2
  have r5 := prodBd (m := 60000) (n := 10) l1 l2 (show -10 ≤ mn by omega) (show mn ≤ 10 by omega)
  have r6 := prodBd (m := 60000) (n := 10) l3 l4 (show -10 ≤ mn by omega) (show mn ≤ 10 by omega)
  have r7 := prodBd (m := 60000) (n := 10) l5 l6 (show -10 ≤ mn by omega) (show mn ≤ 10 by omega)
  have r8 := prodBd (m := 60000) (n := 10) l7 l8 (show -10 ≤ mn by omega) (show mn ≤ 10 by omega)
  have y1 := prodBd (m := 10) (n := 10) (show -10 ≤ md by omega) d2 (show -10 ≤ mn by omega) (show mn ≤ 10 by omega)
  have z1 := prodBd (m := 10) (n := 999) (show -10 ≤ mn by omega) (show mn ≤ 10 by omega) b1 b2
  have z2 := prodBd (m := 10) (n := 999) (show -10 ≤ mn by omega) (show mn ≤ 10 by omega) b3 b4
  have z3 := prodBd (m := 10) (n := 999) (show -10 ≤ mn by omega) (show mn ≤ 10 by omega) b5 b6
  have v1 := prodBd (m := 100) (n := 999) (show -100 ≤ md * mn by omega) (show md * mn ≤ 100 by omega) b1 b2
  have v2 := prodBd (m := 100) (n := 999) (show -100 ≤ md * mn by omega) (show md * mn ≤ 100 by omega) b3 b4
  have v3 := prodBd (m := 100) (n := 999) (show -100 ≤ md * mn by omega) (show md * mn ≤ 100 by omega) b5 b6
  have g2 : wrap64 (mn + mn) = 2 * mn := by rw [show mn + mn = 2 * mn by omega]; exact wr_id ⟨by omega, by omega⟩
  have x2 : wrap64 (wrap64 (2 * md) * mn) = 2 * md * mn := by rw [wr_mull]; exact wr_id ⟨by grind, by grind⟩
  refine ⟨⟨mn, md, 0⟩, ⟨-mn, md, 0⟩, ⟨0, md, mn⟩, ⟨0, md, -mn⟩, ⟨2 * mn, 0, 0⟩, ⟨0, 0, 2 * mn⟩, ⟨2 * md * mn * f.x, 2 * md * mn * f.y, 2 * md * mn * f.z⟩, 2 * mn * f.x, 2 * mn * f.z, f.x, f.z, f.y, _, _, RS, P0, P1, P2, P3, ⟨?_, ?_, ?_, ?_, ?_, tdiv_twice (show 0 < mn by omega), tdiv_twice (show 0 < mn by omega), by omega, by omega, by omega, by omega, rfl, rfl, ?_, k1, k3, k4, k5, k6, ?_, ?_, ?_⟩⟩
  · unfold coneL
    rw [if_pos h.check, if_neg hm]
    simp [edgesK, compV, edgeV, w0, w1, w2, w3]
  · simp [vSub, w0, g2]
  · simp [vSub, w0, g2]
  · simp only [vDot, Int.mul_zero, w0, Int.add_zero, wr_idem]
    exact dot_twice (by omega)
  · simp only [vDot, Int.mul_zero, w0, Int.add_zero, Int.zero_add, wr_idem]
    exact dot_twice (by omega)
  · simp only [vDot, Int.mul_zero, Int.mul_one, w0, Int.add_zero, Int.zero_add, wr_idem]
    exact wr_id ⟨by omega, by omega⟩
  · simp only [vSum, Int.zero_add, Int.mul_zero, Int.mul_neg, w0, Int.add_zero, wr_addl, wr_addr, wr_idem]
    refine V3.ext ?_ ?_ ?_
    · rw [← big_id (md := md) (mn := mn) (x := f.x) (by omega)]; exact congrArg wrap64 (by grind)
    · rw [← big_id (md := md) (mn := mn) (x := f.y) (by omega)]; exact congrArg wrap64 (by grind)
    · rw [← big_id (md := md) (mn := mn) (x := f.z) (by omega)]; exact congrArg wrap64 (by grind)
  · simp only [x2, vSum, Int.zero_add, wr_idem]
    exact V3.ext (big_id (by omega)) (big_id (by omega)) (big_id (by omega))
  · have hb : Bd 100000 f := ⟨by omega, by omega, by omega, by omega, by omega, by omega⟩
    have eu : vDot f ⟨0, 1, 0⟩ = f.y := by
      simp only [vDot, Int.mul_zero, Int.mul_one, w0, Int.add_zero, Int.zero_add, wr_idem]
      exact wr_id ⟨by omega, by omega⟩
    rw [has_small h hb]
    simp only []
    rw [eu, k2, ← has_core (by omega) (by omega) (by split <;> split <;> omega)]
    simp [cSide, sideK, sd1]
theorem split_3 {a0 : V3} {mn md : Int} (h : CtOk ⟨a0, ⟨0, -1, 0⟩, mn, md⟩) (hm : ¬ mn = 0) {f : V3} (hf : Bd 999 f) :
    ∃ e0 e1 e2 e3 g0 g1 T D0 D1 t u U a b RS P0 P1 P2 P3, SplitF ⟨a0, ⟨0, -1, 0⟩, mn, md⟩ f e0 e1 e2 e3 g0 g1 T D0 D1 t u U a b RS P0 P1 P2 P3 := by
  have n1 := h.n1
  have n2 := h.n2
  have d1 := h.d1
  have d2 := h.d2
  simp only [] at n1 n2 d1 d2
  obtain ⟨b1, b2, b3, b4, b5, b6⟩ := hf
  have w0 : wrap64 0 = 0 := wr_zero
  have w1 : wrap64 mn = mn := wr_id ⟨by omega, by omega⟩
  have w2 : wrap64 md = md := wr_id ⟨by omega, by omega⟩
  have w3 : wrap64 (-mn) = -mn := wr_id ⟨by omega, by omega⟩
  have w4 : wrap64 (-md) = -md := wr_id ⟨by omega, by omega⟩
  obtain ⟨RS, P0, P1, P2, P3, k1, k2, k3, k4, k5, k6, l1, l2, l3, l4, l5, l6, l7, l8, m1, m2, m3⟩ := split_core (md := md) (mn := mn) (t := f.x) (u := f.z) (U := -f.y) (a := if f.x < -f.x then -f.x else f.x) (b := if f.z < -f.z then -f.z else f.z)
    d1 d2 n1 (by omega) (by omega) (by omega) (by omega) (by omega) (by omega) (by omega) (by split <;> omega) (by split <;> omega) (by split <;> omega) (by split <;> omega)
  have r1 := prodBd (m := 60000) (n := 10) l1 l2 (show -10 ≤ md by omega) d2
  have r2 := prodBd (m := 60000) (n := 10) l3 l4 (show -10 ≤ md by omega) d2
  have r3 := prodBd (m := 60000) (n := 10) l5 l6 (show -10 ≤ md by omega) d2
  have r4 := prodBd (m := 60000) (n := 10) l7 l8 (show -10 ≤ md by omega) d2
  have r5 := prodBd (m := 60000) (n := 10) l1 l2 (show -10 ≤ mn by omega) (show mn ≤ 10 by omega)
  have r6 := prodBd (m := 60000) (n := 10) l3 l4 (show -10 ≤ mn by omega) (show mn ≤ 10 by omega)
  have r7 := prodBd (m := 60000) (n := 10) l5 l6 (show -10 ≤ mn by omega) (show mn ≤ 10 by omega)
  have r8 := prodBd (m := 60000) (n := 10) l7 l8 (show -10 ≤ mn by omega) (show mn ≤ 10 by omega)
  have y1 := prodBd (m := 10) (n := 10) (show -10 ≤ md by omega) d2 (show -10 ≤ mn by omega) (show mn ≤ 10 by omega)
  have z1 := prodBd (m := 10) (n := 999) (show -10 ≤ mn by omega) (show mn ≤ 10 by omega) b1 b2
  have z2 := prodBd (m := 10) (n := 999) (show -10 ≤ mn by omega) (show mn ≤ 10 by omega) b3 b4
  have z3 := prodBd (m := 10) (n := 999) (show -10 ≤ mn by omega) (show mn ≤ 10 by omega) b5 b6
  have v1 := prodBd (m := 100) (n := 999) (show -100 ≤ md * mn by omega) (show md * mn ≤ 100 by omega) b1 b2
  have v2 := prodBd (m := 100) (n := 999) (show -100 ≤ md * mn by omega) (show md * mn ≤ 100 by omega) b3 b4
  have v3 := prodBd (m := 100) (n := 999) (show -100 ≤ md * mn by omega) (show md * mn ≤ 100 by omega) b5 b6
  have g2 : wrap64 (mn + mn) = 2 * mn := by rw [show mn + mn = 2 * mn by omega]; exact wr_id ⟨by omega, by omega⟩
  have x2 : wrap64 (wrap64 (2 * md) * mn) = 2 * md * mn := by rw [wr_mull]; exact wr_id ⟨by grind, by grind⟩
  refine ⟨⟨mn, -md, 0⟩, ⟨-mn, -md, 0⟩, ⟨0, -md, mn⟩, ⟨0, -md, -mn⟩, ⟨2 * mn, 0, 0⟩, ⟨0, 0, 2 * mn⟩, ⟨2 * md * mn * f.x, 2 * md * mn * f.y, 2 * md * mn * f.z⟩, 2 * mn * f.x, 2 * mn * f.z, f.x, f.z, -f.y, _, _, RS, P0, P1, P2, P3, ⟨?_, ?_, ?_, ?_, ?_, tdiv_twice (show 0 < mn by omega), tdiv_twice (show 0 < mn by omega), by omega, by omega, by omega, by omega, rfl, rfl, ?_, k1, k3, k4, k5, k6, ?_, ?_, ?_⟩⟩
  · unfold coneL
    rw [if_pos h.check, if_neg hm]
    simp [edgesK, compV, edgeV, w0, w1, w3, w4]
  · simp [vSub, w0, g2]
  · simp [vSub, w0, g2]
  · simp only [vDot, Int.mul_zero, w0, Int.add_zero, wr_idem]
    exact dot_twice (by omega)
  · simp only [vDot, Int.mul_zero, w0, Int.add_zero, Int.zero_add, wr_idem]
    exact dot_twice (by omega)
  · simp only [vDot, Int.mul_zero, Int.mul_one, Int.mul_neg, w0, Int.add_zero, Int.zero_add, wr_idem]
    exact wr_id ⟨by omega, by omega⟩
  · simp only [vSum, Int.zero_add, Int.mul_zero, Int.mul_neg, w0, Int.add_zero, wr_addl, wr_addr, wr_idem]
    refine V3.ext ?_ ?_ ?_
    · rw [← big_id (md := md) (mn := mn) (x := f.x) (by omega)]; exact congrArg wrap64 (by grind)
    · rw [← big_id (md := md) (mn := mn) (x := f.y) (by omega)]; exact congrArg wrap64 (by grind)
    · rw [← big_id (md := md) (mn := mn) (x := f.z) (by omega)]; exact congrArg wrap64 (by grind)
  · simp only [x2, vSum, Int.zero_add, wr_idem]
    exact V3.ext (big_id (by omega)) (big_id (by omega)) (big_id (by omega))
  · have hb : Bd 100000 f := ⟨by omega, by omega, by omega, by omega, by omega, by omega⟩
    have eu : vDot f ⟨0, -1, 0⟩ = -f.y := by
      simp only [vDot, Int.mul_zero, Int.mul_one, Int.mul_neg, w0, Int.add_zero, Int.zero_add, wr_idem]
      exact wr_id ⟨by omega, by omega⟩
    rw [has_small h hb]
    simp only []
    rw [eu, k2, ← has_core (by omega) (by omega) (by split <;> split <;> omega)]
    simp [cSide, sideK, sd1]
theorem split_4 {a0 : V3} {mn md : Int} (h : CtOk ⟨a0, ⟨0, 0, 1⟩, mn, md⟩) (hm : ¬ mn = 0) {f : V3} (hf : Bd 999 f) :
    ∃ e0 e1 e2 e3 g0 g1 T D0 D1 t u U a b RS P0 P1 P2 P3, SplitF ⟨a0, ⟨0, 0, 1⟩, mn, md⟩ f e0 e1 e2 e3 g0 g1 T D0 D1 t u U a b RS P0 P1 P2 P3 := by
  have n1 := h.n1
  have n2 := h.n2
  have d1 := h.d1
  have d2 := h.d2
  simp only [] at n1 n2 d1 d2
  obtain ⟨b1, b2, b3, b4, b5, b6⟩ := hf
  have w0 : wrap64 0 = 0 := wr_zero
  have w1 : wrap64 mn = mn := wr_id ⟨by omega, by omega⟩
  have w2 : wrap64 md = md := wr_id ⟨by omega, by omega⟩
  have w3 : wrap64 (-mn) = -mn := wr_id ⟨by omega, by omega⟩
  have w4 : wrap64 (-md) = -md := wr_id ⟨by omega, by omega⟩
  obtain ⟨RS, P0, P1, P2, P3, k1, k2, k3, k4, k5, k6, l1, l2, l3, l4, l5, l6, l7, l8, m1, m2, m3⟩ := split_core (md := md) (mn := mn) (t := f.x) (u := f.y) (U := f.z) (a := if f.x < -f.x then -f.x else f.x) (b := if f.y < -f.y then -f.y else f.y)
    d1 d2 n1 (by omega) (by omega) (by omega) (by omega) (by omega) (by omega) (by omega) (by split <;> omega) (by split <;> omega) (by split <;> omega) (by split <;> omega)
  have r1 := prodBd (m := 60000) (n := 10) l1 l2 (show -10 ≤ md by omega) d2
  have r2 := prodBd (m := 60000) (n := 10) l3 l4 (show -10 ≤ md by omega) d2
  have r3 := prodBd (m := 60000) (n := 10) l5 l6 (show -10 ≤ md by omega) d2
  have r4 := prodBd (m := 60000) (n := 10) l7 l8 (show -10 ≤ md by omega) d2
  have r5 := prodBd (m := 60000) (n := 10) l1 l2 (show -10 ≤ mn by omega) (show mn ≤ 10 by omega)
  have r6 := prodBd (m := 60000) (n := 10) l3 l4 (show -10 ≤ mn by omega) (show mn ≤ 10 by omega)
  have r7 := prodBd (m := 60000) (n := 10) l5 l6 (show -10 ≤ mn by omega) (show mn ≤ 10 by omega)
  have r8 := prodBd (m := 60000) (n := 10) l7 l8 (show -10 ≤ mn by omega) (show mn ≤ 10 by omega)
  have y1 := prodBd (m := 10) (n := 10) (show -10 ≤ md by omega) d2 (show -10 ≤ mn by omega) (show mn ≤ 10 by omega)
  have z1 := prodBd (m := 10) (n := 999) (show -10 ≤ mn by omega) (show mn ≤ 10 by omega) b1 b2
  have z2 := prodBd (m := 10) (n := 999) (show -10 ≤ mn by omega) (show mn ≤ 10 by omega) b3 b4
  have z3 := prodBd (m := 10) (n := 999) (show -10 ≤ mn by omega) (show mn ≤ 10 by omega) b5 b6
  have v1 := prodBd (m := 100) (n := 999) (show -100 ≤ md * mn by omega) (show md * mn ≤ 100 by omega) b1 b2
  have v2 := prodBd (m := 100) (n := 999) (show -100 ≤ md * mn by omega) (show md * mn ≤ 100 by omega) b3 b4
  have v3 := prodBd (m := 100) (n := 999) (show -100 ≤ md * mn by omega) (show md * mn ≤ 100 by omega) b5 b6
  have g2 : wrap64 (mn + mn) = 2 * mn := by rw [show mn + mn = 2 * mn by omega]; exact wr_id ⟨by omega, by omega⟩
  have x2 : wrap64 (wrap64 (2 * md) * mn) = 2 * md * mn := by rw [wr_mull]; exact wr_id ⟨by grind, by grind⟩
  refine ⟨⟨mn, 0, md⟩, ⟨-mn, 0, md⟩, ⟨0, mn, md⟩, ⟨0, -mn, md⟩, ⟨2 * mn, 0, 0⟩, ⟨0, 2 * mn, 0⟩, ⟨2 * md * mn * f.x, 2 * md * mn * f.y, 2 * md * mn * f.z⟩, 2 * mn * f.x, 2 * mn * f.y, f.x, f.y, f.z, _, _, RS, P0, P1, P2, P3, ⟨?_, ?_, ?_, ?_, ?_, tdiv_twice (show 0 < mn by omega), tdiv_twice (show 0 < mn by omega), by omega, by omega, by omega, by omega, rfl, rfl, ?_, k1, k3, k4, k5, k6, ?_, ?_, ?_⟩⟩
  · unfold coneL
    rw [if_pos h.check, if_neg hm]
    simp [edgesK, compV, edgeV, w0, w1, w2, w3]
  · simp [vSub, w0, g2]
  · simp [vSub, w0, g2]
  · simp only [vDot, Int.mul_zero, w0, Int.add_zero, wr_idem]
    exact dot_twice (by omega)
  · simp only [vDot, Int.mul_zero, w0, Int.add_zero, Int.zero_add, wr_idem]
    exact dot_twice (by omega)
  · simp only [vDot, Int.mul_zero, Int.mul_one, w0, Int.add_zero, Int.zero_add, wr_idem]
    exact wr_id ⟨by omega, by omega⟩
  · simp only [vSum, Int.zero_add, Int.mul_zero, Int.mul_neg, w0, Int.add_zero, wr_addl, wr_addr, wr_idem]
    refine V3.ext ?_ ?_ ?_
    · rw [← big_id (md := md) (mn := mn) (x := f.x) (by omega)]; exact congrArg wrap64 (by grind)
    · rw [← big_id (md := md) (mn := mn) (x := f.y) (by omega)]; exact congrArg wrap64 (by grind)
    · rw [← big_id (md := md) (mn := mn) (x := f.z) (by omega)]; exact congrArg wrap64 (by grind)
  · simp only [x2, vSum, Int.zero_add, wr_idem]
    exact V3.ext (big_id (by omega)) (big_id (by omega)) (big_id (by omega))
  · have hb : Bd 100000 f := ⟨by omega, by omega, by omega, by omega, by omega, by omega⟩
    have eu : vDot f ⟨0, 0, 1⟩ = f.z := by
      simp only [vDot, Int.mul_zero, Int.mul_one, w0, Int.add_zero, Int.zero_add, wr_idem]
      exact wr_id ⟨by omega, by omega⟩
    rw [has_small h hb]
    simp only []
    rw [eu, k2, ← has_core (by omega) (by omega) (by split <;> split <;> omega)]
    simp [cSide, sideK, sd1]
theorem split_5 {a0 : V3} {mn md : Int} (h : CtOk ⟨a0, ⟨0, 0, -1⟩, mn, md⟩) (hm : ¬ mn = 0) {f : V3} (hf : Bd 999 f) :
    ∃ e0 e1 e2 e3 g0 g1 T D0 D1 t u U a b RS P0 P1 P2 P3, SplitF ⟨a0, ⟨0, 0, -1⟩, mn, md⟩ f e0 e1 e2 e3 g0 g1 T D0 D1 t u U a b RS P0 P1 P2 P3 := by
  have n1 := h.n1
  have n2 := h.n2
  have d1 := h.d1
  have d2 := h.d2
  simp only [] at n1 n2 d1 d2
  obtain ⟨b1, b2, b3, b4, b5, b6⟩ := hf
  have w0 : wrap64 0 = 0 := wr_zero
  have w1 : wrap64 mn = mn := wr_id ⟨by omega, by omega⟩
  have w2 : wrap64 md = md := wr_id ⟨by omega, by omega⟩
  have w3 : wrap64 (-mn) = -mn := wr_id ⟨by omega, by omega⟩
  have w4 : wrap64 (-md) = -md := wr_id ⟨by omega, by omega⟩
  obtain ⟨RS, P0, P1, P2, P3, k1, k2, k3, k4, k5, k6, l1, l2, l3, l4, l5, l6, l7, l8, m1, m2, m3⟩ := split_core (md := md) (mn := mn) (t := f.x) (u := f.y) (U := -f.z) (a := if f.x < -f.x then -f.x else f.x) (b := if f.y < -f.y then -f.y else f.y)
    d1 d2 n1 (by omega) (by omega) (by omega) (by omega) (by omega) (by omega) (by omega) (by split <;> omega) (by split <;> omega) (by split <;> omega) (by split <;> omega)
  have r1 := prodBd (m := 60000) (n := 10) l1 l2 (show -10 ≤ md by omega) d2
  have r2 := prodBd (m := 60000) (n := 10) l3 l4 (show -10 ≤ md by omega) d2
  have r3 := prodBd (m := 60000) (n := 10) l5 l6 (show -10 ≤ md by omega) d2
  have r4 := prodBd (m := 60000) (n := 10) l7 l8 (show -10 ≤ md by omega) d2
  have r5 := prodBd (m := 60000) (n := 10) l1 l2 (show -10 ≤ mn by omega) (show mn ≤ 10 by omega)
  have r6 := prodBd (m := 60000) (n := 10) l3 l4 (show -10 ≤ mn by omega) (show mn ≤ 10 by omega)
  have r7 := prodBd (m := 60000) (n := 10) l5 l6 (show -10 ≤ mn by omega) (show mn ≤ 10 by omega)
  have r8 := prodBd (m := 60000) (n := 10) l7 l8 (show -10 ≤ mn by omega) (show mn ≤ 10 by omega)
  have y1 := prodBd (m := 10) (n := 10) (show -10 ≤ md by omega) d2 (show -10 ≤ mn by omega) (show mn ≤ 10 by omega)
  have z1 := prodBd (m := 10) (n := 999) (show -10 ≤ mn by omega) (show mn ≤ 10 by omega) b1 b2
  have z2 := prodBd (m := 10) (n := 999) (show -10 ≤ mn by omega) (show mn ≤ 10 by omega) b3 b4
  have z3 := prodBd (m := 10) (n := 999) (show -10 ≤ mn by omega) (show mn ≤ 10 by omega) b5 b6
  have v1 := prodBd (m := 100) (n := 999) (show -100 ≤ md * mn by omega) (show md * mn ≤ 100 by omega) b1 b2
  have v2 := prodBd (m := 100) (n := 999) (show -100 ≤ md * mn by omega) (show md * mn ≤ 100 by omega) b3 b4
  have v3 := prodBd (m := 100) (n := 999) (show -100 ≤ md * mn by omega) (show md * mn ≤ 100 by omega) b5 b6
  have g2 : wrap64 (mn + mn) = 2 * mn := by rw [show mn + mn = 2 * mn by omega]; exact wr_id ⟨by omega, by omega⟩
  have x2 : wrap64 (wrap64 (2 * md) * mn) = 2 * md * mn := by rw [wr_mull]; exact wr_id ⟨by grind, by grind⟩
  refine ⟨⟨mn, 0, -md⟩, ⟨-mn, 0, -md⟩, ⟨0, mn, -md⟩, ⟨0, -mn, -md⟩, ⟨2 * mn, 0, 0⟩, ⟨0, 2 * mn, 0⟩, ⟨2 * md * mn * f.x, 2 * md * mn * f.y, 2 * md * mn * f.z⟩, 2 * mn * f.x, 2 * mn * f.y, f.x, f.y, -f.z, _, _, RS, P0, P1, P2, P3, ⟨?_, ?_, ?_, ?_, ?_, tdiv_twice (show 0 < mn by omega), tdiv_twice (show 0 < mn by omega), by omega, by omega, by omega, by omega, rfl, rfl, ?_, k1, k3, k4, k5, k6, ?_, ?_, ?_⟩⟩
  · unfold coneL
    rw [if_pos h.check, if_neg hm]
    simp [edgesK, compV, edgeV, w0, w1, w3, w4]
  · simp [vSub, w0, g2]
  · simp [vSub, w0, g2]
  · simp only [vDot, Int.mul_zero, w0, Int.add_zero, wr_idem]
    exact dot_twice (by omega)
  · simp only [vDot, Int.mul_zero, w0, Int.add_zero, Int.zero_add, wr_idem]
    exact dot_twice (by omega)
  · simp only [vDot, Int.mul_zero, Int.mul_one, Int.mul_neg, w0, Int.add_zero, Int.zero_add, wr_idem]
    exact wr_id ⟨by omega, by omega⟩
  · simp only [vSum, Int.zero_add, Int.mul_zero, Int.mul_neg, w0, Int.add_zero, wr_addl, wr_addr, wr_idem]
    refine V3.ext ?_ ?_ ?_
    · rw [← big_id (md := md) (mn := mn) (x := f.x) (by omega)]; exact congrArg wrap64 (by grind)
    · rw [← big_id (md := md) (mn := mn) (x := f.y) (by omega)]; exact congrArg wrap64 (by grind)
    · rw [← big_id (md := md) (mn := mn) (x := f.z) (by omega)]; exact congrArg wrap64 (by grind)
  · simp only [x2, vSum, Int.zero_add, wr_idem]
    exact V3.ext (big_id (by omega)) (big_id (by omega)) (big_id (by omega))
  · have hb : Bd 100000 f := ⟨by omega, by omega, by omega, by omega, by omega, by omega⟩
    have eu : vDot f ⟨0, 0, -1⟩ = -f.z := by
      simp only [vDot, Int.mul_zero, Int.mul_one, Int.mul_neg, w0, Int.add_zero, Int.zero_add, wr_idem]
      exact wr_id ⟨by omega, by omega⟩
    rw [has_small h hb]
    simp only []
    rw [eu, k2, ← has_core (by omega) (by omega) (by split <;> split <;> omega)]
    simp [cSide, sideK, sd1]
theorem splits_law {c : Ct} (h : CtOk c) (hm : ¬ c.mn = 0) {f : V3} (hf : Bd 999 f) : ∃ e0 e1 e2 e3 g0 g1 T D0 D1 t u U a b RS P0 P1 P2 P3, SplitF c f e0 e1 e2 e3 g0 g1 T D0 D1 t u U a b RS P0 P1 P2 P3 := by
  obtain ⟨a0, n, mn, md⟩ := c
  rcases unit_cases h.u with rfl | rfl | rfl | rfl | rfl | rfl
  · exact split_0 h hm hf
  · exact split_1 h hm hf
  · exact split_2 h hm hf
  · exact split_3 h hm hf
  · exact split_4 h hm hf
  · exact split_5 h hm hf
end Go.Proofs.Ythijnggeoinlfaa
