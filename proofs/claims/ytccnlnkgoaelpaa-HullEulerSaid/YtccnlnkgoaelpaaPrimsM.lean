/- The plain law of PlanePrims: a vector whose components are less than 2^40, by a factor below 1001. -/
import Derived.Test.YtccnlnkgoaelpaaTriples
namespace Go.Proofs.Ytccnlnkgoaelpaa
open Go.RowKit

def Lt40 (n : Int) : Prop := -1099511627776 < n ∧ n < 1099511627776
theorem lt40_tmod (n : Int) : Lt40 (n.tmod 1099511627776) := by
  unfold Lt40
  have h1 := Int.tmod_lt_of_pos n (b := 1099511627776) (by omega)
  have h2 := Int.lt_tmod_of_pos n (b := 1099511627776) (by omega)
  omega
theorem Lt40.i64 {n : Int} (h : Lt40 n) : I64 n := by unfold Lt40 at h; unfold I64; omega

/-- The greatest common divisor of three numbers. -/
def g3 (a b c : Int) : Nat := Nat.gcd (Nat.gcd a.natAbs b.natAbs) c.natAbs
theorem vGcd_g3 {a b c : Int} (ha : minI a = false) (hb : minI b = false) (hc : minI c = false) : vGcd ⟨a, b, c⟩ = (g3 a b c : Nat) := by
  unfold vGcd g3; simp [ha, hb, hc]
theorem g3_mul (a b c : Int) (f : Nat) : g3 (a * f) (b * f) (c * f) = g3 a b c * f := by
  unfold g3; simp only [Int.natAbs_mul, Int.natAbs_natCast, Nat.gcd_mul_right]
theorem g3_dvd (a b c : Int) : ((g3 a b c : Nat) : Int) ∣ a ∧ ((g3 a b c : Nat) : Int) ∣ b ∧ ((g3 a b c : Nat) : Int) ∣ c := by
  unfold g3
  refine ⟨?_, ?_, ?_⟩ <;> rw [← Int.dvd_natAbs, Int.natCast_dvd_natCast]
  · exact Nat.dvd_trans (Nat.gcd_dvd_left _ _) (Nat.gcd_dvd_left _ _)
  · exact Nat.dvd_trans (Nat.gcd_dvd_left _ _) (Nat.gcd_dvd_right _ _)
  · exact Nat.gcd_dvd_right _ _
theorem dvd_g3 {a b c : Int} {n : Nat} (ha : (n : Int) ∣ a) (hb : (n : Int) ∣ b) (hc : (n : Int) ∣ c) : n ∣ g3 a b c := by
  unfold g3
  rw [← Int.dvd_natAbs, Int.natCast_dvd_natCast] at ha hb hc
  exact Nat.dvd_gcd (Nat.dvd_gcd ha hb) hc
theorem g3_zero {a b c : Int} (h : g3 a b c = 0) : a = 0 ∧ b = 0 ∧ c = 0 := by
  unfold g3 at h
  have h1 := Nat.eq_zero_of_gcd_eq_zero_right h
  have h2 := Nat.eq_zero_of_gcd_eq_zero_left h
  have h3 := Nat.eq_zero_of_gcd_eq_zero_left h2
  have h4 := Nat.eq_zero_of_gcd_eq_zero_right h2
  omega
theorem minI_of {n : Int} (h : -9223372036854775808 < n) : minI n = false := by unfold minI; simp; omega

/-- A vector without a common divisor, by a factor: what Prim returns. -/
theorem prim_mul {a b c : Int} (m : Nat) (hm : 1 ≤ m) (hg : g3 a b c = 1)
    (ha : -9223372036854775808 < a * m ∧ a * m ≤ 9223372036854775807) (hb : -9223372036854775808 < b * m ∧ b * m ≤ 9223372036854775807)
    (hc : -9223372036854775808 < c * m ∧ c * m ≤ 9223372036854775807) :
    vGcd ⟨a * m, b * m, c * m⟩ = (m : Int) ∧ vPrim ⟨a * m, b * m, c * m⟩ = ⟨a, b, c⟩ := by
  have e : vGcd ⟨a * m, b * m, c * m⟩ = (m : Int) := by
    rw [vGcd_g3 (minI_of ha.1) (minI_of hb.1) (minI_of hc.1), g3_mul, hg, Nat.one_mul]
  refine ⟨e, ?_⟩
  have hm0 : ¬ (m : Int) = 0 := by omega
  have hm1 : (1 : Int) ≤ (m : Int) := by omega
  unfold vPrim vDiv
  rw [e, if_neg hm0, wrap_tdiv ⟨by omega, ha.2⟩ hm1, wrap_tdiv ⟨by omega, hb.2⟩ hm1, wrap_tdiv ⟨by omega, hc.2⟩ hm1]
  simp only [Int.mul_tdiv_cancel _ hm0]

/-- Each vector but 0 whose components are less than 2^40 is such a vector by a factor. -/
structure Split (a b c a' b' c' : Int) (m : Nat) : Prop where
  m1 : 1 ≤ m
  m2 : m < 1099511627776
  ea : a = a' * m
  eb : b = b' * m
  ec : c = c' * m
  g : g3 a' b' c' = 1
  la : Lt40 a'
  lb : Lt40 b'
  lc : Lt40 c'

theorem lt40_div {a' : Int} {m : Nat} (hm : 1 ≤ m) (h : Lt40 (a' * m)) : Lt40 a' := by
  obtain ⟨k, rfl⟩ : ∃ k : Nat, m = k + 1 := ⟨m - 1, by omega⟩
  unfold Lt40 at *
  rw [Int.natCast_add, Int.mul_add] at h
  rcases Int.le_total 0 a' with h0 | h0
  · have := Int.mul_nonneg h0 (Int.natCast_nonneg k); omega
  · have := Int.mul_nonneg (show (0 : Int) ≤ -a' by omega) (Int.natCast_nonneg k)
    rw [Int.neg_mul] at this; omega

theorem lt40_fac {a' : Int} {m : Nat} (ha : a' ≠ 0) (h : Lt40 (a' * m)) : m < 1099511627776 := by
  unfold Lt40 at *
  rcases Int.lt_or_gt_of_ne ha with h0 | h0
  · have := Int.mul_nonneg (show (0 : Int) ≤ -a' - 1 by omega) (Int.natCast_nonneg m)
    rw [Int.sub_mul, Int.neg_mul] at this; omega
  · have := Int.mul_nonneg (show (0 : Int) ≤ a' - 1 by omega) (Int.natCast_nonneg m)
    rw [Int.sub_mul] at this; omega

theorem split {a b c : Int} (ha : Lt40 a) (hb : Lt40 b) (hc : Lt40 c) (hne : ¬ (a = 0 ∧ b = 0 ∧ c = 0)) :
    ∃ a' b' c' m, Split a b c a' b' c' m := by
  obtain ⟨d1, d2, d3⟩ := g3_dvd a b c
  have hm : 1 ≤ g3 a b c := Nat.pos_of_ne_zero (fun h => hne (g3_zero h))
  obtain ⟨a', ea⟩ := d1
  obtain ⟨b', eb⟩ := d2
  obtain ⟨c', ec⟩ := d3
  rw [Int.mul_comm] at ea eb ec
  have hg : g3 a' b' c' = 1 := by
    have h1 := g3_mul a' b' c' (g3 a b c)
    rw [← ea, ← eb, ← ec] at h1
    exact Nat.eq_of_mul_eq_mul_right hm (by omega)
  generalize g3 a b c = m at *
  refine ⟨a', b', c', m, hm, ?_, ea, eb, ec, hg, lt40_div hm (ea ▸ ha), lt40_div hm (eb ▸ hb), lt40_div hm (ec ▸ hc)⟩
  by_cases h1 : a' = 0
  · by_cases h2 : b' = 0
    · by_cases h3 : c' = 0
      · subst h1 h2 h3; simp at ea eb ec; exact absurd ⟨ea, eb, ec⟩ hne
      · exact lt40_fac h3 (ec ▸ hc)
    · exact lt40_fac h2 (eb ▸ hb)
  · exact lt40_fac h1 (ea ▸ ha)

theorem lt40_mul {a : Int} {f : Nat} (h : Lt40 a) (h2 : f ≤ 1000) : -1125899906842624 < a * f ∧ a * f < 1125899906842624 := by
  unfold Lt40 at h
  rcases Int.le_total 0 a with h0 | h0
  · have h3 := Int.mul_le_mul_of_nonneg_left (show (f : Int) ≤ 1000 by omega) h0
    have h4 := Int.mul_nonneg h0 (Int.natCast_nonneg f)
    omega
  · have h3 := Int.mul_le_mul_of_nonneg_left (show (f : Int) ≤ 1000 by omega) (show (0 : Int) ≤ -a by omega)
    have h4 := Int.mul_nonneg (show (0 : Int) ≤ -a by omega) (Int.natCast_nonneg f)
    rw [Int.neg_mul] at h3 h4
    omega

/-- All that the law compares. -/
structure PrimsLaw (a b c f : Int) (a' b' c' g : Int) : Prop where
  eg : vGcd ⟨a, b, c⟩ = g
  ep : vPrim ⟨a, b, c⟩ = ⟨a', b', c'⟩
  gf : vGcd ⟨wrap64 (a * f), wrap64 (b * f), wrap64 (c * f)⟩ = wrap64 (g * f)
  pf : vPrim ⟨wrap64 (a * f), wrap64 (b * f), wrap64 (c * f)⟩ = ⟨a', b', c'⟩
  gp : vGcd ⟨a', b', c'⟩ = 1
  pp : vPrim ⟨a', b', c'⟩ = ⟨a', b', c'⟩
  g1 : 1 ≤ g
  ea : wrap64 (a' * g) = a
  eb : wrap64 (b' * g) = b
  ec : wrap64 (c' * g) = c
  ia : I64 a'
  ib : I64 b'
  ic : I64 c'
  ig : I64 g
  d : ∀ n : Nat, 2 ≤ n → ¬ (a'.tmod n = 0 ∧ b'.tmod n = 0 ∧ c'.tmod n = 0)

theorem primsLaw {a b c f : Int} (ha : Lt40 a) (hb : Lt40 b) (hc : Lt40 c) (hne : ¬ (a = 0 ∧ b = 0 ∧ c = 0)) (h1 : 1 ≤ f) (h2 : f ≤ 1000) :
    ∃ a' b' c' g, PrimsLaw a b c f a' b' c' g := by
  obtain ⟨a', b', c', m, s⟩ := split ha hb hc hne
  obtain ⟨k, rfl⟩ : ∃ k : Nat, f = k := ⟨f.toNat, by omega⟩
  have la := lt40_mul ha (show k ≤ 1000 by omega)
  have lb := lt40_mul hb (show k ≤ 1000 by omega)
  have lc := lt40_mul hc (show k ≤ 1000 by omega)
  have la' := s.la
  have lb' := s.lb
  have lc' := s.lc
  have hmk : ((m * k : Nat) : Int) = (m : Int) * k := Int.natCast_mul m k
  have m1 := s.m1
  have lm := lt40_mul (a := m) (f := k) (by have := s.m2; unfold Lt40; omega) (by omega)
  have hmk1 : 1 ≤ m * k := Nat.mul_pos m1 (by omega)
  have q1 := prim_mul (a := a') (b := b') (c := c') m m1 s.g (by rw [← s.ea]; unfold Lt40 at ha; omega) (by rw [← s.eb]; unfold Lt40 at hb; omega) (by rw [← s.ec]; unfold Lt40 at hc; omega)
  have q2 := prim_mul (a := a') (b := b') (c := c') (m * k) hmk1 s.g (by rw [hmk, ← Int.mul_assoc, ← s.ea]; omega) (by rw [hmk, ← Int.mul_assoc, ← s.eb]; omega) (by rw [hmk, ← Int.mul_assoc, ← s.ec]; omega)
  have q3 := prim_mul (a := a') (b := b') (c := c') 1 (by omega) s.g (by unfold Lt40 at la'; omega) (by unfold Lt40 at lb'; omega) (by unfold Lt40 at lc'; omega)
  rw [hmk, ← Int.mul_assoc, ← Int.mul_assoc, ← Int.mul_assoc, ← s.ea, ← s.eb, ← s.ec] at q2
  rw [← s.ea, ← s.eb, ← s.ec] at q1
  simp only [Int.natCast_one, Int.mul_one] at q3
  refine ⟨a', b', c', m, q1.1, q1.2, ?_, ?_, q3.1, q3.2, by omega, ?_, ?_, ?_, la'.i64, lb'.i64, lc'.i64, ?_, ?_⟩
  · rw [wr_id (n := a * k) ⟨by omega, by omega⟩, wr_id (n := b * k) ⟨by omega, by omega⟩, wr_id (n := c * k) ⟨by omega, by omega⟩, wr_id (n := m * k) ⟨by omega, by omega⟩]; exact q2.1
  · rw [wr_id (n := a * k) ⟨by omega, by omega⟩, wr_id (n := b * k) ⟨by omega, by omega⟩, wr_id (n := c * k) ⟨by omega, by omega⟩]; exact q2.2
  · rw [← s.ea]; exact wr_id ha.i64
  · rw [← s.eb]; exact wr_id hb.i64
  · rw [← s.ec]; exact wr_id hc.i64
  · have := s.m2; exact ⟨by omega, by omega⟩
  · intro n hn ⟨e1, e2, e3⟩
    have := dvd_g3 (Int.dvd_of_tmod_eq_zero e1) (Int.dvd_of_tmod_eq_zero e2) (Int.dvd_of_tmod_eq_zero e3)
    rw [s.g] at this
    have := Nat.le_of_dvd (by omega) this
    omega
end Go.Proofs.Ytccnlnkgoaelpaa
