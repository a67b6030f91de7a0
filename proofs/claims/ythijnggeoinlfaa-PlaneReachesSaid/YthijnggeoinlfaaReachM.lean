/- The plain law of PlaneReaches: a half-space pushed by the reach of a box contains the box round each of its points; and the order of planes. -/
import Derived.Test.YthijnggeoinlfaaMadeM
namespace Go.Proofs.Ythijnggeoinlfaa
open Go.RowKit

/-- A box's half sides. -/
structure Half (h : V3) : Prop where
  x1 : 0 ≤ h.x
  x2 : h.x ≤ 12
  y1 : 0 ≤ h.y
  y2 : h.y ≤ 12
  z1 : 0 ≤ h.z
  z2 : h.z ≤ 12
/-- What lies in it. -/
structure Inside (h d : V3) : Prop where
  x1 : -h.x ≤ d.x
  x2 : d.x ≤ h.x
  y1 : -h.y ≤ d.y
  y2 : d.y ≤ h.y
  z1 : -h.z ≤ d.z
  z2 : d.z ≤ h.z

theorem sgn_abs {n h : Int} (hn1 : -4608 ≤ n) (hn2 : n ≤ 4608) (h1 : 0 ≤ h) (h2 : h ≤ 12) :
    0 ≤ iabs n * h ∧ iabs n * h ≤ 55296 ∧ wrap64 (sgn n * h) = sgn n * h ∧ n * (sgn n * h) = iabs n * h ∧ -12 ≤ sgn n * h ∧ sgn n * h ≤ 12 := by
  unfold iabs sgn
  have p := prodBd hn1 hn2 (show -12 ≤ h by omega) h2
  split
  · rw [wr_id (n := -n) ⟨by omega, by omega⟩]
    have q := Int.mul_nonneg (show 0 ≤ -n by omega) h1
    rw [Int.neg_mul] at q ⊢
    rw [show (-1 : Int) * h = -h by omega, wr_id (n := -h) ⟨by omega, by omega⟩, Int.mul_neg]
    omega
  · have q := Int.mul_nonneg (show 0 ≤ n by omega) h1
    rw [Int.one_mul, wr_id (n := h) ⟨by omega, by omega⟩]
    omega
theorem in_abs {n h d : Int} (hn1 : -4608 ≤ n) (hn2 : n ≤ 4608) (h1 : -h ≤ d) (h2 : d ≤ h) : n * d ≤ iabs n * h := by
  unfold iabs
  split
  · rw [wr_id (n := -n) ⟨by omega, by omega⟩]
    have q := Int.mul_nonneg (show 0 ≤ -n by omega) (show 0 ≤ h + d by omega)
    rw [Int.mul_add, Int.neg_mul n d] at q
    omega
  · have q := Int.mul_nonneg (show 0 ≤ n by omega) (show 0 ≤ h - d by omega)
    rw [Int.mul_sub] at q
    omega

def cornerV (n h : V3) : V3 := ⟨wrap64 (sgn n.x * h.x), wrap64 (sgn n.y * h.y), wrap64 (sgn n.z * h.z)⟩

structure ReachLaw (p q : Pl) (h d : V3) (r : Int) : Prop where
  e : vReach p.n h = r
  r0 : 0 ≤ r
  ok : okPush p r = true
  pu : pPush p r = ⟨p.n, p.b + r⟩
  dc : vDot p.n (cornerV p.n h) = r
  near : ∀ v, Bd 24 v → pSide p v ≤ 0 → vIn (vAdd v d) = true → pSide ⟨p.n, p.b + r⟩ (vAdd v d) ≤ 0
  edge : ∀ v, Bd 24 v → vIn (vAdd v (cornerV p.n h)) = true → pSide p v = pSide ⟨p.n, p.b + r⟩ (vAdd v (cornerV p.n h))
  ok2 : okPush ⟨p.n, p.b + r⟩ (wrap64 (-r)) = true
  back : pPush ⟨p.n, p.b + r⟩ (wrap64 (-r)) = p
  anti : pCompare p q = wrap64 (-(pCompare q p))
  same : pCompare p q = 0 ↔ p = q
  less : r = 0 ∨ pCompare p ⟨p.n, p.b + r⟩ = -1
  more : 0 < pCompare q p ∨ pCompare q ⟨p.n, p.b + r⟩ ≤ 0

theorem cmpL_bd : ∀ l : List (Int × Int), -1 ≤ cmpL l ∧ cmpL l ≤ 1
  | [] => by simp [cmpL]
  | (a, b) :: l => by
    unfold cmpL
    split
    · exact cmpL_bd l
    · exact ordI_bd a b
theorem ordI_swap (a b : Int) : ordI a b = -(ordI b a) := by
  unfold ordI
  by_cases h1 : a < b
  · rw [if_pos h1, if_neg (by omega), if_pos h1]
  · by_cases h2 : b < a
    · rw [if_neg h1, if_pos h2, if_pos h2]; rfl
    · rw [if_neg h1, if_neg h2, if_neg h2, if_neg h1]; rfl
theorem pCompare_swap (p q : Pl) : pCompare p q = -(pCompare q p) := by
  unfold pCompare
  simp only [cmpL]
  by_cases h1 : p.n.x = q.n.x
  · rw [if_pos h1, if_pos h1.symm]
    by_cases h2 : p.n.y = q.n.y
    · rw [if_pos h2, if_pos h2.symm]
      by_cases h3 : p.n.z = q.n.z
      · rw [if_pos h3, if_pos h3.symm]
        by_cases h4 : p.b = q.b
        · rw [if_pos h4, if_pos h4.symm]; rfl
        · rw [if_neg h4, if_neg (Ne.symm h4), ordI_swap]
      · rw [if_neg h3, if_neg (Ne.symm h3), ordI_swap]
    · rw [if_neg h2, if_neg (Ne.symm h2), ordI_swap]
  · rw [if_neg h1, if_neg (Ne.symm h1), ordI_swap]
theorem ordI_ne {a b : Int} (h : ¬ a = b) : ordI a b ≠ 0 := by
  unfold ordI; split
  · omega
  · split <;> omega
theorem pCompare_zero (p q : Pl) : pCompare p q = 0 ↔ p = q := by
  constructor
  · intro h
    unfold pCompare at h
    simp only [cmpL] at h
    by_cases h1 : p.n.x = q.n.x
    · rw [if_pos h1] at h
      by_cases h2 : p.n.y = q.n.y
      · rw [if_pos h2] at h
        by_cases h3 : p.n.z = q.n.z
        · rw [if_pos h3] at h
          by_cases h4 : p.b = q.b
          · obtain ⟨n, b⟩ := p
            obtain ⟨n', b'⟩ := q
            have : n = n' := V3.ext h1 h2 h3
            simp only [] at h4
            rw [this, h4]
          · rw [if_neg h4] at h; exact absurd h (ordI_ne h4)
        · rw [if_neg h3] at h; exact absurd h (ordI_ne h3)
      · rw [if_neg h2] at h; exact absurd h (ordI_ne h2)
    · rw [if_neg h1] at h; exact absurd h (ordI_ne h1)
  · rintro rfl
    unfold pCompare; simp [cmpL]
theorem pCompare_more (q p : Pl) (r : Int) (hr : 0 ≤ r) : 0 < pCompare q p ∨ pCompare q ⟨p.n, p.b + r⟩ ≤ 0 := by
  unfold pCompare
  simp only [cmpL]
  by_cases h1 : q.n.x = p.n.x
  · rw [if_pos h1, if_pos h1]
    by_cases h2 : q.n.y = p.n.y
    · rw [if_pos h2, if_pos h2]
      by_cases h3 : q.n.z = p.n.z
      · rw [if_pos h3, if_pos h3]
        unfold ordI
        by_cases h4 : q.b = p.b
        · right
          split
          · omega
          · rw [if_pos (by omega)]; omega
        · rw [if_neg h4]
          by_cases h5 : q.b < p.b
          · right
            rw [if_neg (by omega), if_pos (by omega)]; omega
          · left; rw [if_neg h5, if_pos (by omega)]; omega
      · rw [if_neg h3, if_neg h3]; omega
    · rw [if_neg h2, if_neg h2]; omega
  · rw [if_neg h1, if_neg h1]; omega

theorem ordI_shift (a b r : Int) : ordI (a + r) (b + r) = ordI a b := by
  unfold ordI
  by_cases h1 : a < b
  · rw [if_pos h1, if_pos (by omega)]
  · by_cases h2 : b < a
    · rw [if_neg h1, if_pos h2, if_neg (by omega), if_pos (by omega)]
    · rw [if_neg h1, if_neg h2, if_neg (by omega), if_neg (by omega)]
theorem ordI_le {a b : Int} : ordI a b ≤ 0 ↔ a ≤ b := by
  unfold ordI
  by_cases h1 : a < b
  · rw [if_pos h1]; omega
  · by_cases h2 : b < a
    · rw [if_neg h1, if_pos h2]; omega
    · rw [if_neg h1, if_neg h2]; omega

theorem reachLaw {p q : Pl} {h d : V3} (hp : MadeOk p) (hh : Half h) (hd : Inside h d) : ∃ r, ReachLaw p q h d r := by
  obtain ⟨⟨n1, n2, n3, n4, n5, n6⟩, b1, b2, hg⟩ := hp
  obtain ⟨x1, x2, y1, y2, z1, z2⟩ := hh
  obtain ⟨dx1, dx2, dy1, dy2, dz1, dz2⟩ := hd
  have sx := sgn_abs n1 n2 x1 x2
  have sy := sgn_abs n3 n4 y1 y2
  have sz := sgn_abs n5 n6 z1 z2
  have hN : Bd 4608 p.n := ⟨n1, n2, n3, n4, n5, n6⟩
  have er : vReach p.n h = iabs p.n.x * h.x + iabs p.n.y * h.y + iabs p.n.z * h.z := by
    unfold vReach
    simp only [wr_addl, wr_addr]
    exact wr_id ⟨by omega, by omega⟩
  obtain ⟨r, hr⟩ : ∃ r, iabs p.n.x * h.x + iabs p.n.y * h.y + iabs p.n.z * h.z = r := ⟨_, rfl⟩
  have r0 : 0 ≤ r := by omega
  have r1 : r ≤ 165888 := by omega
  have ec : cornerV p.n h = ⟨sgn p.n.x * h.x, sgn p.n.y * h.y, sgn p.n.z * h.z⟩ := by unfold cornerV; rw [sx.2.2.1, sy.2.2.1, sz.2.2.1]
  have hC : Bd 12 (cornerV p.n h) := by
    rw [ec]; exact ⟨by simp only []; omega, by simp only []; omega, by simp only []; omega, by simp only []; omega, by simp only []; omega, by simp only []; omega⟩
  have hD : Bd 12 d := ⟨by omega, by omega, by omega, by omega, by omega, by omega⟩
  have dc : vDot p.n (cornerV p.n h) = r := by
    rw [(dot_plain hN (hC.mono (by omega))).1, ec, ← hr]; simp only []; rw [sx.2.2.2.1, sy.2.2.2.1, sz.2.2.2.1]
  have dd : vDot p.n d ≤ r := by
    rw [(dot_plain hN (hD.mono (by omega))).1, ← hr]
    have := in_abs n1 n2 dx1 dx2
    have := in_abs n3 n4 dy1 dy2
    have := in_abs n5 n6 dz1 dz2
    omega
  have dd2 := (dot_plain hN (hD.mono (show (12 : Int) ≤ 48 by omega))).2
  have wb : wrap64 (p.b + r) = p.b + r := wr_id ⟨by omega, by omega⟩
  have wn : wrap64 (-r) = -r := wr_id ⟨by omega, by omega⟩
  have wbb : wrap64 (p.b + r + -r) = p.b := by rw [show p.b + r + -r = p.b by omega]; exact wr_id ⟨by omega, by omega⟩
  have v1 : pValid p = true := by unfold pValid inB; rw [hg]; simp; omega
  have v2 : pValid ⟨p.n, p.b + r⟩ = true := by unfold pValid inB; simp only []; rw [hg]; simp; omega
  have ok : okPush p r = true := by unfold okPush; rw [v1, wb]; unfold inB; simp; omega
  have ok2 : okPush ⟨p.n, p.b + r⟩ (wrap64 (-r)) = true := by unfold okPush; rw [v2, wn]; simp only []; rw [wbb]; unfold inB; simp; omega
  refine ⟨r, er.trans hr, r0, ok, ?_, dc, ?_, ?_, ok2, ?_, ?_, pCompare_zero p q, ?_, pCompare_more q p r r0⟩
  · unfold pPush; rw [ok, wb]; rfl
  · intro v hv h1 h2
    have hv2 := dot_plain hN (hv.mono (show (24 : Int) ≤ 48 by omega))
    unfold pSide at h1 ⊢
    rw [v1, hv.vIn] at h1
    rw [v2, h2]
    simp only [Bool.and_self, if_true] at h1 ⊢
    rw [ordI_le] at h1 ⊢
    rw [dot_add, wr_id ⟨by omega, by omega⟩]
    omega
  · intro v hv h2
    have hv2 := dot_plain hN (hv.mono (show (24 : Int) ≤ 48 by omega))
    unfold pSide
    rw [v1, hv.vIn, v2, h2]
    simp only [Bool.and_self, if_true]
    rw [dot_add, dc, wr_id ⟨by omega, by omega⟩, ordI_shift]
  · unfold pPush; rw [ok2, wn]; simp only [if_true]; rw [wbb]
  · rw [pCompare_swap]
    have := cmpL_bd [(q.n.x, p.n.x), (q.n.y, p.n.y), (q.n.z, p.n.z), (q.b, p.b)]
    exact (wr_id (by unfold pCompare; exact ⟨by omega, by omega⟩)).symm
  · by_cases h0 : r = 0
    · exact .inl h0
    · right
      unfold pCompare
      simp only [cmpL, if_true]
      rw [if_neg (by omega)]
      unfold ordI; rw [if_pos (by omega)]
end Go.Proofs.Ythijnggeoinlfaa
