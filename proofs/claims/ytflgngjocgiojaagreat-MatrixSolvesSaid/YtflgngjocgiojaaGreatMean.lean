/- Plain: what Kernel's vector means. No program in sight. -/
import Derived.Test.YtflgngjocgiojaaGreatBar
import Derived.Test.YtflgngjocgiojaaGreatKernC
import Derived.Test.YtflgngjocgiojaaGreatRatN
namespace Go.Proofs.YtflgngjocgiojaaGreat

theorem dep : ∀ {r p : Nat} (C : Nat → Nat → Int), r < p → ∃ l : Nat → Int, (∃ i, i < p ∧ l i ≠ 0) ∧ ∀ t, t < r → sumF (fun i => l i * C i t) p = 0
 | 0, p, C, h => ⟨fun _ => 1, ⟨0, h, by show (1 : Int) ≠ 0; omega⟩, fun t ht => by omega⟩
 | r + 1, p, C, h => by
  by_cases hz : ∀ i, i < p → C i r = 0
  ·obtain ⟨l, h1, h2⟩ := dep (r := r) C (show r < p by omega)
   refine ⟨l, h1, fun t ht => ?_⟩
   by_cases e : t = r
   ·subst e; exact sumF_zero fun i hi => by rw [hz i hi, Int.mul_zero]
   ·exact h2 t (by omega)
  ·obtain ⟨q, hq, hne⟩ : ∃ q, q < p ∧ C q r ≠ 0 := Classical.byContradiction fun hc => hz fun i hi => Classical.byContradiction fun h2 => hc ⟨i, hi, h2⟩
   obtain ⟨n, rfl⟩ : ∃ n, p = n + 1 := ⟨p - 1, by omega⟩
   obtain ⟨l, ⟨i0, hi0, hl0⟩, h2⟩ := dep (r := r) (p := n) (fun i t => C q r * C (skip q i) t - C (skip q i) r * C q t) (by omega)
   have hsk : ∀ i, i < n → skip q i < n + 1 ∧ skip q i ≠ q := fun i hi => by unfold skip; split <;> omega
   -- the number of the row that is left out
   have hun : ∀ i, (if skip q i < q then skip q i else skip q i - 1) = i := fun i => by unfold skip; repeat' split <;> try omega
   refine ⟨fun x => if x = q then -sumF (fun i => l i * C (skip q i) r) n else C q r * l (if x < q then x else x - 1), ⟨skip q i0, (hsk i0 hi0).1, ?_⟩, fun t ht => ?_⟩
   ·simp only [if_neg (hsk i0 hi0).2, hun i0]
    exact Int.mul_ne_zero hne hl0
   ·rw [← sumF_skip (fun x => (if x = q then -sumF (fun i => l i * C (skip q i) r) n else C q r * l (if x < q then x else x - 1)) * C x t) (n := n) (i := q) (by omega)]
    simp only [if_true]
    have e1 : sumF (fun k => (if skip q k = q then -sumF (fun i => l i * C (skip q i) r) n else C q r * l (if skip q k < q then skip q k else skip q k - 1)) * C (skip q k) t) n = sumF (fun k => C q r * l k * C (skip q k) t) n := sumF_eq fun k hk => by
     rw [if_neg (hsk k hk).2, hun k]
    rw [e1]
    by_cases e : t = r
    ·subst e
     have e2 : sumF (fun k => C q t * l k * C (skip q k) t) n = C q t * sumF (fun i => l i * C (skip q i) t) n := by
      rw [← sumF_mul]
      exact sumF_eq fun k _ => by grind
     rw [e2]
     grind
    ·have h3 := h2 t (by omega)
     have e2 : sumF (fun i => l i * (C q r * C (skip q i) t - C (skip q i) r * C q t)) n = sumF (fun k => C q r * l k * C (skip q k) t) n + -sumF (fun i => l i * C (skip q i) r) n * C q t := by
      have e3 : -sumF (fun i => l i * C (skip q i) r) n * C q t = sumF (fun i => -C q t * (l i * C (skip q i) r)) n := by
       rw [sumF_mul]
       grind
      rw [e3, ← sumF_add]
      exact sumF_eq fun k _ => by grind
     rw [e2] at h3
     exact h3
/-- A multiple of the matrix is a product over r. -/
def Fact (M : Nat → Nat → Int) (m n r : Nat) : Prop := ∃ (d : Int) (C E : Nat → Nat → Int), d ≠ 0 ∧ ∀ i, i < m → ∀ j, j < n → d * M i j = sumF (fun t => C i t * E t j) r
/-- Rows with leading minors other than 0 need as many factors. -/
theorem Fact.least {M : Nat → Nat → Int} {m n r p : Nat} (h : Fact M m n r) {π cs : Nat → Nat} (hπ : ∀ i, i < p → π i < m) (hc : ∀ t, t < p → cs t < n) (hnz : ∀ t, t ≤ p → minD t (fun i => M (π i)) cs ≠ 0) : p ≤ r := by
 apply Classical.byContradiction
 intro hlt
 obtain ⟨d, C, E, hd, h⟩ := h
 obtain ⟨l, ⟨i, hi, hl⟩, h2⟩ := dep (r := r) (p := p) (fun i => C (π i)) (by omega)
 have h3 := indep (O := fun i => M (π i)) (cs := cs) hnz (fun i => l i * d) (fun t ht => by
  have e1 : sumF (fun i => l i * d * M (π i) (cs t)) p = sumF (fun i => sumF (fun s => E s (cs t) * (l i * C (π i) s)) r) p := sumF_eq fun i hi => by
   rw [Int.mul_assoc, h (π i) (hπ i hi) (cs t) (hc t ht), ← sumF_mul]
   exact sumF_eq fun s _ => by grind
  rw [e1, sumF_swap]
  refine sumF_zero fun s hs => ?_
  rw [sumF_mul, h2 s hs, Int.mul_zero]) i hi
 rcases Int.mul_eq_zero.1 h3 with h4 | h4
 ·exact hl h4
 ·exact hd h4
end Go.Proofs.YtflgngjocgiojaaGreat
namespace Go.Proofs.YtflgngjocgiojaaGreat

theorem sumF_one (x : Nat → Int) {i : Nat} : ∀ {a : Nat}, i < a → sumF (fun t => (if t = i then x t else 0)) a = x i
 | a + 1, h => by
  rw [sumF]
  by_cases e : i = a
  ·subst e
   rw [if_pos rfl, sumF_zero (fun t ht => if_neg (by omega)), Int.zero_add]
  ·rw [if_neg (fun h => e h.symm), Int.add_zero]
   exact sumF_one x (by omega)
theorem rank_fact {L0 : List (List Int)} {wd : Nat} (hw : Wide L0 wd) : Fact (rowF L0) L0.length wd (leadsB ⟨L0, 1, 0⟩ wd).length ∧ ∀ r, Fact (rowF L0) L0.length wd r → (leadsB ⟨L0, 1, 0⟩ wd).length ≤ r := by
 obtain ⟨π, cs, hI⟩ := InvB.run hw wd (Nat.le_refl _)
 have hla : (leadsB ⟨L0, 1, 0⟩ wd).length = (runB ⟨L0, 1, 0⟩ wd).a := by simpa using leadsB_len ⟨L0, 1, 0⟩ wd
 rw [hla]
 obtain ⟨a, ha⟩ : ∃ a, (runB ⟨L0, 1, 0⟩ wd).a = a := ⟨_, rfl⟩
 have hale := hI.a_le
 have hnz := hI.nz
 have hcol := hI.col
 have hlow := hI.low
 rw [ha] at hale hnz hcol hlow
 rw [ha]
 refine ⟨?_, fun r hr => hr.least (π := π) (cs := cs) (fun i hi => hI.perm i (by omega)) hcol hnz⟩
 have key : ∀ y, ∃ cf : Nat → Int, y < L0.length → ∀ j, j < wd → minD a (fun i => rowF L0 (π i)) cs * rowF L0 y j = sumF (fun t => cf t * rowF L0 (π t) j) a := fun y => by
  by_cases hy : y < L0.length
  ·obtain ⟨i, hi, rfl⟩ := hI.sur y hy
   by_cases h1 : i < a
   ·refine ⟨fun t => if t = i then minD a (fun i => rowF L0 (π i)) cs else 0, fun _ j _ => ?_⟩
    have e : sumF (fun t => (if t = i then minD a (fun i => rowF L0 (π i)) cs else 0) * rowF L0 (π t) j) a = sumF (fun t => if t = i then minD a (fun i => rowF L0 (π i)) cs * rowF L0 (π t) j else 0) a := sumF_eq fun t _ => by
     by_cases e2 : t = i
     ·rw [if_pos e2, if_pos e2]
     ·rw [if_neg e2, if_neg e2, Int.zero_mul]
    rw [e, sumF_one (fun t => minD a (fun i => rowF L0 (π i)) cs * rowF L0 (π t) j) h1]
   ·obtain ⟨γ, hγ⟩ := minV_comb a (fun i => rowF L0 (π i)) cs (rowF L0 (π i))
    refine ⟨fun t => -γ t, fun _ j hj => ?_⟩
    have h2 := hlow i (by omega) hi j hj
    have h3 := hI.zero i (by rw [ha]; omega) hi j hj
    rw [h3, hγ j] at h2
    have h4 : sumF (fun t => -γ t * rowF L0 (π t) j) a = -sumF (fun t => γ t * rowF L0 (π t) j) a := by
     rw [← sumF_neg]
     exact sumF_eq fun t _ => by grind
    rw [h4]
    omega
  ·exact ⟨fun _ => 0, fun h => absurd h hy⟩
 exact ⟨minD a (fun i => rowF L0 (π i)) cs, fun y => Classical.choose (key y), fun t => rowF L0 (π t), hnz a (Nat.le_refl _), fun y hy j hj => Classical.choose_spec (key y) hy j hj⟩
/-- The rank of a matrix without error is the least number of factors. -/
theorem rankZ_fact {M : List (List Int)} (h : matCheck M = 0) : Fact (fun i j => iAt (rAt M i) j) M.length (cols M) (rankZ M) ∧ ∀ r, Fact (fun i j => iAt (rAt M i) j) M.length (cols M) r → rankZ M ≤ r := by
 obtain ⟨_, _, h3, _⟩ := matCheck_ok h
 have hr : rankZ M = (leadsB ⟨sysL M [] M.length, 1, 0⟩ (cols M)).length := by unfold rankZ; rw [if_pos h]
 have q := rank_fact (wide_sys h3)
 rw [sysL_len, ← hr] at q
 have e : ∀ i, i < M.length → ∀ j, rowF (sysL M [] M.length) i j = iAt (rAt M i) j := fun i hi j => by
  unfold rowF
  rw [rAt_sysL M [] hi, sysR_nil]
  rfl
 refine ⟨?_, fun r hr2 => q.2 r ?_⟩
 ·obtain ⟨d, C, E, hd, hF⟩ := q.1
  exact ⟨d, C, E, hd, fun i hi j hj => by show d * iAt (rAt M i) j = _; rw [← e i hi j]; exact hF i hi j hj⟩
 ·obtain ⟨d, C, E, hd, hF⟩ := hr2
  exact ⟨d, C, E, hd, fun i hi j hj => by rw [e i hi j]; exact hF i hi j hj⟩
end Go.Proofs.YtflgngjocgiojaaGreat
namespace Go.Proofs.YtflgngjocgiojaaGreat

theorem Fact.map {M : Nat → Nat → Int} {m n r m' : Nat} (h : Fact M m n r) (σ : Nat → Nat) (hσ : ∀ i, i < m' → σ i < m) : Fact (fun i => M (σ i)) m' n r := by
 obtain ⟨d, C, E, hd, h⟩ := h
 exact ⟨d, fun i => C (σ i), E, hd, fun i hi j hj => h (σ i) (hσ i hi) j hj⟩
theorem Fact.congr {M M' : Nat → Nat → Int} {m n r : Nat} (h : Fact M m n r) (e : ∀ i, i < m → ∀ j, j < n → M' i j = M i j) : Fact M' m n r := by
 obtain ⟨d, C, E, hd, h⟩ := h
 exact ⟨d, C, E, hd, fun i hi j hj => by rw [e i hi j hj]; exact h i hi j hj⟩
/-- With another row one factor more is enough. -/
theorem Fact.more {M : Nat → Nat → Int} {m n r : Nat} (h : Fact M m n r) (w : Nat → Int) : Fact (fun i j => if i < m then M i j else w j) (m + 1) n (r + 1) := by
 obtain ⟨d, C, E, hd, h⟩ := h
 refine ⟨d, fun i t => if i < m then (if t < r then C i t else 0) else (if t < r then 0 else d), fun t j => if t < r then E t j else w j, hd, fun i hi j hj => ?_⟩
 rw [sumF]
 simp only [if_neg (Nat.lt_irrefl r)]
 by_cases e : i < m
 ·have e1 : sumF (fun t => (if i < m then (if t < r then C i t else 0) else (if t < r then 0 else d)) * (if t < r then E t j else w j)) r = sumF (fun t => C i t * E t j) r := sumF_eq fun t ht => by rw [if_pos e, if_pos ht, if_pos ht]
  rw [e1, if_pos e, if_pos e, Int.zero_mul, Int.add_zero]
  exact h i e j hj
 ·have e1 : sumF (fun t => (if i < m then (if t < r then C i t else 0) else (if t < r then 0 else d)) * (if t < r then E t j else w j)) r = 0 := sumF_zero fun t ht => by rw [if_neg e, if_pos ht, Int.zero_mul]
  rw [e1, if_neg e, if_neg e, Int.zero_add]
end Go.Proofs.YtflgngjocgiojaaGreat
namespace Go.Proofs.YtflgngjocgiojaaGreat

/-- At every stage the number of rows that lead is the least number of factors of the columns so far. -/
theorem fact_stage {L0 : List (List Int)} {wd c : Nat} (hw : Wide L0 wd) (hc : c ≤ wd) : Fact (rowF L0) L0.length c (runB ⟨L0, 1, 0⟩ c).a ∧ ∀ r, Fact (rowF L0) L0.length c r → (runB ⟨L0, 1, 0⟩ c).a ≤ r := by
 obtain ⟨π, cs, hI⟩ := InvB.run hw c hc
 obtain ⟨a, ha⟩ : ∃ a, (runB ⟨L0, 1, 0⟩ c).a = a := ⟨_, rfl⟩
 have hale := hI.a_le
 have hnz := hI.nz
 have hcol := hI.col
 have hlow := hI.low
 rw [ha] at hale hnz hcol hlow
 rw [ha]
 refine ⟨?_, fun r hr => hr.least (π := π) (cs := cs) (fun i hi => hI.perm i (by omega)) hcol hnz⟩
 have key : ∀ y, ∃ cf : Nat → Int, y < L0.length → ∀ j, j < c → minD a (fun i => rowF L0 (π i)) cs * rowF L0 y j = sumF (fun t => cf t * rowF L0 (π t) j) a := fun y => by
  by_cases hy : y < L0.length
  ·obtain ⟨i, hi, rfl⟩ := hI.sur y hy
   by_cases h1 : i < a
   ·refine ⟨fun t => if t = i then minD a (fun i => rowF L0 (π i)) cs else 0, fun _ j _ => ?_⟩
    have e : sumF (fun t => (if t = i then minD a (fun i => rowF L0 (π i)) cs else 0) * rowF L0 (π t) j) a = sumF (fun t => if t = i then minD a (fun i => rowF L0 (π i)) cs * rowF L0 (π t) j else 0) a := sumF_eq fun t _ => by
     by_cases e2 : t = i
     ·rw [if_pos e2, if_pos e2]
     ·rw [if_neg e2, if_neg e2, Int.zero_mul]
    rw [e, sumF_one (fun t => minD a (fun i => rowF L0 (π i)) cs * rowF L0 (π t) j) h1]
   ·obtain ⟨γ, hγ⟩ := minV_comb a (fun i => rowF L0 (π i)) cs (rowF L0 (π i))
    refine ⟨fun t => -γ t, fun _ j hj => ?_⟩
    have h2 := hlow i (by omega) hi j (by omega)
    have h3 := hI.zero i (by rw [ha]; omega) hi j hj
    rw [h3, hγ j] at h2
    have h4 : sumF (fun t => -γ t * rowF L0 (π t) j) a = -sumF (fun t => γ t * rowF L0 (π t) j) a := by
     rw [← sumF_neg]
     exact sumF_eq fun t _ => by grind
    rw [h4]
    omega
  ·exact ⟨fun _ => 0, fun h => absurd h hy⟩
 exact ⟨minD a (fun i => rowF L0 (π i)) cs, fun y => Classical.choose (key y), fun t => rowF L0 (π t), hnz a (Nat.le_refl _), fun y hy j hj => Classical.choose_spec (key y) hy j hj⟩
end Go.Proofs.YtflgngjocgiojaaGreat
