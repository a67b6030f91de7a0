/- Plain: what Kernel's vector means. No program in sight. -/
import Derived.Test.YtflgngjocgiojaaGreatKern
import Derived.Test.YtflgngjocgiojaaGreatBar
import Derived.Test.YtflgngjocgiojaaGreatRatN
namespace Go.Proofs.YtflgngjocgiojaaGreat

theorem stepB_keep {s : BS} {c i : Nat} (h : i < s.a) (ha : s.a ≤ s.L.length) : rAt (stepB s c).L i = rAt s.L i := by
 cases hf : findP s.L c (s.L.length - s.a) s.a with
 | none => rw [stepB_none hf]
 | some p =>
  obtain ⟨h1, h2, h3⟩ := findP_spec _ _ _ hf
  rw [stepB_some hf]
  simp only
  rw [rAt_elim (by rw [swapL_len]; omega), if_neg (by omega), rAt_swap (by omega) (by omega), if_neg (by omega), if_neg (by omega)]
theorem runB_keep {s : BS} (hs : s.a ≤ s.L.length) {c i : Nat} (h : i < (runB s c).a) : ∀ d, rAt (runB s (c + d)).L i = rAt (runB s c).L i
 | 0 => rfl
 | d + 1 => by
  have h1 : i < (runB s (c + d)).a := by
   have key : ∀ d, (runB s c).a ≤ (runB s (c + d)).a := fun d => by
    induction d with
    | zero => exact Nat.le_refl _
    | succ d ih => exact Nat.le_trans ih (stepB_a (runB s (c + d)) (c + d)).2.1
   have := key d
   omega
  rw [← Nat.add_assoc, runB, stepB_keep h1 (by rw [runB_len]; exact runB_an s hs _)]
  exact runB_keep hs h d
/-- The rows of the beginning are 0 on what the first f columns and the dependent one determine. -/
theorem dep_row {O : Nat → Nat → Int} {cs : Nat → Nat} {f l : Nat} {r : Nat → Int} (hcs : ∀ t, t < f → cs t = t) (hnz : minD f O cs ≠ 0) (hz : minV f O cs r l = 0) : sumF (fun c => cramN f O l c * r c) f = cramD f O * r l := by
 obtain ⟨γ, hγ⟩ := minV_comb f O cs r
 have h1 : ∀ j, (j < f ∨ j = l) → minD f O cs * r j = -sumF (fun i => γ i * O i j) f := fun j hj => by
  have h2 := hγ j
  have h3 : minV f O cs r j = 0 := by
   rcases hj with h | h
   ·have := minV_zero (a := f) (O := O) (cs := cs) (r := r) (t := j) h
    rw [hcs j h] at this
    exact this
   ·rw [h]; exact hz
  rw [h3] at h2
  omega
 have h2 : minD f O cs * sumF (fun c => cramN f O l c * r c) f = minD f O cs * (cramD f O * r l) := by
  have e1 : minD f O cs * sumF (fun c => cramN f O l c * r c) f = -sumF (fun c => sumF (fun i => γ i * (cramN f O l c * O i c)) f) f := by
   rw [← sumF_mul, ← sumF_neg]
   refine sumF_eq fun c hc => ?_
   have h4 := h1 c (.inl hc)
   have h5 : sumF (fun i => γ i * (cramN f O l c * O i c)) f = cramN f O l c * sumF (fun i => γ i * O i c) f := by
    rw [← sumF_mul]
    exact sumF_eq fun i _ => by grind
   rw [h5]
   grind
  have e2 : sumF (fun c => sumF (fun i => γ i * (cramN f O l c * O i c)) f) f = cramD f O * sumF (fun i => γ i * O i l) f := by
   rw [sumF_swap, ← sumF_mul]
   refine sumF_eq fun i hi => ?_
   rw [sumF_mul, cram_row hi]
   grind
  have h6 := h1 l (.inr rfl)
  rw [e1, e2]
  grind
 exact Int.eq_of_mul_eq_mul_left hnz h2
end Go.Proofs.YtflgngjocgiojaaGreat
namespace Go.Proofs.YtflgngjocgiojaaGreat

theorem leadsB_split (s : BS) (c : Nat) : ∀ d, ∃ rest, leadsB s (c + d) = leadsB s c ++ rest ∧ ∀ x, x ∈ rest → c ≤ x.1
 | 0 => ⟨[], (List.append_nil _).symm, fun x h => by cases h⟩
 | d + 1 => by
  obtain ⟨rest, h1, h2⟩ := leadsB_split s c d
  rw [← Nat.add_assoc, leadsB, h1, List.append_assoc]
  refine ⟨_, rfl, fun x hx => ?_⟩
  rcases List.mem_append.1 hx with h | h
  ·exact h2 x h
  ·cases hf : findP (runB s (c + d)).L (c + d) ((runB s (c + d)).L.length - (runB s (c + d)).a) (runB s (c + d)).a with
   | none => rw [hf] at h; cases h
   | some p =>
    rw [hf] at h
    have := List.mem_singleton.1 h
    rw [this]
    exact Nat.le_add_right _ _
/-- The stage behind the first dependent column. -/
theorem kern_stage {L0 : List (List Int)} {wd f : Nat} (hw : Wide L0 wd) (hf : firstF (leadsB ⟨L0, 1, 0⟩ wd) = f) (hfw : f < wd) : ∃ π cs, InvB L0 wd (runB ⟨L0, 1, 0⟩ (f + 1)) (f + 1) π cs ∧ (runB ⟨L0, 1, 0⟩ (f + 1)).a = f ∧ ∀ t, t < f → cs t = t := by
 obtain ⟨π, cs, hI, hl⟩ := InvB.run2 hw wd (Nat.le_refl _)
 obtain ⟨π1, cs1, hI1, hl1⟩ := InvB.run2 hw (f + 1) (by omega)
 obtain ⟨rest, hr, hr2⟩ := leadsB_split ⟨L0, 1, 0⟩ (f + 1) (wd - (f + 1))
 rw [show f + 1 + (wd - (f + 1)) = wd by omega] at hr
 obtain ⟨g1, g2, g3⟩ := firstF_range cs (runB ⟨L0, 1, 0⟩ wd).a
 rw [← hl, hf] at g1 g2 g3
 obtain ⟨a, ha⟩ : ∃ a, (runB ⟨L0, 1, 0⟩ wd).a = a := ⟨_, rfl⟩
 obtain ⟨a1, ha1⟩ : ∃ a, (runB ⟨L0, 1, 0⟩ (f + 1)).a = a := ⟨_, rfl⟩
 have hcol1 := hI1.col
 have hinc := hI.inc
 rw [ha] at g1 g3 hl hinc
 rw [ha1] at hl1 hcol1
 -- the lists, element by element
 have hat : ∀ t, t < a → (leadsB ⟨L0, 1, 0⟩ wd)[t]? = some (cs t, t) := fun t ht => by rw [hl]; simp [ht]
 have hat1 : ∀ t, t < a1 → (leadsB ⟨L0, 1, 0⟩ (f + 1))[t]? = some (cs1 t, t) := fun t ht => by rw [hl1]; simp [ht]
 have hlen1 : (leadsB ⟨L0, 1, 0⟩ (f + 1)).length = a1 := by rw [hl1]; simp
 have hlen : (leadsB ⟨L0, 1, 0⟩ wd).length = a := by rw [hl]; simp
 have hle : a1 ≤ a := by
  have := congrArg List.length hr
  rw [hlen, List.length_append, hlen1] at this
  omega
 have heq : ∀ t, t < a1 → cs1 t = cs t := fun t ht => by
  have h1 := hat t (by omega)
  rw [hr, List.getElem?_append_left (by rw [hlen1]; exact ht), hat1 t ht] at h1
  injection h1 with h1
  injection h1
 have hup : a1 ≤ f := by
  apply Classical.byContradiction
  intro hc
  have h1 := hcol1 f (by omega)
  rw [heq f (by omega)] at h1
  have h2 := g3 (by omega)
  rcases Nat.eq_zero_or_pos f with h0 | h0
  ·omega
  ·have h3 := hinc (f - 1) f (by omega) (by omega)
   rw [g2 (f - 1) (by omega)] at h3
   omega
 have hlo : f ≤ a1 := by
  apply Classical.byContradiction
  intro hc
  have h1 := hat a1 (by omega)
  rw [hr, List.getElem?_append_right (by rw [hlen1]; exact Nat.le_refl _)] at h1
  have h2 := hr2 _ (List.mem_of_getElem? h1)
  simp only at h2
  rw [g2 a1 (by omega)] at h2
  omega
 refine ⟨π1, cs1, hI1, by rw [ha1]; omega, fun t ht => ?_⟩
 rw [heq t (by omega)]
 exact g2 t ht
end Go.Proofs.YtflgngjocgiojaaGreat
namespace Go.Proofs.YtflgngjocgiojaaGreat

theorem dep : ∀ {r p : Nat} (C : Nat → Nat → Int), r < p → ∃ l : Nat → Int, (∃ i, i < p ∧ l i ≠ 0) ∧ ∀ t, t < r → sumF (fun i => l i * C i t) p = 0
 | 0, p, C, h => ⟨fun _ => 1, ⟨0, h, by show (1 : Int) ≠ 0; omega⟩, fun t ht => by omega⟩
 | r + 1, p, C, h => by
  by_cases hz : ∀ i, i < p → C i r = 0
  ·obtain ⟨l, h1, h2⟩ := dep (r := r) C (show r < p by omega)
   refine ⟨l, h1, fun t ht => ?_⟩
   by_cases e : t = r
   ·subst e; exact sumF_zero fun i hi => by rw [hz i hi, Int.mul_zero]
   ·exact h2 t (by omega)
  ·obtain ⟨q, hq, hne⟩ : ∃ q, q < p ∧ C q r ≠ 0 := Classical.byContradiction fun hc => hz fun i hi => Classical.byContradiction fun h2 => hc ⟨i, hi, h2⟩
   obtain ⟨n, rfl⟩ : ∃ n, p = n + 1 := ⟨p - 1, by omega⟩
   obtain ⟨l, ⟨i0, hi0, hl0⟩, h2⟩ := dep (r := r) (p := n) (fun i t => C q r * C (skip q i) t - C (skip q i) r * C q t) (by omega)
   have hsk : ∀ i, i < n → skip q i < n + 1 ∧ skip q i ≠ q := fun i hi => by unfold skip; split <;> omega
   -- the number of the row that is left out
   have hun : ∀ i, (if skip q i < q then skip q i else skip q i - 1) = i := fun i => by unfold skip; repeat' split <;> try omega
   refine ⟨fun x => if x = q then -sumF (fun i => l i * C (skip q i) r) n else C q r * l (if x < q then x else x - 1), ⟨skip q i0, (hsk i0 hi0).1, ?_⟩, fun t ht => ?_⟩
   ·simp only [if_neg (hsk i0 hi0).2, hun i0]
    exact Int.mul_ne_zero hne hl0
   ·rw [← sumF_skip (fun x => (if x = q then -sumF (fun i => l i * C (skip q i) r) n else C q r * l (if x < q then x else x - 1)) * C x t) (n := n) (i := q) (by omega)]
    simp only [if_true]
    have e1 : sumF (fun k => (if skip q k = q then -sumF (fun i => l i * C (skip q i) r) n else C q r * l (if skip q k < q then skip q k else skip q k - 1)) * C (skip q k) t) n = sumF (fun k => C q r * l k * C (skip q k) t) n := sumF_eq fun k hk => by
     rw [if_neg (hsk k hk).2, hun k]
    rw [e1]
    by_cases e : t = r
    ·subst e
     have e2 : sumF (fun k => C q t * l k * C (skip q k) t) n = C q t * sumF (fun i => l i * C (skip q i) t) n := by
      rw [← sumF_mul]
      exact sumF_eq fun k _ => by grind
     rw [e2]
     grind
    ·have h3 := h2 t (by omega)
     have e2 : sumF (fun i => l i * (C q r * C (skip q i) t - C (skip q i) r * C q t)) n = sumF (fun k => C q r * l k * C (skip q k) t) n + -sumF (fun i => l i * C (skip q i) r) n * C q t := by
      have e3 : -sumF (fun i => l i * C (skip q i) r) n * C q t = sumF (fun i => -C q t * (l i * C (skip q i) r)) n := by
       rw [sumF_mul]
       grind
      rw [e3, ← sumF_add]
      exact sumF_eq fun k _ => by grind
     rw [e2] at h3
     exact h3
/-- A multiple of the matrix is a product over r. -/
def Fact (M : Nat → Nat → Int) (m n r : Nat) : Prop := ∃ (d : Int) (C E : Nat → Nat → Int), d ≠ 0 ∧ ∀ i, i < m → ∀ j, j < n → d * M i j = sumF (fun t => C i t * E t j) r
/-- Rows with leading minors other than 0 need as many factors. -/
theorem Fact.least {M : Nat → Nat → Int} {m n r p : Nat} (h : Fact M m n r) {π cs : Nat → Nat} (hπ : ∀ i, i < p → π i < m) (hc : ∀ t, t < p → cs t < n) (hnz : ∀ t, t ≤ p → minD t (fun i => M (π i)) cs ≠ 0) : p ≤ r := by
 apply Classical.byContradiction
 intro hlt
 obtain ⟨d, C, E, hd, h⟩ := h
 obtain ⟨l, ⟨i, hi, hl⟩, h2⟩ := dep (r := r) (p := p) (fun i => C (π i)) (by omega)
 have h3 := indep (O := fun i => M (π i)) (cs := cs) hnz (fun i => l i * d) (fun t ht => by
  have e1 : sumF (fun i => l i * d * M (π i) (cs t)) p = sumF (fun i => sumF (fun s => E s (cs t) * (l i * C (π i) s)) r) p := sumF_eq fun i hi => by
   rw [Int.mul_assoc, h (π i) (hπ i hi) (cs t) (hc t ht), ← sumF_mul]
   exact sumF_eq fun s _ => by grind
  rw [e1, sumF_swap]
  refine sumF_zero fun s hs => ?_
  rw [sumF_mul, h2 s hs, Int.mul_zero]) i hi
 rcases Int.mul_eq_zero.1 h3 with h4 | h4
 ·exact hl h4
 ·exact hd h4
end Go.Proofs.YtflgngjocgiojaaGreat
namespace Go.Proofs.YtflgngjocgiojaaGreat

theorem sumF_one (x : Nat → Int) {i : Nat} : ∀ {a : Nat}, i < a → sumF (fun t => (if t = i then x t else 0)) a = x i
 | a + 1, h => by
  rw [sumF]
  by_cases e : i = a
  ·subst e
   rw [if_pos rfl, sumF_zero (fun t ht => if_neg (by omega)), Int.zero_add]
  ·rw [if_neg (fun h => e h.symm), Int.add_zero]
   exact sumF_one x (by omega)
theorem rank_fact {L0 : List (List Int)} {wd : Nat} (hw : Wide L0 wd) : Fact (rowF L0) L0.length wd (leadsB ⟨L0, 1, 0⟩ wd).length ∧ ∀ r, Fact (rowF L0) L0.length wd r → (leadsB ⟨L0, 1, 0⟩ wd).length ≤ r := by
 obtain ⟨π, cs, hI⟩ := InvB.run hw wd (Nat.le_refl _)
 have hla : (leadsB ⟨L0, 1, 0⟩ wd).length = (runB ⟨L0, 1, 0⟩ wd).a := by simpa using leadsB_len ⟨L0, 1, 0⟩ wd
 rw [hla]
 obtain ⟨a, ha⟩ : ∃ a, (runB ⟨L0, 1, 0⟩ wd).a = a := ⟨_, rfl⟩
 have hale := hI.a_le
 have hnz := hI.nz
 have hcol := hI.col
 have hlow := hI.low
 rw [ha] at hale hnz hcol hlow
 rw [ha]
 refine ⟨?_, fun r hr => hr.least (π := π) (cs := cs) (fun i hi => hI.perm i (by omega)) hcol hnz⟩
 have key : ∀ y, ∃ cf : Nat → Int, y < L0.length → ∀ j, j < wd → minD a (fun i => rowF L0 (π i)) cs * rowF L0 y j = sumF (fun t => cf t * rowF L0 (π t) j) a := fun y => by
  by_cases hy : y < L0.length
  ·obtain ⟨i, hi, rfl⟩ := hI.sur y hy
   by_cases h1 : i < a
   ·refine ⟨fun t => if t = i then minD a (fun i => rowF L0 (π i)) cs else 0, fun _ j _ => ?_⟩
    have e : sumF (fun t => (if t = i then minD a (fun i => rowF L0 (π i)) cs else 0) * rowF L0 (π t) j) a = sumF (fun t => if t = i then minD a (fun i => rowF L0 (π i)) cs * rowF L0 (π t) j else 0) a := sumF_eq fun t _ => by
     by_cases e2 : t = i
     ·rw [if_pos e2, if_pos e2]
     ·rw [if_neg e2, if_neg e2, Int.zero_mul]
    rw [e, sumF_one (fun t => minD a (fun i => rowF L0 (π i)) cs * rowF L0 (π t) j) h1]
   ·obtain ⟨γ, hγ⟩ := minV_comb a (fun i => rowF L0 (π i)) cs (rowF L0 (π i))
    refine ⟨fun t => -γ t, fun _ j hj => ?_⟩
    have h2 := hlow i (by omega) hi j hj
    have h3 := hI.zero i (by rw [ha]; omega) hi j hj
    rw [h3, hγ j] at h2
    have h4 : sumF (fun t => -γ t * rowF L0 (π t) j) a = -sumF (fun t => γ t * rowF L0 (π t) j) a := by
     rw [← sumF_neg]
     exact sumF_eq fun t _ => by grind
    rw [h4]
    omega
  ·exact ⟨fun _ => 0, fun h => absurd h hy⟩
 exact ⟨minD a (fun i => rowF L0 (π i)) cs, fun y => Classical.choose (key y), fun t => rowF L0 (π t), hnz a (Nat.le_refl _), fun y hy j hj => Classical.choose_spec (key y) hy j hj⟩
/-- The rank of a matrix without error is the least number of factors. -/
theorem rankZ_fact {M : List (List Int)} (h : matCheck M = 0) : Fact (fun i j => iAt (rAt M i) j) M.length (cols M) (rankZ M) ∧ ∀ r, Fact (fun i j => iAt (rAt M i) j) M.length (cols M) r → rankZ M ≤ r := by
 obtain ⟨_, _, h3, _⟩ := matCheck_ok h
 have hr : rankZ M = (leadsB ⟨sysL M [] M.length, 1, 0⟩ (cols M)).length := by unfold rankZ; rw [if_pos h]
 have q := rank_fact (wide_sys h3)
 rw [sysL_len, ← hr] at q
 have e : ∀ i, i < M.length → ∀ j, rowF (sysL M [] M.length) i j = iAt (rAt M i) j := fun i hi j => by
  unfold rowF
  rw [rAt_sysL M [] hi, sysR_nil]
  rfl
 refine ⟨?_, fun r hr2 => q.2 r ?_⟩
 ·obtain ⟨d, C, E, hd, hF⟩ := q.1
  exact ⟨d, C, E, hd, fun i hi j hj => by show d * iAt (rAt M i) j = _; rw [← e i hi j]; exact hF i hi j hj⟩
 ·obtain ⟨d, C, E, hd, hF⟩ := hr2
  exact ⟨d, C, E, hd, fun i hi j hj => by rw [e i hi j]; exact hF i hi j hj⟩
end Go.Proofs.YtflgngjocgiojaaGreat
namespace Go.Proofs.YtflgngjocgiojaaGreat

theorem Fact.map {M : Nat → Nat → Int} {m n r m' : Nat} (h : Fact M m n r) (σ : Nat → Nat) (hσ : ∀ i, i < m' → σ i < m) : Fact (fun i => M (σ i)) m' n r := by
 obtain ⟨d, C, E, hd, h⟩ := h
 exact ⟨d, fun i => C (σ i), E, hd, fun i hi j hj => h (σ i) (hσ i hi) j hj⟩
theorem Fact.congr {M M' : Nat → Nat → Int} {m n r : Nat} (h : Fact M m n r) (e : ∀ i, i < m → ∀ j, j < n → M' i j = M i j) : Fact M' m n r := by
 obtain ⟨d, C, E, hd, h⟩ := h
 exact ⟨d, C, E, hd, fun i hi j hj => by rw [e i hi j hj]; exact h i hi j hj⟩
/-- With another row one factor more is enough. -/
theorem Fact.more {M : Nat → Nat → Int} {m n r : Nat} (h : Fact M m n r) (w : Nat → Int) : Fact (fun i j => if i < m then M i j else w j) (m + 1) n (r + 1) := by
 obtain ⟨d, C, E, hd, h⟩ := h
 refine ⟨d, fun i t => if i < m then (if t < r then C i t else 0) else (if t < r then 0 else d), fun t j => if t < r then E t j else w j, hd, fun i hi j hj => ?_⟩
 rw [sumF]
 simp only [if_neg (Nat.lt_irrefl r)]
 by_cases e : i < m
 ·have e1 : sumF (fun t => (if i < m then (if t < r then C i t else 0) else (if t < r then 0 else d)) * (if t < r then E t j else w j)) r = sumF (fun t => C i t * E t j) r := sumF_eq fun t ht => by rw [if_pos e, if_pos ht, if_pos ht]
  rw [e1, if_pos e, if_pos e, Int.zero_mul, Int.add_zero]
  exact h i e j hj
 ·have e1 : sumF (fun t => (if i < m then (if t < r then C i t else 0) else (if t < r then 0 else d)) * (if t < r then E t j else w j)) r = 0 := sumF_zero fun t ht => by rw [if_neg e, if_pos ht, Int.zero_mul]
  rw [e1, if_neg e, if_neg e, Int.zero_add]
/-- Another row. -/
theorem rank_more {M T : List (List Int)} (h : matCheck M = 0) (h' : matCheck T = 0) (hc : cols T = cols M) (hl : T.length = M.length + 1) (e : ∀ i, i < M.length → ∀ j, j < cols M → iAt (rAt T i) j = iAt (rAt M i) j) : rankZ T = rankZ M ∨ rankZ T = rankZ M + 1 := by
 obtain ⟨a1, a2⟩ := rankZ_fact h
 obtain ⟨b1, b2⟩ := rankZ_fact h'
 have h1 : rankZ T ≤ rankZ M + 1 := b2 _ (by
  rw [hl, hc]
  refine (a1.more (fun j => iAt (rAt T M.length) j)).congr fun i hi j hj => ?_
  by_cases e2 : i < M.length
  ·rw [if_pos e2]; exact e i e2 j hj
  ·rw [if_neg e2, show i = M.length by omega])
 have h2 : rankZ M ≤ rankZ T := a2 _ (by
  rw [hl, hc] at b1
  exact (b1.map (m' := M.length) id fun i hi => by show i < _; omega).congr fun i hi j hj => (e i hi j hj).symm)
 omega
end Go.Proofs.YtflgngjocgiojaaGreat
namespace Go.Proofs.YtflgngjocgiojaaGreat

/-- At every stage the number of rows that lead is the least number of factors of the columns so far. -/
theorem fact_stage {L0 : List (List Int)} {wd c : Nat} (hw : Wide L0 wd) (hc : c ≤ wd) : Fact (rowF L0) L0.length c (runB ⟨L0, 1, 0⟩ c).a ∧ ∀ r, Fact (rowF L0) L0.length c r → (runB ⟨L0, 1, 0⟩ c).a ≤ r := by
 obtain ⟨π, cs, hI⟩ := InvB.run hw c hc
 obtain ⟨a, ha⟩ : ∃ a, (runB ⟨L0, 1, 0⟩ c).a = a := ⟨_, rfl⟩
 have hale := hI.a_le
 have hnz := hI.nz
 have hcol := hI.col
 have hlow := hI.low
 rw [ha] at hale hnz hcol hlow
 rw [ha]
 refine ⟨?_, fun r hr => hr.least (π := π) (cs := cs) (fun i hi => hI.perm i (by omega)) hcol hnz⟩
 have key : ∀ y, ∃ cf : Nat → Int, y < L0.length → ∀ j, j < c → minD a (fun i => rowF L0 (π i)) cs * rowF L0 y j = sumF (fun t => cf t * rowF L0 (π t) j) a := fun y => by
  by_cases hy : y < L0.length
  ·obtain ⟨i, hi, rfl⟩ := hI.sur y hy
   by_cases h1 : i < a
   ·refine ⟨fun t => if t = i then minD a (fun i => rowF L0 (π i)) cs else 0, fun _ j _ => ?_⟩
    have e : sumF (fun t => (if t = i then minD a (fun i => rowF L0 (π i)) cs else 0) * rowF L0 (π t) j) a = sumF (fun t => if t = i then minD a (fun i => rowF L0 (π i)) cs * rowF L0 (π t) j else 0) a := sumF_eq fun t _ => by
     by_cases e2 : t = i
     ·rw [if_pos e2, if_pos e2]
     ·rw [if_neg e2, if_neg e2, Int.zero_mul]
    rw [e, sumF_one (fun t => minD a (fun i => rowF L0 (π i)) cs * rowF L0 (π t) j) h1]
   ·obtain ⟨γ, hγ⟩ := minV_comb a (fun i => rowF L0 (π i)) cs (rowF L0 (π i))
    refine ⟨fun t => -γ t, fun _ j hj => ?_⟩
    have h2 := hlow i (by omega) hi j (by omega)
    have h3 := hI.zero i (by rw [ha]; omega) hi j hj
    rw [h3, hγ j] at h2
    have h4 : sumF (fun t => -γ t * rowF L0 (π t) j) a = -sumF (fun t => γ t * rowF L0 (π t) j) a := by
     rw [← sumF_neg]
     exact sumF_eq fun t _ => by grind
    rw [h4]
    omega
  ·exact ⟨fun _ => 0, fun h => absurd h hy⟩
 exact ⟨minD a (fun i => rowF L0 (π i)) cs, fun y => Classical.choose (key y), fun t => rowF L0 (π t), hnz a (Nat.le_refl _), fun y hy j hj => Classical.choose_spec (key y) hy j hj⟩
/-- A row that is among the others. -/
theorem minV_row {O : Nat → Nat → Int} {cs : Nat → Nat} {a i : Nat} (hnz : ∀ t, t ≤ a → minD t O cs ≠ 0) (hi : i < a) (j : Nat) : minV a O cs (O i) j = 0 := by
 obtain ⟨γ, hγ⟩ := minV_comb a O cs (O i)
 have h1 : ∀ j, sumF (fun t => ((if t = i then minD a O cs else 0) + γ t) * O t j) a = minV a O cs (O i) j := fun j => by
  have e : sumF (fun t => ((if t = i then minD a O cs else 0) + γ t) * O t j) a = sumF (fun t => if t = i then minD a O cs * O t j else 0) a + sumF (fun t => γ t * O t j) a := by
   rw [← sumF_add]
   refine sumF_eq fun t _ => ?_
   by_cases e2 : t = i
   ·rw [if_pos e2, if_pos e2]; grind
   ·rw [if_neg e2, if_neg e2]; grind
  rw [e, sumF_one (fun t => minD a O cs * O t j) hi, hγ j]
 have h2 := indep hnz (fun t => (if t = i then minD a O cs else 0) + γ t) (fun t ht => by rw [h1, minV_zero ht])
 rw [← h1 j]
 exact sumF_zero fun t ht => by rw [h2 t ht, Int.zero_mul]
theorem byW_pos {Q : Nat → QI} {n : Nat} (hq : ∀ i, i < n → 0 < (Q i).2) : ∀ i, i ≤ n → 0 < byW Q i
 | 0, _ => by unfold byW; omega
 | i + 1, h => by
  have ih := byW_pos hq i (by omega)
  have h1 := hq i (by omega)
  rw [byW]
  have h2 : Nat.gcd (byW Q i).natAbs (Q i).2.natAbs ∣ (Q i).2.natAbs := Nat.gcd_dvd_right _ _
  have h3 : 0 < Nat.gcd (byW Q i).natAbs (Q i).2.natAbs := Nat.gcd_pos_of_pos_right _ (by omega)
  obtain ⟨k, hk⟩ := h2
  have e : (Q i).2 = ((Nat.gcd (byW Q i).natAbs (Q i).2.natAbs : Nat) : Int) * (k : Int) := by
   rw [← Int.natCast_mul, ← hk]; omega
  have h4 : (Q i).2 / ((Nat.gcd (byW Q i).natAbs (Q i).2.natAbs : Nat) : Int) = (k : Int) := by
   conv => lhs; lhs; rw [e]
   exact Int.mul_ediv_cancel_left _ (by omega)
  rw [h4]
  have hk0 : 0 < k := by
   rcases Nat.eq_zero_or_pos k with h5 | h5
   ·rw [h5, Nat.mul_zero] at hk; omega
   ·exact h5
  exact Int.mul_pos ih (by omega)
theorem byW_step {Q : Nat → QI} {i : Nat} (h0 : 0 < byW Q i) (h1 : 0 < (Q i).2) : (byW Q i) ∣ (byW Q (i + 1)) ∧ (Q i).2 ∣ byW Q (i + 1) := by
 rw [byW]
 refine ⟨Int.dvd_mul_right _ _, ?_⟩
 obtain ⟨g, hg⟩ : ∃ g, Nat.gcd (byW Q i).natAbs (Q i).2.natAbs = g := ⟨_, rfl⟩
 have hd1 : g ∣ (byW Q i).natAbs := by rw [← hg]; exact Nat.gcd_dvd_left _ _
 have hd2 : g ∣ (Q i).2.natAbs := by rw [← hg]; exact Nat.gcd_dvd_right _ _
 have hgp : 0 < g := by rw [← hg]; exact Nat.gcd_pos_of_pos_right _ (by omega)
 rw [hg]
 obtain ⟨a, ha⟩ := hd1
 obtain ⟨b, hb⟩ := hd2
 have ea : byW Q i = (g : Int) * (a : Int) := by rw [← Int.natCast_mul, ← ha]; omega
 have eb : (Q i).2 = (g : Int) * (b : Int) := by rw [← Int.natCast_mul, ← hb]; omega
 rw [ea, eb, Int.mul_ediv_cancel_left _ (by omega)]
 exact ⟨(a : Int), by grind⟩
theorem byW_has {Q : Nat → QI} {n : Nat} (hq : ∀ i, i < n → 0 < (Q i).2) : ∀ i, i ≤ n → ∀ j, j < i → (Q j).2 ∣ byW Q i
 | 0, _, j, hj => absurd hj (Nat.not_lt_zero j)
 | i + 1, h, j, hj => by
  obtain ⟨h1, h2⟩ := byW_step (byW_pos hq i (by omega)) (hq i (by omega))
  by_cases e : j = i
  ·subst e; exact h2
  ·exact Int.dvd_trans (byW_has hq i (by omega) j (by omega)) h1
theorem wholeZ_at (Q : Nat → QI) (n : Nat) : ∀ k i, i < k → iAt (wholeZ Q n k) i = (Q i).1 * (byW Q n / (Q i).2)
 | 0, i, h => absurd h (Nat.not_lt_zero i)
 | k + 1, i, h => by
  unfold iAt
  rw [wholeZ, List.getD_eq_getElem?_getD]
  by_cases e : i < k
  ·rw [List.getElem?_append_left (by rw [wholeZ_len]; exact e), ← List.getD_eq_getElem?_getD]
   exact wholeZ_at Q n k i e
  ·obtain rfl : i = k := by omega
   rw [List.getElem?_append_right (by rw [wholeZ_len]; exact Nat.le_refl _), wholeZ_len, Nat.sub_self]
   rfl
/-- The vector made whole: n elements, proportional to the ratios, without a common divisor. -/
theorem whole_mul {Q : Nat → QI} {n : Nat} (hq : ∀ i, i < n → goodQ (Q i).1 (Q i).2 = true) {i : Nat} (hi : i < n) : iAt (wholeZ Q n n) i * (Q i).2 = (Q i).1 * byW Q n := by
 rw [wholeZ_at Q n n i hi]
 obtain ⟨k, hk⟩ := byW_has (fun i hi => goodQ_pos (hq i hi)) n (Nat.le_refl _) i hi
 have h1 := goodQ_pos (hq i hi)
 rw [hk, Int.mul_ediv_cancel_left _ (by omega)]
 grind
/-- Where one ratio is 1, the elements have no common divisor. -/
theorem whole_prim {Q : Nat → QI} {n f : Nat} (hq : ∀ i, i < n → goodQ (Q i).1 (Q i).2 = true) (hf : f < n) (hone : Q f = (1, 1)) {g : Nat} (hg : ∀ i, i < n → g ∣ (iAt (wholeZ Q n n) i).natAbs) : g = 1 := by
 have hp := byW_pos (fun i hi => goodQ_pos (hq i hi)) n (Nat.le_refl _)
 have h1 := whole_mul hq hf
 rw [hone] at h1
 simp only [Int.mul_one, Int.one_mul] at h1
 have h2 := hg f hf
 rw [h1] at h2
 obtain ⟨B, hB⟩ := h2
 have hg0 : 0 < g := by
  rcases Nat.eq_zero_or_pos g with h | h
  ·rw [h, Nat.zero_mul] at hB; omega
  ·exact h
 have hall : ∀ i, i < n → 0 < (Q i).2 ∧ (Q i).2.natAbs ∣ B := fun i hi => by
  obtain ⟨z, hz⟩ := hg i hi
  have h3 := congrArg Int.natAbs (whole_mul hq hi)
  rw [Int.natAbs_mul, Int.natAbs_mul, hz, hB] at h3
  have h4 : z * (Q i).2.natAbs = (Q i).1.natAbs * B := by
   have : g * (z * (Q i).2.natAbs) = g * ((Q i).1.natAbs * B) := by grind
   exact Nat.eq_of_mul_eq_mul_left hg0 this
  obtain ⟨h5, h6⟩ := goodQ_iff.1 (hq i hi)
  refine ⟨h5, ?_⟩
  have h7 : (Q i).2.natAbs ∣ (Q i).1.natAbs * B := ⟨z, by rw [← h4, Nat.mul_comm]⟩
  exact Nat.Coprime.dvd_of_dvd_mul_left (Nat.Coprime.symm h6) h7
 have h8 := byW_dvd hall n (Nat.le_refl _)
 rw [hB] at h8
 have hBp : 0 < B := by
  rcases Nat.eq_zero_or_pos B with h | h
  ·rw [h, Nat.mul_zero] at hB; omega
  ·exact h
 have h9 := Nat.le_of_dvd hBp h8
 have h10 : g * B ≤ 1 * B := by omega
 have := Nat.le_of_mul_le_mul_right h10 hBp
 omega
/-- A vector of the kernel, as the chapter asks for. -/
structure KerZ (M : List (List Int)) (Z : List Int) (f : Nat) : Prop where
 len : Z.length = cols M
 lt : f < cols M
 pos : 0 < iAt Z f
 zero : ∀ k, f < k → k < cols M → iAt Z k = 0
 prim : ∀ g : Nat, (∀ i, i < cols M → g ∣ (iAt Z i).natAbs) → g = 1
 rows : ∀ y, y < M.length → sumF (fun c => iAt (rAt M y) c * iAt Z c) (cols M) = 0
 small : ∀ k, (iAt Z k).natAbs < 2 ^ 650
theorem p_33 : 2 ^ 300 ≤ 2 ^ 300 * 2 ^ 300 := by decide +kernel
theorem p_650 : (0 : Int).natAbs < 2 ^ 650 := by decide +kernel
theorem small_650 : 2 ^ 300 * 2 ^ 300 < 2 ^ 650 := by decide +kernel
theorem kern_all {M : List (List Int)} (h : matCheck M = 0) : ∃ x, FineK M x (kernF M) ∧ (kernF M < cols M → KerZ M (wholeZ (kernQ x (kernF M)) (cols M) (cols M)) (kernF M)) := by
 obtain ⟨hn, hk8, hw0, _⟩ := matCheck_ok h
 have hw := wide_sys hw0
 by_cases hfk0 : kernF M < cols M
 ·obtain ⟨f, hf⟩ : ∃ f, kernF M = f := ⟨_, rfl⟩
  have hfk := hfk0
  rw [hf] at hfk ⊢
  obtain ⟨π, cs, hI, hfa, h2⟩ := kern_stage hw (f := f) hf hfk
  have he := ent_sys h
  have hale := hI.a_le
  rw [hfa] at hale
  have hnz := hI.nz
  have hhigh := hI.high
  have hlow := hI.low
  have hzero := hI.zero
  rw [hfa] at hnz hhigh hlow hzero
  have hkeep : ∀ k, k < f → rAt (runB ⟨sysL M [] M.length, 1, 0⟩ (cols M)).L k = rAt (runB ⟨sysL M [] M.length, 1, 0⟩ (f + 1)).L k := fun k hk => by
   have := runB_keep (s := ⟨sysL M [] M.length, 1, 0⟩) (Nat.zero_le _) (c := f + 1) (i := k) (by rw [hfa]; exact hk) (cols M - (f + 1))
   rw [show f + 1 + (cols M - (f + 1)) = cols M by omega] at this
   exact this
  obtain ⟨hB, hD, hN, hDs⟩ := back_ok (L := (runB ⟨sysL M [] M.length, 1, 0⟩ (cols M)).L) (O := fun i => rowF (sysL M [] M.length) (π i)) (cs := cs) (f := f) (last := f) (wd := cols M) (by omega) (by omega) hfk h2 (fun t ht => hnz t (by omega)) (fun k hk j hj => by rw [hkeep k hk]; exact hhigh k hk j hj) (fun i hi c hc => he _ (hI.perm i (by omega)) c hc)
  obtain ⟨O, hO⟩ : ∃ O : Nat → Nat → Int, (fun i => rowF (sysL M [] M.length) (π i)) = O := ⟨_, rfl⟩
  rw [hO] at hB hD hN hDs hnz hhigh hlow
  obtain ⟨N, hNN⟩ : ∃ N, cramN f O f = N := ⟨_, rfl⟩
  obtain ⟨D, hDD⟩ : ∃ D, cramD f O = D := ⟨_, rfl⟩
  have hrow : ∀ y, y < M.length → sumF (fun c => N c * iAt (rAt M y) c) f = D * iAt (rAt M y) f := fun y hy => by
   have hyl : y < (sysL M [] M.length).length := by rw [sysL_len]; exact hy
   obtain ⟨i, hi, rfl⟩ := hI.sur y hyl
   have e : ∀ j, O i j = iAt (rAt M (π i)) j := fun j => by
    rw [← hO]
    show zAt (rAt (sysL M [] M.length) (π i)) j = _
    rw [rAt_sysL M [] hy, sysR_nil]
    rfl
   have e2 : (fun c => N c * iAt (rAt M (π i)) c) = (fun c => N c * O i c) := funext fun c => by rw [e c]
   rw [e2, ← e f, ← hNN, ← hDD]
   refine dep_row h2 (hnz f (Nat.le_refl _)) ?_
   by_cases hif : i < f
   ·-- a row that leads: two rows are equal
    exact minV_row hnz hif f
   ·have h3 := hlow i (by omega) hi f hfk
    have h4 := hzero i (by omega) hi f (by omega)
    rw [h4] at h3
    rw [← hO] at h3 ⊢
    exact h3.symm
  rw [hNN] at hB hN
  rw [hDD] at hB hD hDs
  have hQ : ∀ i, i < f → kernQ (fun k => toQ (N k) D) f i = toQ (-N i) D := fun i hi => by
   unfold kernQ
   rw [if_pos hi, ← toQ_one 0, sub_toQ (by omega) hD]
   refine toQ_eq (Int.mul_ne_zero (by omega) hD) hD ?_
   grind
  have hsm : ∀ i, i < cols M → SmQ (kernQ (fun k => toQ (N k) D) f i) := fun i hi => by
   by_cases e : i < f
   ·rw [hQ i e]
    exact toQ_sm hD (sm_300 (by rw [Int.natAbs_neg]; exact hN i)) (sm_300 hDs)
   ·unfold kernQ
    rw [if_neg e]
    split
    ·exact SmQ.int Sm.one
    ·exact SmQ.int sm_zero
  have hdv : ∀ i, i < cols M → 0 < (kernQ (fun k => toQ (N k) D) f i).2 ∧ (kernQ (fun k => toQ (N k) D) f i).2.natAbs ∣ D.natAbs := fun i hi => ⟨goodQ_pos (hsm i hi).1, by
   by_cases e : i < f
   ·rw [hQ i e]
    exact ofD_dvd _ hD
   ·unfold kernQ
    rw [if_neg e]
    split <;> exact ⟨_, (Nat.one_mul _).symm⟩⟩
  have hby : ∀ i, i ≤ cols M → (byW (kernQ (fun k => toQ (N k) D) f) i).natAbs < 2 ^ 300 := fun i hi => Nat.lt_of_le_of_lt (Nat.le_of_dvd (by omega) (byW_dvd hdv i hi)) hDs
  refine ⟨fun k => toQ (N k) D, fun _ => ⟨rank_fine h, fun _ => ⟨hB, hsm, fun i hi => sm_300 (hby i hi)⟩⟩, fun _ => ?_⟩
  have hgq : ∀ i, i < cols M → goodQ (kernQ (fun k => toQ (N k) D) f i).1 (kernQ (fun k => toQ (N k) D) f i).2 = true := fun i hi => (hsm i hi).1
  have hone : kernQ (fun k => toQ (N k) D) f f = (1, 1) := by unfold kernQ; rw [if_neg (Nat.lt_irrefl _), if_pos rfl]
  have hzer : ∀ k, f < k → kernQ (fun k => toQ (N k) D) f k = (0, 1) := fun k hk => by unfold kernQ; rw [if_neg (by omega), if_neg (by omega)]
  have hBp := byW_pos (fun i hi => goodQ_pos (hgq i hi)) (cols M) (Nat.le_refl _)
  have hZf := whole_mul hgq hfk
  rw [hone] at hZf
  simp only [Int.mul_one, Int.one_mul] at hZf
  obtain ⟨B, hBB⟩ : ∃ B, byW (kernQ (fun k => toQ (N k) D) f) (cols M) = B := ⟨_, rfl⟩
  have hB3 := hby (cols M) (Nat.le_refl _)
  obtain ⟨Z, hZZ⟩ : ∃ Z, wholeZ (kernQ (fun k => toQ (N k) D) f) (cols M) (cols M) = Z := ⟨_, rfl⟩
  have hmul : ∀ i, i < cols M → iAt Z i * (kernQ (fun k => toQ (N k) D) f i).2 = (kernQ (fun k => toQ (N k) D) f i).1 * B := fun i hi => by rw [← hZZ, ← hBB]; exact whole_mul hgq hi
  rw [hBB] at hZf hBp hB3
  have hzl : Z.length = cols M := by rw [← hZZ]; exact wholeZ_len _ _ _
  have hprim : ∀ g : Nat, (∀ i, i < cols M → g ∣ (iAt Z i).natAbs) → g = 1 := fun g hg => whole_prim hgq hfk hone (by rw [hZZ]; exact hg)
  rw [hZZ] at hZf ⊢
  have hz0 : ∀ k, f < k → k < cols M → iAt Z k = 0 := fun k h3 h4 => by
   have := hmul k h4
   rw [hzer k h3] at this
   simpa using this
  -- the elements are minus the numerators, to scale
  have hZD : ∀ i, i < f → iAt Z i * D = -N i * B := fun i hi => by
   have h3 := hmul i (by omega)
   have h4 := (of_spec (-N i) hD).2.1
   have h5 := goodQ_pos (hgq i (by omega))
   rw [hQ i hi] at h3 h5
   have h6 : (toQ (-N i) D).1 = ofN (-N i) D := rfl
   have h7 : (toQ (-N i) D).2 = ofD (-N i) D := rfl
   rw [h6, h7] at h3
   rw [h7] at h5
   have h8 : ofD (-N i) D * (iAt Z i * D) = ofD (-N i) D * (-N i * B) := by
    have : iAt Z i * ofD (-N i) D * D = ofN (-N i) D * D * B := by rw [h3]; grind
    rw [h4] at this
    grind
   exact Int.eq_of_mul_eq_mul_left (by omega) h8
  refine ⟨hzl, hfk, by rw [hZf]; exact hBp, hz0, hprim, fun y hy => ?_, fun k => ?_⟩
  ·have h3 := hrow y hy
   have h4 := sumF_split (fun c => iAt (rAt M y) c * iAt Z c) (f + 1) (cols M - (f + 1))
   rw [show f + 1 + (cols M - (f + 1)) = cols M by omega, sumF_zero (f := fun i => iAt (rAt M y) (f + 1 + i) * iAt Z (f + 1 + i)) (fun i hi => by rw [hz0 _ (by omega) (by omega), Int.mul_zero]), Int.add_zero, sumF, hZf] at h4
   rw [h4]
   have h5 : D * sumF (fun c => iAt (rAt M y) c * iAt Z c) f = -B * sumF (fun c => N c * iAt (rAt M y) c) f := by
    rw [← sumF_mul, ← sumF_mul]
    exact sumF_eq fun c hc => by have := hZD c hc; grind
   rw [h3] at h5
   have h6 : D * (sumF (fun c => iAt (rAt M y) c * iAt Z c) f + iAt (rAt M y) f * B) = D * 0 := by grind
   exact Int.eq_of_mul_eq_mul_left hD h6
  ·by_cases hk : k < cols M
   ·by_cases hkf : k < f
    ·have h3 := congrArg Int.natAbs (hmul k hk)
     rw [hQ k hkf] at h3
     have h5 := goodQ_pos (hgq k hk)
     rw [hQ k hkf] at h5
     rw [Int.natAbs_mul, Int.natAbs_mul] at h3
     have h6 := (of_spec (-N k) hD).2.2.1
     rw [Int.natAbs_neg] at h6
     have h7 : (toQ (-N k) D).1.natAbs < 2 ^ 300 := Nat.lt_of_le_of_lt h6 (hN k)
     have h8 : (iAt Z k).natAbs ≤ (iAt Z k).natAbs * (toQ (-N k) D).2.natAbs := Nat.le_mul_of_pos_right _ (by omega)
     have h9 : (toQ (-N k) D).1.natAbs * B.natAbs ≤ 2 ^ 300 * 2 ^ 300 := by revert h7 hB3; generalize 2 ^ 300 = X; exact fun hB3 h7 => Nat.mul_le_mul (Nat.le_of_lt h7) (Nat.le_of_lt hB3)
     have h10 := small_650
     omega
    ·by_cases e : k = f
     ·rw [e, hZf]
      have : 2 ^ 300 ≤ 2 ^ 300 * 2 ^ 300 := p_33
      have h10 := small_650
      omega
     ·rw [hz0 k (by omega) hk]
      exact p_650
   ·have : iAt Z k = 0 := by
     unfold iAt
     rw [List.getD_eq_getElem?_getD, List.getElem?_eq_none (by omega)]
     rfl
    rw [this]
    exact p_650
 ·obtain ⟨x, hx⟩ := kern_fine (M := M)
  exact ⟨x, hx, fun h2 => absurd h2 hfk0⟩
end Go.Proofs.YtflgngjocgiojaaGreat
