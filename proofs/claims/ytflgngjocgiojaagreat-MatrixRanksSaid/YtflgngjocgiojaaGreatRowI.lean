/- Rows of ints, and rows of rows, that grow in memory. -/
import Derived.Test.YtflgngjocgiojaaGreatKernC
import Derived.Test.YtflgngjocgiojaaGreatMatQ
import Derived.Test.YtflgngjocgiojaaGreatDet
namespace Go.Proofs.YtflgngjocgiojaaGreat

theorem inc_id {cs : Nat → Nat} {n : Nat} (hc : ∀ t, t < n → cs t < n) (hi : ∀ t u, t < u → u < n → cs t < cs u) : ∀ t, t < n → cs t = t := by
 have lo : ∀ t, t < n → t ≤ cs t := by
  intro t
  induction t with
  | zero => intro _; exact Nat.zero_le _
  | succ t ih =>
   intro ht
   have := ih (by omega)
   have := hi t (t + 1) (by omega) ht
   omega
 have hi2 : ∀ d t, t + d < n → cs t + d ≤ cs (t + d) := by
  intro d
  induction d with
  | zero => intro t _; exact Nat.le_refl _
  | succ d ih =>
   intro t ht
   have := ih t (by omega)
   have := hi (t + d) (t + (d + 1)) (by omega) ht
   omega
 intro t ht
 have h1 := lo t ht
 have h2 := hi2 (n - 1 - t) t (by omega)
 rw [show t + (n - 1 - t) = n - 1 by omega] at h2
 have h3 := hc (n - 1) (by omega)
 omega
theorem solve_all (M : List (List Int)) (b : List Int) : ∃ x, FineS M b x := by
 by_cases h : matCheck M = 0 ∧ cols M = M.length ∧ b.length = M.length ∧ anyF (fun k => largeI (iAt b k)) b.length = false
 ·obtain ⟨h1, h2, h3, h4⟩ := h
  obtain ⟨hn, hk8, hw0, _⟩ := matCheck_ok h1
  have hw := wide_sys1 hw0 h3
  obtain ⟨π, cs, hI, hl⟩ := InvB.run2 hw (cols M) (by omega)
  have he := ent_sys1 h1 h3 h4
  refine ⟨fun k => toQ (cramN M.length (fun i => rowF (sysL M b M.length) (π i)) M.length k) (cramD M.length (fun i => rowF (sysL M b M.length) (π i))), fun _ _ _ _ => ⟨solve_fine h1 h2 h3 h4, fun hr => ?_⟩⟩
  have hale := hI.a_le
  rw [sysL_len] at hale
  have hra : rankS M b = (runB ⟨sysL M b M.length, 1, 0⟩ (cols M)).a := by
   unfold rankS
   have := leadsB_len ⟨sysL M b M.length, 1, 0⟩ (cols M)
   simpa using this
  have ha : (runB ⟨sysL M b M.length, 1, 0⟩ (cols M)).a = M.length := by omega
  have hid := inc_id (cs := cs) (n := M.length) (fun t ht => by have := hI.col t (by omega); omega) (fun t u h5 h6 => hI.inc t u h5 (by omega))
  exact (back_ok (L := (runB ⟨sysL M b M.length, 1, 0⟩ (cols M)).L) (O := fun i => rowF (sysL M b M.length) (π i)) (cs := cs) (f := M.length) (last := M.length) (wd := cols M + 1) (by omega) (by omega) (by omega) hid (fun t ht => hI.nz t (by omega)) (fun k hk j hj => hI.high k (by omega) j hj) (fun i hi c hc => he _ (hI.perm i (by rw [sysL_len]; omega)) c hc)).1
 ·exact ⟨fun _ => (0, 1), fun h1 h2 h3 h4 => absurd ⟨h1, h2, h3, h4⟩ h⟩
end Go.Proofs.YtflgngjocgiojaaGreat
namespace Go.Proofs.YtflgngjocgiojaaGreat

/-- The rank of the first k columns. -/
def rankA (M : List (List Int)) (k : Nat) : Nat := (runB ⟨sysL M [] M.length, 1, 0⟩ k).a
theorem rankA_step (M : List (List Int)) (k : Nat) : rankA M k ≤ rankA M (k + 1) ∧ rankA M (k + 1) ≤ rankA M k + 1 := by
 have := stepB_a (runB ⟨sysL M [] M.length, 1, 0⟩ k) k
 unfold rankA
 rw [runB]
 omega
theorem rankA_le (M : List (List Int)) : ∀ k, rankA M k ≤ k
 | 0 => Nat.le_refl _
 | k + 1 => by have := rankA_le M k; have := (rankA_step M k).2; omega
theorem rowF_sys {M : List (List Int)} {i : Nat} (hi : i < M.length) (j : Nat) : rowF (sysL M [] M.length) i j = iAt (rAt M i) j := by
 unfold rowF
 rw [rAt_sysL M [] hi, sysR_nil]
 rfl
/-- A matrix whose rows are the first k elements of M's has that rank. -/
theorem rank_part {M P : List (List Int)} {k : Nat} (h : matCheck M = 0) (hP : matCheck P = 0) (hl : P.length = M.length) (hc : cols P = k) (hk : k ≤ cols M) (e : ∀ i, i < M.length → ∀ j, j < k → iAt (rAt P i) j = iAt (rAt M i) j) : rankZ P = rankA M k := by
 obtain ⟨_, _, h3, _⟩ := matCheck_ok h
 obtain ⟨a1, a2⟩ := rankZ_fact hP
 obtain ⟨b1, b2⟩ := fact_stage (wide_sys h3) hk
 rw [sysL_len] at b1 b2
 rw [hl, hc] at a1 a2
 refine Nat.le_antisymm (a2 _ ?_) (b2 _ ?_)
 ·exact b1.congr fun i hi j hj => by rw [rowF_sys hi, e i hi j hj]
 ·exact a1.congr fun i hi j hj => by rw [rowF_sys hi, e i hi j hj]
theorem rankZ_A {M : List (List Int)} (h : matCheck M = 0) : rankZ M = rankA M (cols M) := rank_part h h rfl rfl (Nat.le_refl _) fun _ _ _ _ => rfl
theorem rankZ_le {M : List (List Int)} (h : matCheck M = 0) : rankZ M ≤ cols M ∧ rankZ M ≤ M.length := by
 refine ⟨by rw [rankZ_A h]; exact rankA_le M _, ?_⟩
 obtain ⟨_, b⟩ := rankZ_fact h
 refine b _ ⟨1, fun i t => if t = i then 1 else 0, fun t j => iAt (rAt M t) j, by omega, fun i hi j hj => ?_⟩
 have e : sumF (fun t => (if t = i then (1 : Int) else 0) * iAt (rAt M t) j) M.length = sumF (fun t => if t = i then iAt (rAt M t) j else 0) M.length := sumF_eq fun t _ => by
  by_cases e2 : t = i
  ·rw [if_pos e2, if_pos e2, Int.one_mul]
  ·rw [if_neg e2, if_neg e2, Int.zero_mul]
 rw [e, sumF_one (fun t => iAt (rAt M t) j) hi, Int.one_mul]
theorem sq_nn (z : Int) : 0 ≤ z * z := by
 rcases Int.lt_or_le z 0 with h | h
 ·have := Int.mul_pos_of_neg_of_neg h h; omega
 ·exact Int.mul_nonneg h h
theorem sumF_sq {Z : Nat → Int} : ∀ {n f : Nat}, f < n → Z f ≠ 0 → 0 < sumF (fun c => Z c * Z c) n
 | n + 1, f, hf, hz => by
  rw [sumF]
  have hs : ∀ n, 0 ≤ sumF (fun c => Z c * Z c) n := fun n => by
   induction n with
   | zero => exact Int.le_refl _
   | succ n ih => rw [sumF]; have := sq_nn (Z n); omega
  by_cases e : f = n
  ·subst e
   have h1 : 0 < Z f * Z f := by
    rcases Int.lt_or_lt_of_ne hz with h | h
    ·exact Int.mul_pos_of_neg_of_neg h h
    ·exact Int.mul_pos h h
   have := hs f
   omega
  ·have := sumF_sq (n := n) (by omega) hz
   have := sq_nn (Z n)
   omega
/-- A row of the kernel makes the rank greater by one. -/
theorem rank_perp {M T : List (List Int)} (h : matCheck M = 0) (h' : matCheck T = 0) (hc : cols T = cols M) (hl : T.length = M.length + 1) (e : ∀ i, i < M.length → ∀ j, j < cols M → iAt (rAt T i) j = iAt (rAt M i) j)
  {f : Nat} (hf : f < cols M) (hne : iAt (rAt T M.length) f ≠ 0) (hp : ∀ y, y < M.length → sumF (fun c => iAt (rAt M y) c * iAt (rAt T M.length) c) (cols M) = 0) : rankZ T = rankZ M + 1 := by
 rcases rank_more h h' hc hl e with h1 | h1
 ·exfalso
  obtain ⟨_, _, h3, _⟩ := matCheck_ok h
  obtain ⟨b1, _⟩ := rankZ_fact h'
  rw [h1, hl, hc] at b1
  obtain ⟨π, cs, hI⟩ := InvB.run (wide_sys h3) (cols M) (Nat.le_refl _)
  have ha : (runB ⟨sysL M [] M.length, 1, 0⟩ (cols M)).a = rankZ M := (rankZ_A h).symm
  have hnz := hI.nz
  have hcol := hI.col
  have hale := hI.a_le
  rw [ha] at hnz hcol hale
  rw [sysL_len] at hale
  obtain ⟨r, hr⟩ : ∃ r, rankZ M = r := ⟨_, rfl⟩
  rw [hr] at b1 hnz hcol hale
  obtain ⟨d, C, E, hd, hF0⟩ := b1
  have hF : ∀ i, i < M.length + 1 → ∀ j, j < cols M → d * iAt (rAt T i) j = sumF (fun t => C i t * E t j) r := hF0
  obtain ⟨l, ⟨i0, hi0, hl0⟩, hl2⟩ := dep (r := r) (p := r + 1) (fun i => if i < r then C (π i) else C M.length) (by omega)
  have hpi : ∀ i, i < r → π i < M.length := fun i hi => by have := hI.perm i (by rw [sysL_len]; omega); rwa [sysL_len] at this
  -- the combination of rows is 0
  have hzero : ∀ j, j < cols M → sumF (fun i => l i * iAt (rAt M (π i)) j) r + l r * iAt (rAt T M.length) j = 0 := fun j hj => by
   have e1 : d * (sumF (fun i => l i * iAt (rAt M (π i)) j) r + l r * iAt (rAt T M.length) j) = sumF (fun i => l i * sumF (fun t => (if i < r then C (π i) else C M.length) t * E t j) r) (r + 1) := by
    rw [sumF, Int.mul_add, ← sumF_mul]
    congr 1
    ·refine sumF_eq fun i hi => ?_
     have h5 := hF (π i) (by have := hpi i hi; omega) j hj
     rw [e (π i) (hpi i hi) j hj] at h5
     simp only [if_pos hi]
     rw [← h5]
     grind
    ·have h5 := hF M.length (by omega) j hj
     simp only [if_neg (Nat.lt_irrefl r)]
     rw [← h5]
     grind
   have e2 : sumF (fun i => l i * sumF (fun t => (if i < r then C (π i) else C M.length) t * E t j) r) (r + 1) = sumF (fun i => sumF (fun t => E t j * (l i * (if i < r then C (π i) else C M.length) t)) r) (r + 1) := sumF_eq fun i _ => by
    rw [← sumF_mul]
    exact sumF_eq fun t _ => by grind
   have e3 : sumF (fun i => sumF (fun t => E t j * (l i * (if i < r then C (π i) else C M.length) t)) r) (r + 1) = 0 := by
    rw [sumF_swap]
    refine sumF_zero fun t ht => ?_
    rw [sumF_mul, hl2 t ht, Int.mul_zero]
   rw [e2, e3] at e1
   rcases Int.mul_eq_zero.1 e1 with h6 | h6
   ·exact absurd h6 hd
   ·exact h6
  -- times the kernel's row
  have hlr : l r = 0 := by
   have e1 : sumF (fun j => iAt (rAt T M.length) j * (sumF (fun i => l i * iAt (rAt M (π i)) j) r + l r * iAt (rAt T M.length) j)) (cols M) = 0 := sumF_zero fun j hj => by rw [hzero j hj, Int.mul_zero]
   have e2 : sumF (fun j => iAt (rAt T M.length) j * (sumF (fun i => l i * iAt (rAt M (π i)) j) r + l r * iAt (rAt T M.length) j)) (cols M) = sumF (fun j => sumF (fun i => l i * (iAt (rAt M (π i)) j * iAt (rAt T M.length) j)) r) (cols M) + l r * sumF (fun j => iAt (rAt T M.length) j * iAt (rAt T M.length) j) (cols M) := by
    rw [← sumF_mul, ← sumF_add]
    refine sumF_eq fun j _ => ?_
    rw [Int.mul_add, ← sumF_mul]
    congr 1
    ·exact sumF_eq fun i _ => by grind
    ·grind
   have e3 : sumF (fun j => sumF (fun i => l i * (iAt (rAt M (π i)) j * iAt (rAt T M.length) j)) r) (cols M) = 0 := by
    rw [sumF_swap]
    refine sumF_zero fun i hi => ?_
    rw [sumF_mul, hp (π i) (hpi i hi), Int.mul_zero]
   rw [e2, e3, Int.zero_add] at e1
   rcases Int.mul_eq_zero.1 e1 with h6 | h6
   ·exact h6
   ·have := sumF_sq (Z := fun j => iAt (rAt T M.length) j) hf hne
    omega
  have hli := indep hnz l (fun t ht => by
   have h5 := hzero (cs t) (hcol t ht)
   rw [hlr, Int.zero_mul, Int.add_zero] at h5
   rw [← h5]
   exact sumF_eq fun i hi => by rw [rowF_sys (hpi i hi)])
  rcases Nat.lt_or_ge i0 r with h6 | h6
  ·exact hl0 (hli i0 h6)
  ·obtain rfl : i0 = r := by omega
   exact hl0 hlr
 ·exact h1
/-- A row times a vector with a common denominator. -/
theorem sumT_toQ {R : List Int} {x : Nat → QI} {N : Nat → Int} {D : Int} (hD : D ≠ 0) : ∀ j, (∀ c, c < j → x c = toQ (N c) D) → sumT R x j = toQ (sumF (fun c => iAt R c * N c) j) D
 | 0, _ => by
  show ((0 : Int), (1 : Int)) = _
  rw [← toQ_one]
  refine toQ_eq (by omega) hD ?_
  rw [sumF]; grind
 | j + 1, h => by
  rw [sumT, sumT_toQ hD j (fun c hc => h c (by omega)), h j (by omega), ← toQ_one (iAt R j), mul_toQ (by omega) hD, add_toQ hD (by omega)]
  refine toQ_eq (Int.mul_ne_zero hD (by omega)) hD ?_
  rw [sumF]
  grind
theorem times_top : 8 * (2 ^ 31 * 2 ^ 700) < 2 ^ 1000 := by decide +kernel
theorem mul_700 {a b : Int} (ha : a.natAbs ≤ 2 ^ 31) (hb : b.natAbs < 2 ^ 700) : (a * b).natAbs ≤ 2 ^ 31 * 2 ^ 700 := by
 rw [Int.natAbs_mul]
 revert ha hb
 generalize 2 ^ 700 = X
 intro ha hb
 exact Nat.mul_le_mul ha (Nat.le_of_lt hb)
theorem p_700 : 2 ^ 700 < 2 ^ 1000 := by decide +kernel
theorem sm_700 {z : Int} (h : z.natAbs < 2 ^ 700) : Sm z := Nat.lt_trans h p_700
theorem largeI_abs {z : Int} (h : largeI z = false) : z.natAbs ≤ 2 ^ 31 := by
 unfold largeI at h
 simp at h
 omega
theorem times_ok {M : List (List Int)} {x : Nat → QI} {N : Nat → Int} {D : Int} (h : matCheck M = 0) (hD : D ≠ 0) (hDs : D.natAbs < 2 ^ 700) (hN : ∀ c, c < cols M → (N c).natAbs < 2 ^ 700) (hx : ∀ c, c < cols M → x c = toQ (N c) D) : TimesQ M x (cols M) := by
 obtain ⟨_, hk8, hw0, hent⟩ := matCheck_ok h
 refine ⟨fun j hj => ?_, fun k hk j hj => ?_, fun k hk j hj => ?_⟩
 ·rw [hx j hj]
  exact toQ_sm hD (sm_700 (hN j hj)) (sm_700 hDs)
 ·rw [hx j hj, ← toQ_one (iAt (rAt M k) j), mul_toQ (by omega) hD]
  refine toQ_sm (Int.mul_ne_zero (by omega) hD) ?_ (by rw [Int.one_mul]; exact sm_700 hDs)
  have h1 := mul_700 (largeI_abs (hent k hk j hj)) (hN j hj)
  have h2 := times_top
  unfold Sm
  omega
 ·rw [sumT_toQ hD j (fun c hc => hx c (by omega))]
  refine toQ_sm hD ?_ (sm_700 hDs)
  have h1 := sumF_abs (f := fun c => iAt (rAt M k) c * N c) (B := 2 ^ 31 * 2 ^ 700) (n := j) (fun c hc => mul_700 (largeI_abs (hent k hk c (by omega))) (hN c (by omega)))
  have h2 := times_top
  have h3 := Nat.mul_le_mul_right (2 ^ 31 * 2 ^ 700) (show j ≤ 8 by omega)
  unfold Sm
  omega
end Go.Proofs.YtflgngjocgiojaaGreat
namespace Go.Proofs.YtflgngjocgiojaaGreat

end Go.Proofs.YtflgngjocgiojaaGreat
namespace Go.Proofs.YtflgngjocgiojaaGreat
open Go.RowKit

theorem ints_lit {W : World} {b : Nat} {cs : Array Value} {L : List Int} {n : Nat} (ho : Own W b cs) (hc : cs = (L.map (Value.int .i64)).toArray) (hn : L.length = n) (hI : I64L L) : IntsAt W (some ⟨b, 0, none⟩) n L := by
 subst hc
 refine ⟨hn, hI, fun _ => ⟨b, 0, rfl, ho.lt, fun i hi => ?_⟩⟩
 rw [Nat.zero_add, ho.cell i]
 have hi : i < L.length := by omega
 simp [iAt, List.getD_eq_getElem?_getD, hi]
theorem rows_lit {W : World} {b n : Nat} {cs : Array Value} {M : List (List Int)} (ho : Own W b cs) (hn : M.length = n) (h : ∀ i, i < n → ∃ B m c, cs[i]? = some (.slice B m c) ∧ m ≤ c ∧ c ≤ 9223372036854775807 ∧ IntsAt W B m (rAt M i)) : RowsAt W (some ⟨b, 0, none⟩) n M :=
 ⟨hn, fun _ => ⟨b, 0, rfl, ho.lt, fun i hi => by
  obtain ⟨B, m, c, h1, h2, h3, h4⟩ := h i hi
  exact ⟨B, m, c, by rw [Nat.zero_add, ho.cell i]; exact h1, h2, h3, h4⟩⟩⟩
theorem rows_one {W : World} {b : Nat} {B : Option Addr} {m c : Nat} {l : List Int} (ho : Own W b #[.slice B m c]) (h1 : m ≤ c) (h2 : c ≤ 9223372036854775807) (h : IntsAt W B m l) : RowsAt W (some ⟨b, 0, none⟩) 1 [l] :=
 rows_lit ho rfl fun i hi => by
  obtain rfl : i = 0 := by omega
  exact ⟨B, m, c, rfl, h1, h2, h⟩
theorem rows_two {W : World} {b : Nat} {B B' : Option Addr} {m c m' c' : Nat} {l l' : List Int} (ho : Own W b #[.slice B m c, .slice B' m' c']) (h1 : m ≤ c) (h2 : c ≤ 9223372036854775807) (h : IntsAt W B m l) (h1' : m' ≤ c') (h2' : c' ≤ 9223372036854775807) (h' : IntsAt W B' m' l') : RowsAt W (some ⟨b, 0, none⟩) 2 [l, l'] :=
 rows_lit ho rfl fun i hi => by
  rcases (show i = 0 ∨ i = 1 by omega) with rfl | rfl
  ·exact ⟨B, m, c, rfl, h1, h2, h⟩
  ·exact ⟨B', m', c', rfl, h1', h2', h'⟩
theorem RatsO.rats {W : World} {b n : Nat} {x : Nat → QI} (h : RatsO W b x 0 n) : RatsA W (some ⟨b, 0, none⟩) n x := fun _ => by
 obtain ⟨cs, ho, hz, hc⟩ := h
 have ho' : Own W b cs := ⟨_, ho⟩
 refine ⟨b, 0, rfl, ho'.lt, fun i hi => ?_⟩
 obtain ⟨s1, A1, n1, c1, s2, A2, n2, c2, e1, e2, e3, e4, hr⟩ := hc i (Nat.zero_le _) hi
 refine ⟨s1, A1, n1, c1, s2, A2, n2, c2, ?_, ?_, ?_, ?_, hr.2.2.1, hr.2.2.2⟩
 ·rw [Nat.zero_add, ho'.cell]; exact e1
 ·rw [Nat.zero_add, ho'.cell]; exact e2
 ·rw [Nat.zero_add, ho'.cell]; exact e3
 ·rw [Nat.zero_add, ho'.cell]; exact e4
theorem RatsA.congr {W : World} {A : Option Addr} {n : Nat} {x y : Nat → QI} (h : RatsA W A n x) (e : ∀ i, i < n → y i = x i) : RatsA W A n y := fun h0 => by
 obtain ⟨b, off, e1, hlt, hc⟩ := h h0
 refine ⟨b, off, e1, hlt, fun i hi => ?_⟩
 obtain ⟨s1, A1, n1, c1, s2, A2, n2, c2, a1, a2, a3, a4, h1, h2⟩ := hc i hi
 rw [e i hi]
 exact ⟨s1, A1, n1, c1, s2, A2, n2, c2, a1, a2, a3, a4, h1, h2⟩
theorem rats_two {W : World} {b : Nat} {s1 s2 s3 s4 : Bool} {A1 A2 A3 A4 : Option Addr} {n1 c1 n2 c2 n3 c3 n4 c4 : Nat} {x : Nat → QI} (ho : Own W b #[.bool s1, .slice A1 n1 c1, .bool s2, .slice A2 n2 c2, .bool s3, .slice A3 n3 c3, .bool s4, .slice A4 n4 c4])
  (h1 : NumAt W (.agg #[.bool s1, .slice A1 n1 c1]) (x 0).1) (h2 : NumAt W (.agg #[.bool s2, .slice A2 n2 c2]) (x 0).2) (h3 : NumAt W (.agg #[.bool s3, .slice A3 n3 c3]) (x 1).1) (h4 : NumAt W (.agg #[.bool s4, .slice A4 n4 c4]) (x 1).2) : RatsA W (some ⟨b, 0, none⟩) 2 x := fun _ =>
 ⟨b, 0, rfl, ho.lt, fun i hi => by
  rcases (show i = 0 ∨ i = 1 by omega) with rfl | rfl
  ·exact ⟨s1, A1, n1, c1, s2, A2, n2, c2, (ho.cell _).trans rfl, (ho.cell _).trans rfl, (ho.cell _).trans rfl, (ho.cell _).trans rfl, h1, h2⟩
  ·exact ⟨s3, A3, n3, c3, s4, A4, n4, c4, (ho.cell _).trans rfl, (ho.cell _).trans rfl, (ho.cell _).trans rfl, (ho.cell _).trans rfl, h3, h4⟩⟩
def flatM : List (List Int) := [[1, 2], [2, 4]]
def squareM : List (List Int) := [[1, 2], [3, 4]]
theorem v_flat : rankZ flatM = 1 ∧ matCheck flatM = 0 := by decide +kernel
theorem v_square : rankZ squareM = 2 ∧ matCheck squareM = 0 := by decide +kernel
theorem v_nil : rankZ [] = 0 ∧ matCheck [] = 0 := by decide +kernel
theorem v_empty : rankZ [[], []] = 0 ∧ matCheck [[], []] = 0 := by decide +kernel
theorem v_odd : rankZ [[1, 2], [3]] = 0 ∧ matCheck [[1, 2], [3]] = 4 := by decide +kernel
theorem kern_one {M : List (List Int)} {x : Nat → QI} {q : QI} (h : matCheck M = 0) (hk : kernF M = 1) (hc : 1 < cols M) (hf : FineK M x (kernF M))
  (hq : divQ (zAt (rAt (runB ⟨sysL M [] M.length, 1, 0⟩ (cols M)).L 0) 1, 1) (zAt (rAt (runB ⟨sysL M [] M.length, 1, 0⟩ (cols M)).L 0) 0, 1) = q) : kernQ x 1 = kernQ (fun _ => q) 1 := by
 rw [hk] at hf
 have h1 := ((hf h).2 hc).1.eq 0 (by omega)
 have h2 : x 0 = q := by rw [h1, ← hq]; rfl
 funext i
 unfold kernQ
 by_cases e : i < 1
 ·obtain rfl : i = 0 := by omega
  rw [if_pos e, if_pos e, h2]
 ·rw [if_neg e, if_neg e]
theorem kern_none {x y : Nat → QI} : kernQ x 0 = kernQ y 0 := funext fun i => by
 unfold kernQ
 rw [if_neg (Nat.not_lt_zero i), if_neg (Nat.not_lt_zero i)]
def kernM1 : List (List Int) := [[1, 2, 0], [2, 4, 1]]
theorem v_k1 : matCheck kernM1 = 0 ∧ kernF kernM1 = 1 ∧ cols kernM1 = 3 ∧ divQ (zAt (rAt (runB ⟨sysL kernM1 [] kernM1.length, 1, 0⟩ (cols kernM1)).L 0) 1, 1) (zAt (rAt (runB ⟨sysL kernM1 [] kernM1.length, 1, 0⟩ (cols kernM1)).L 0) 0, 1) = (2, 1) := by decide +kernel
theorem z_k1 : wholeZ (kernQ (fun _ => ((2, 1) : QI)) 1) 3 3 = [-2, 1, 0] := by decide +kernel
def kernM2 : List (List Int) := [[2, 3]]
theorem v_k2 : matCheck kernM2 = 0 ∧ kernF kernM2 = 1 ∧ cols kernM2 = 2 ∧ divQ (zAt (rAt (runB ⟨sysL kernM2 [] kernM2.length, 1, 0⟩ (cols kernM2)).L 0) 1, 1) (zAt (rAt (runB ⟨sysL kernM2 [] kernM2.length, 1, 0⟩ (cols kernM2)).L 0) 0, 1) = (3, 2) := by decide +kernel
theorem z_k2 : wholeZ (kernQ (fun _ => ((3, 2) : QI)) 1) 2 2 = [-3, 2] := by decide +kernel
def kernM3 : List (List Int) := [[0, 5]]
theorem v_k3 : matCheck kernM3 = 0 ∧ kernF kernM3 = 0 ∧ cols kernM3 = 2 := by decide +kernel
theorem z_k3 : wholeZ (kernQ (fun _ => ((0, 1) : QI)) 0) 2 2 = [1, 0] := by decide +kernel
theorem v_k4 : matCheck squareM = 0 ∧ kernF squareM = 2 ∧ cols squareM = 2 := by decide +kernel
theorem v_s1 : solveE squareM [5, 6] = 0 ∧ rankS squareM [5, 6] = 2 ∧ cols squareM = 2 ∧ anyF (fun k => largeI (iAt [5, 6] k)) 2 = false := by decide +kernel
theorem v_s2 : solveE flatM [1, 2] = 8 := by decide +kernel
theorem v_s3 : solveE [[1, 2]] [1] = 4 := by decide +kernel
def wantQ (i : Nat) : QI := if i = 0 then (-4, 1) else (9, 2)
theorem solve_want {x : Nat → QI} (hf : FineS squareM [5, 6] x) : ∀ i, i < 2 → wantQ i = x i := by
 obtain ⟨_, h2, h3, h4⟩ := v_s1
 have hb := ((hf v_square.2 h3 rfl h4).2 (by rw [h2]; decide)).eq
 have e1 : x 1 = (9, 2) := (hb 1 (by decide)).trans (by
  show divQ (zAt (rAt (runB ⟨sysL squareM [5, 6] 2, 1, 0⟩ (cols squareM)).L 1) 2, 1) (zAt (rAt (runB ⟨sysL squareM [5, 6] 2, 1, 0⟩ (cols squareM)).L 1) 1, 1) = (9, 2)
  decide +kernel)
 have e0 : x 0 = (-4, 1) := (hb 0 (by decide)).trans (by
  show divQ (subQ (zAt (rAt (runB ⟨sysL squareM [5, 6] 2, 1, 0⟩ (cols squareM)).L 0) 2, 1) (mulQ (zAt (rAt (runB ⟨sysL squareM [5, 6] 2, 1, 0⟩ (cols squareM)).L 0) 1, 1) (x 1))) (zAt (rAt (runB ⟨sysL squareM [5, 6] 2, 1, 0⟩ (cols squareM)).L 0) 0, 1) = (-4, 1)
  rw [e1]
  decide +kernel)
 intro i hi
 rcases (show i = 0 ∨ i = 1 by omega) with rfl | rfl
 ·rw [e0]; rfl
 ·rw [e1]; rfl
theorem p_27 : (2 : Int).natAbs < 2 ^ 700 := by decide +kernel
theorem p_47 : 2 ^ 4 ≤ 2 ^ 700 := by decide +kernel
theorem times_want : TimesQ squareM wantQ 2 := by
 refine times_ok (M := squareM) (N := fun c => if c = 0 then -8 else 9) (D := 2) v_square.2 (by decide) (p_27) (fun c _ => ?_) (fun c hc => ?_)
 ·have h16 : (2 : Nat) ^ 4 ≤ 2 ^ 700 := p_47
  show (if c = 0 then (-8 : Int) else 9).natAbs < _
  refine Nat.lt_of_lt_of_le ?_ h16
  by_cases e : c = 0
  ·rw [if_pos e]; decide
  ·rw [if_neg e]; decide
 ·rcases (show c = 0 ∨ c = 1 by have : cols squareM = 2 := v_k4.2.2; omega) with rfl | rfl
  ·decide +kernel
  ·decide +kernel
def backQ (i : Nat) : QI := if i = 0 then (5, 1) else (6, 1)
theorem times_back : ∀ i, i < 2 → backQ i = sumT (rAt squareM i) wantQ 2 := fun i hi => by
 rcases (show i = 0 ∨ i = 1 by omega) with rfl | rfl
 ·decide +kernel
 ·decide +kernel
end Go.Proofs.YtflgngjocgiojaaGreat
namespace Go.Proofs.YtflgngjocgiojaaGreat
open Go.RowKit

theorem infoI : (Tryz.prog.info? 3).map (fun i => (i.zero, i.size, i.bytes)) = some (some (.int .i64 0), 1, 8) := by kernel_rfl
theorem infoIs : (Tryz.prog.info? 22).map (fun i => (i.zero, i.size, i.bytes)) = some (some (.slice none 0 0), 1, 24) := by kernel_rfl
def encI (l : List Int) : List Value := l.map (Value.int .i64)
theorem encI_at {l : List Int} {i : Nat} (h : i < l.length) : (encI l)[i]? = some (.int .i64 (iAt l i)) := by
 unfold encI iAt
 rw [List.getElem?_map, List.getD_eq_getElem?_getD, List.getElem?_eq_getElem h]; rfl
theorem encI_snoc (l : List Int) (x : Int) : encI l ++ [.int .i64 x] = encI (l ++ [x]) := by unfold encI; rw [List.map_append]; rfl
theorem encI_one (l : List Int) : ∀ u ∈ encI l, u.oneCell' = true := fun u hu => by
 obtain ⟨d, _, rfl⟩ := List.mem_map.1 hu
 rfl
theorem encI_len (l : List Int) : (encI l).length = l.length := by unfold encI; rw [List.length_map]
/-- A row of ints of a function's own. -/
theorem ints_of_row {W : World} {base : Nat} {v : Value} {l : List Int} {n : Nat} (h : W.ownsRow base 3 1 v n (encI l)) (hn : l.length = n) (hI : I64L l) : ∃ A c, v = .slice A n c ∧ n ≤ c ∧ c ≤ 9223372036854775807 ∧ IntsAt W A n l ∧ (∀ b off, A = some ⟨b, off, none⟩ → off = 0 ∧ base ≤ b ∧ b < W.heap.size ∧ v.ownBlock = some b) := by
 rcases h.2 with ⟨rfl, h0⟩ | ⟨g, cap, cur, rfl, h1, h2, h3, h4, h5, h6⟩
 ·subst h0
  exact ⟨none, 0, rfl, Nat.le_refl _, by omega, ⟨hn, hI, fun h => absurd h (Nat.lt_irrefl 0)⟩, fun b off e => by cases e⟩
 ·have hg : g < W.heap.size := by
   rcases Nat.lt_or_ge g W.heap.size with h | h
   ·exact h
   ·rw [Array.getElem?_eq_none h] at h2; cases h2
  unfold maxLen at h4
  refine ⟨some ⟨g, 0, none⟩, cap, rfl, h3, h4, ⟨hn, hI, fun h0 => ⟨g, 0, rfl, hg, fun i hi => ?_⟩⟩, fun b off e => by cases e; exact ⟨rfl, h1, hg, rfl⟩⟩
  have q := (ownsRow_cell (xs := encI l) (size := 1) (e := 3) ⟨h.1, .inr ⟨g, cap, cur, rfl, h1, h2, h3, h4, h5, h6⟩⟩ h0).2.2.2.2 i (by omega)
  rw [Nat.zero_add, q]
  exact encI_at (by omega)
/-- Slices of ints, one after the other; their blocks are X. -/
def RowsW (X : Nat → Prop) (w : World) (xs : List Value) (M : List (List Int)) : Prop := xs.length = M.length ∧ ∀ i, i < M.length → ∃ B m c, xs[i]? = some (.slice B m c) ∧ m ≤ c ∧ c ≤ 9223372036854775807 ∧ (∀ b off, B = some ⟨b, off, none⟩ → b < w.heap.size ∧ X b) ∧ IntsAt w B m (rAt M i)
theorem IntsAt.same {w w' : World} {A : Option Addr} {n : Nat} {l : List Int} (h : IntsAt w A n l) (hs : w.heap.size ≤ w'.heap.size) (hk : ∀ b off, A = some ⟨b, off, none⟩ → w'.heap[b]? = w.heap[b]?) : IntsAt w' A n l :=
 ⟨h.len, h.ok, fun h0 => by
  obtain ⟨b, off, e, hlt, hc⟩ := h.row h0
  exact ⟨b, off, e, Nat.lt_of_lt_of_le hlt hs, fun i hi => (World.cell?_of_block (w := w) (a := ⟨b, off + i, none⟩) (hk b off e)).trans (hc i hi)⟩⟩
theorem RowsW.move {X Y : Nat → Prop} {w w' : World} {xs : List Value} {M : List (List Int)} (h : RowsW X w xs M) (hs : w.heap.size ≤ w'.heap.size) (hk : ∀ b, b < w.heap.size → X b → w'.heap[b]? = w.heap[b]? ∧ Y b) : RowsW Y w' xs M :=
 ⟨h.1, fun i hi => by
  obtain ⟨B, m, c, h1, h2, h3, h4, h5⟩ := h.2 i hi
  exact ⟨B, m, c, h1, h2, h3, fun b off e => ⟨Nat.lt_of_lt_of_le (h4 b off e).1 hs, (hk b (h4 b off e).1 (h4 b off e).2).2⟩, h5.same hs fun b off e => (hk b (h4 b off e).1 (h4 b off e).2).1⟩⟩
theorem RowsW.below {X : Nat → Prop} {w w' : World} {xs : List Value} {M : List (List Int)} (h : RowsW X w xs M) (hb : Below w.heap.size w w') : RowsW X w' xs M := h.move hb.size fun b hlt hX => ⟨hb.block b hlt, hX⟩
theorem RowsW.nil (X : Nat → Prop) (w : World) : RowsW X w [] [] := ⟨rfl, fun i h => absurd h (Nat.not_lt_zero i)⟩
theorem rAt_at {M : List (List Int)} {l : List Int} {i : Nat} (hi : i < (M ++ [l]).length) : (i < M.length ∧ rAt (M ++ [l]) i = rAt M i) ∨ (i = M.length ∧ rAt (M ++ [l]) i = l) := rAt_snoc hi
theorem RowsW.snoc {X : Nat → Prop} {w : World} {xs : List Value} {M : List (List Int)} {B : Option Addr} {m c : Nat} {l : List Int} (h : RowsW X w xs M) (h1 : m ≤ c) (h2 : c ≤ 9223372036854775807) (hb : ∀ b off, B = some ⟨b, off, none⟩ → b < w.heap.size ∧ X b) (h3 : IntsAt w B m l) : RowsW X w (xs ++ [.slice B m c]) (M ++ [l]) :=
 ⟨by simp [h.1], fun i hi => by
  rcases rAt_at hi with ⟨h4, h5⟩ | ⟨h4, h5⟩
  ·rw [h5, List.getElem?_append_left (by rw [h.1]; exact h4)]
   exact h.2 i h4
  ·rw [h5, h4, ← h.1, List.getElem?_append_right (Nat.le_refl _), Nat.sub_self]
   exact ⟨B, m, c, rfl, h1, h2, hb, h3⟩⟩
theorem RowsW.one {X : Nat → Prop} {w : World} {xs : List Value} {M : List (List Int)} (h : RowsW X w xs M) : ∀ u ∈ xs, u.oneCell' = true := fun u hu => by
 obtain ⟨i, hi, rfl⟩ := List.getElem_of_mem hu
 obtain ⟨B, m, c, e, _⟩ := h.2 i (by rw [← h.1]; exact hi)
 rw [List.getElem?_eq_getElem hi] at e
 injection e with e
 rw [e]; rfl
/-- The grown slice of slices reads as the rows. -/
theorem rows_of_row {W : World} {base : Nat} {X : Nat → Prop} {v : Value} {M : List (List Int)} {n : Nat} {xs : List Value} (h : W.ownsRow base 22 1 v n xs) (hr : RowsW X W xs M) (hn : M.length = n) : ∃ A c, v = .slice A n c ∧ n ≤ c ∧ c ≤ 9223372036854775807 ∧ RowsAt W A n M ∧ (0 < n → ∃ g, A = some ⟨g, 0, none⟩ ∧ base ≤ g ∧ g < W.heap.size) := by
 rcases h.2 with ⟨rfl, h0⟩ | ⟨g, cap, cur, rfl, h1, h2, h3, h4, h5, h6⟩
 ·subst h0
  exact ⟨none, 0, rfl, Nat.le_refl _, by omega, ⟨hn, fun h => absurd h (Nat.lt_irrefl 0)⟩, fun h => absurd h (Nat.lt_irrefl 0)⟩
 ·have hg : g < W.heap.size := by
   rcases Nat.lt_or_ge g W.heap.size with h | h
   ·exact h
   ·rw [Array.getElem?_eq_none h] at h2; cases h2
  unfold maxLen at h4
  refine ⟨some ⟨g, 0, none⟩, cap, rfl, h3, h4, ⟨hn, fun h0 => ⟨g, 0, rfl, hg, fun i hi => ?_⟩⟩, fun _ => ⟨g, rfl, h1, hg⟩⟩
  obtain ⟨B, m, c, e1, e2, e3, _, e5⟩ := hr.2 i (by omega)
  have q := (ownsRow_cell (xs := xs) (size := 1) (e := 22) ⟨h.1, .inr ⟨g, cap, cur, rfl, h1, h2, h3, h4, h5, h6⟩⟩ h0).2.2.2.2 i (by omega)
  exact ⟨B, m, c, by rw [Nat.zero_add, q]; exact e1, e2, e3, e5⟩
/-- A slice of rows of a function's own, to which rows may be appended. -/
def OwnRows (base : Nat) (w : World) (v : Value) (M : List (List Int)) : Prop := ∃ xs, w.ownsRow base 22 1 v M.length xs ∧ RowsW (fun b => base ≤ b ∧ some b ≠ v.ownBlock) w xs M
/-- Cells of a block of ints. -/
def cellsI (l : List Int) : Array Value := (encI l).toArray
theorem cellsI_at {l : List Int} {i : Nat} (h : i < l.length) : (cellsI l)[i]? = some (.int .i64 (iAt l i)) := by
 unfold cellsI
 rw [List.getElem?_toArray]
 exact encI_at h
theorem cellsI_set (l : List Int) (i : Nat) (x : Int) : (cellsI l).setIfInBounds i (.int .i64 x) = cellsI (l.set i x) := by
 unfold cellsI encI
 rw [List.setIfInBounds_toArray, List.map_set]
theorem iAt_set {l : List Int} {i j : Nat} {x : Int} (hi : i < l.length) : iAt (l.set i x) j = if j = i then x else iAt l j := by
 unfold iAt
 simp only [List.getD_eq_getElem?_getD, List.getElem?_set]
 by_cases e : i = j
 ·subst e; simp [hi]
 ·rw [if_neg e, if_neg (fun h => e h.symm)]
theorem iAt_rep {n i : Nat} : iAt (List.replicate n 0) i = 0 := by
 unfold iAt
 rw [List.getD_eq_getElem?_getD, List.getElem?_replicate]
 split <;> rfl
theorem make_ints (n : Nat) (h : n ≤ 100000) (w : World) : (Instr.makeSlice 22 (.int .i64 (n : Nat)) (.int .i64 (n : Nat))).run Tryz.prog w = .ok (.slice (some ⟨w.heap.size, 0, none⟩) n n) (w.alloc (.cells (cellsI (List.replicate n 0)) 3)) := by
 obtain ⟨i, hi, hz, hs, hb⟩ := info_parts infoI
 have q := run_make (P := Tryz.prog) w 22 3 i (.int .i64 0) (by kernel_rfl) hi hz .i64 .i64 n n (by omega) (Int.le_refl _) (by rw [hb]; omega) (by omega)
 rw [hs] at q
 simp only [Int.toNat_natCast] at q
 have e : madeCells (Value.int .i64 0).cells (n * 1) = cellsI (List.replicate n 0) := by
  unfold madeCells cellsI encI
  apply Array.ext
  ·simp
  ·intro i h1 h2
   simp [Value.cells, Nat.mod_one]
 rw [e] at q
 exact q
theorem Own.ints {W : World} {b n : Nat} {l : List Int} (h : Own W b (cellsI l)) (hn : l.length = n) (hI : I64L l) : IntsAt W (some ⟨b, 0, none⟩) n l :=
 ⟨hn, hI, fun _ => ⟨b, 0, rfl, h.lt, fun i hi => by rw [Nat.zero_add, h.cell]; exact cellsI_at (by omega)⟩⟩
/-- All elements are at most B. -/
def BdI (B : Int) (l : List Int) : Prop := ∀ i, -B ≤ iAt l i ∧ iAt l i ≤ B
theorem BdI.set {B : Int} {l : List Int} (h : BdI B l) {i : Nat} {x : Int} (hi : i < l.length) (hx : -B ≤ x ∧ x ≤ B) : BdI B (l.set i x) := fun j => by
 rw [iAt_set hi]
 split
 ·exact hx
 ·exact h j
theorem BdI.rep {B : Int} (h : 0 ≤ B) (n : Nat) : BdI B (List.replicate n 0) := fun j => by rw [iAt_rep]; omega
theorem BdI.i64 {B : Int} {l : List Int} (h : BdI B l) (hB : B ≤ 1000000000000) : I64L l := fun i _ => by have := h i; omega
theorem BdI.mono {B C : Int} {l : List Int} (h : BdI B l) (hB : B ≤ C) : BdI C l := fun i => by have := h i; omega
end Go.Proofs.YtflgngjocgiojaaGreat
