/- The law MatrixRanks returns true. -/
import Derived.Test.YtflgngjocgiojaaGreatRanksL
namespace Go.Proofs.YtflgngjocgiojaaGreat
open Go.RowKit

/-- A slice of rows of a function's own; the rows may be another's. -/
def RowsG (base : Nat) (w : World) (v : Value) (M : List (List Int)) : Prop := ∃ xs, w.ownsRow base 22 1 v M.length xs ∧ RowsW (fun b => some b ≠ v.ownBlock) w xs M
theorem RowsG.nil (base : Nat) (w : World) : RowsG base w (.slice none 0 0) [] := ⟨[], ⟨rfl, .inl ⟨rfl, rfl⟩⟩, RowsW.nil _ _⟩
theorem RowsG.below {base : Nat} {w w' : World} {v : Value} {M : List (List Int)} (h : RowsG base w v M) (hb : Below w.heap.size w w') : RowsG base w' v M := by
 obtain ⟨xs, h1, h2⟩ := h
 exact ⟨xs, ownsRow_stay h1 hb, h2.below hb⟩
theorem RowsG.rows {base n : Nat} {w : World} {v : Value} {M : List (List Int)} (h : RowsG base w v M) (hn : M.length = n) (h0 : 0 < n) : ∃ g c, v = .slice (some ⟨g, 0, none⟩) n c ∧ n ≤ c ∧ c ≤ 9223372036854775807 ∧ RowsAt w (some ⟨g, 0, none⟩) n M := by
 subst hn
 obtain ⟨xs, h1, h2⟩ := h
 obtain ⟨A2, c2, rfl, g1, g2, g3, g4⟩ := rows_of_row h1 h2 rfl
 obtain ⟨g, rfl, _, _⟩ := g4 h0
 exact ⟨g, c2, rfl, g1, g2, g3⟩
theorem RowsW.grow {base tl j c4 gg cg : Nat} {wr w7 : World} {v : Value} {xs : List Value} {M : List (List Int)} {Z : List Int} {A4 : Option Addr}
  (hrw : RowsW (fun b => some b ≠ v.ownBlock) wr xs M) (hn : M.length = tl) (h1 : j ≤ c4) (h2 : c4 ≤ 9223372036854775807) (hX : ∀ b off, A4 = some ⟨b, off, none⟩ → b < wr.heap.size ∧ some b ≠ v.ownBlock) (h3 : IntsAt wr A4 j Z)
  (hs : wr.heap.size ≤ w7.heap.size) (hk : ∀ b, b < wr.heap.size → some b ≠ v.ownBlock → w7.heap[b]? = wr.heap[b]?) (hat : v.ownBlock = some gg ∨ wr.heap.size ≤ gg)
  (ho7 : w7.ownsRow base 22 1 (.slice (some ⟨gg, 0, none⟩) (tl + 1) cg) (tl + 1) (xs ++ [.slice A4 j c4])) : RowsG base w7 (.slice (some ⟨gg, 0, none⟩) (tl + 1) cg) (M ++ [Z]) := by
 refine ⟨_, by rw [List.length_append, hn]; exact ho7, (hrw.snoc h1 h2 hX h3).move hs fun b hlt hb => ⟨hk b hlt hb, fun e => ?_⟩⟩
 have e : b = gg := Option.some.inj e
 subst e
 rcases hat with h | h
 ·exact hb h.symm
 ·omega
/-- What the first slice is like ahead of its append and behind it. -/
def ph2 (base q gO cO : Nat) (xs : List Value) (row vv : Value) (ys : List Value) : Nat → World → Prop
 | 0, u => u.ownsRow base 22 1 (.slice (some ⟨gO, 0, none⟩) q cO) q xs ∧ u.ownsRow base 22 1 vv q ys
 | _ + 1, u => u.ownsRow base 22 1 (.slice (some ⟨gO, 0, none⟩) (q + 1) cO) (q + 1) (xs ++ [row]) ∧ u.ownsRow base 22 1 vv q ys
theorem ph2_below {base q gO cO : Nat} {xs : List Value} {row vv : Value} {ys : List Value} : ∀ (k : Nat) (u u' : World), ph2 base q gO cO xs row vv ys k u → Below u.heap.size u u' → ph2 base q gO cO xs row vv ys k u'
 | 0, _, _, h, b => ⟨ownsRow_stay h.1 b, ownsRow_stay h.2 b⟩
 | _ + 1, _, _, h, b => ⟨ownsRow_stay h.1 b, ownsRow_stay h.2 b⟩
theorem rows_of {base n : Nat} {w : World} {X : Nat → Prop} {v : Value} {xs : List Value} {M : List (List Int)} (h1 : w.ownsRow base 22 1 v n xs) (h2 : RowsW X w xs M) (hn : M.length = n) (h0 : 0 < n) : ∃ g c, v = .slice (some ⟨g, 0, none⟩) n c ∧ n ≤ c ∧ c ≤ 9223372036854775807 ∧ RowsAt w (some ⟨g, 0, none⟩) n M := by
 obtain ⟨A2, c2, rfl, g1, g2, g3, g4⟩ := rows_of_row h1 h2 hn
 obtain ⟨g, rfl, _, _⟩ := g4 h0
 exact ⟨g, c2, rfl, g1, g2, g3⟩
/-- Two slices of rows that grow side by side: the first one's rows are the function's own, the second one's are older. -/
structure TwoR (base : Nat) (w : World) (o v : Value) (P R : List (List Int)) : Prop where
 ex : ∃ xs ys, w.ownsRow base 22 1 o P.length xs ∧ w.ownsRow base 22 1 v R.length ys ∧ RowsW (fun b => base ≤ b ∧ some b ≠ o.ownBlock ∧ some b ≠ v.ownBlock) w xs P ∧ RowsW (fun b => b < base) w ys R
 dis : ∀ b, o.ownBlock = some b → v.ownBlock ≠ some b
def TwoR.fst {base : Nat} {w : World} {o v : Value} {P R : List (List Int)} (_ : TwoR base w o v P R) : Value := o
def TwoR.snd {base : Nat} {w : World} {o v : Value} {P R : List (List Int)} (_ : TwoR base w o v P R) : Value := v
theorem TwoR.below {base : Nat} {w w' : World} {o v : Value} {P R : List (List Int)} (h : TwoR base w o v P R) (hb : Below w.heap.size w w') : TwoR base w' o v P R := by
 obtain ⟨xs, ys, h1, h2, h3, h4⟩ := h.ex
 exact ⟨⟨xs, ys, ownsRow_stay h1 hb, ownsRow_stay h2 hb, h3.below hb, h4.below hb⟩, h.dis⟩
theorem TwoR.next {base q g3 c3 g4 c4 gg m cg c5 : Nat} {wr u : World} {oo vv : Value} {xs ys : List Value} {P R : List (List Int)} {Z ZR : List Int} {B5 : Option Addr} (hP : P.length = q) (hR : R.length = q)
  (hx : RowsW (fun b => base ≤ b ∧ some b ≠ oo.ownBlock ∧ some b ≠ vv.ownBlock) wr xs P) (hy : RowsW (fun b => b < base) wr ys R)
  (hg : IntsAt wr (some ⟨gg, 0, none⟩) m Z) (hmc : m ≤ cg) (hcg : cg ≤ 9223372036854775807) (hgg1 : base ≤ gg) (hgg2 : gg < wr.heap.size) (hgo : some gg ≠ oo.ownBlock) (hgv : some gg ≠ vv.ownBlock)
  (hB : IntsAt wr B5 m ZR) (hm5 : m ≤ c5) (hc5 : c5 ≤ 9223372036854775807) (hB5 : ∀ b off, B5 = some ⟨b, off, none⟩ → b < base) (hbase : base ≤ wr.heap.size)
  (hs : wr.heap.size ≤ u.heap.size) (hk : ∀ b, b < wr.heap.size → some b ≠ oo.ownBlock → some b ≠ vv.ownBlock → u.heap[b]? = wr.heap[b]?)
  (ho' : u.ownsRow base 22 1 (.slice (some ⟨g3, 0, none⟩) (q + 1) c3) (q + 1) (xs ++ [.slice (some ⟨gg, 0, none⟩) m cg]))
  (hv' : u.ownsRow base 22 1 (.slice (some ⟨g4, 0, none⟩) (q + 1) c4) (q + 1) (ys ++ [.slice B5 m c5]))
  (h3 : oo.ownBlock = some g3 ∨ wr.heap.size ≤ g3) (h4 : vv.ownBlock = some g4 ∨ wr.heap.size ≤ g4) (h34 : g3 ≠ g4) (hlo : ∀ b, oo.ownBlock = some b → base ≤ b) (hlv : ∀ b, vv.ownBlock = some b → base ≤ b) :
  TwoR base u (.slice (some ⟨g3, 0, none⟩) (q + 1) c3) (.slice (some ⟨g4, 0, none⟩) (q + 1) c4) (P ++ [Z]) (R ++ [ZR]) := by
 refine ⟨⟨_, _, by rw [List.length_append, hP]; exact ho', by rw [List.length_append, hR]; exact hv', (hx.snoc hmc hcg (fun b off e => by cases e; exact ⟨hgg2, hgg1, hgo, hgv⟩) hg).move hs fun b hlt hX => ⟨hk b hlt hX.2.1 hX.2.2, hX.1, fun e => ?_, fun e => ?_⟩,
  (hy.snoc hm5 hc5 (fun b off e => ⟨by have := hB5 b off e; omega, hB5 b off e⟩) hB).move hs fun b hlt hX => ⟨hk b hlt (fun e => ?_) (fun e => ?_), hX⟩⟩, fun b hb e => ?_⟩
 ·have e : b = g3 := Option.some.inj e
  subst e
  rcases h3 with h | h
  ·exact hX.2.1 h.symm
  ·omega
 ·have e : b = g4 := Option.some.inj e
  subst e
  rcases h4 with h | h
  ·exact hX.2.2 h.symm
  ·omega
 ·have := hlo b e.symm
  have hX : b < base := hX
  omega
 ·have := hlv b e.symm
  have hX : b < base := hX
  omega
 ·have e1 : g3 = b := Option.some.inj hb
  have e2 : g4 = b := Option.some.inj e
  exact h34 (e1.trans e2.symm)
theorem TwoR.nil (base : Nat) (w : World) : TwoR base w (.slice none 0 0) (.slice none 0 0) [] [] := ⟨⟨[], [], ⟨rfl, .inl ⟨rfl, rfl⟩⟩, ⟨rfl, .inl ⟨rfl, rfl⟩⟩, RowsW.nil _ _, RowsW.nil _ _⟩, fun b h => by cases h⟩
/-- Row q while the step is made. -/
def rowQ (M : List (List Int)) (i k : Nat) (t : Int) (q p : Nat) : List Int := if q = i ∧ i ≠ k then plusR (rAt M q) (rAt M k) t p else rAt M q
theorem rowQ_zero (M : List (List Int)) (i k : Nat) (t : Int) (q : Nat) : rowQ M i k t q 0 = rAt M q := by
 unfold rowQ
 split
 ·exact plusR_zero _ _ _
 ·rfl
theorem rowQ_full {M : List (List Int)} {i k : Nat} {t : Int} {q m : Nat} (h : (rAt M q).length = m) : rowQ M i k t q m = plusJ M i k t q := by
 subst h; rfl
theorem rowQ_next {M : List (List Int)} {i k : Nat} {t : Int} {q p m : Nat} {cur : Array Value} (hc : q = i ∧ i ≠ k) (hm : (rAt M q).length = m) (hp : p < m) (h : ∀ x, x < m → cur[x]? = some (.int .i64 (iAt (rowQ M i k t q p) x))) :
  ∀ x, x < m → (cur.setIfInBounds p (.int .i64 (iAt (rAt M q) p + t * iAt (rAt M k) p)))[x]? = some (.int .i64 (iAt (rowQ M i k t q (p + 1)) x)) := fun x hx => by
 have hs : p < cur.size := (Array.getElem?_eq_some_iff.1 (h p hp)).1
 have hq := h x hx
 unfold rowQ at hq ⊢
 rw [if_pos hc, plusR_at (by omega)] at hq ⊢
 rw [Array.getElem?_setIfInBounds]
 by_cases e : p = x
 ·subst e
  rw [if_pos rfl, if_pos hs, if_pos (by omega)]
 ·rw [if_neg e, hq]
  by_cases e2 : x < p
  ·rw [if_pos e2, if_pos (by omega)]
  ·rw [if_neg e2, if_neg (by omega)]
theorem rowQ_at {M : List (List Int)} {i k : Nat} {t : Int} {q p : Nat} (hp : p < (rAt M q).length) : iAt (rowQ M i k t q p) p = iAt (rAt M q) p := by
 unfold rowQ
 split
 ·rw [plusR_at hp, if_neg (by omega)]
 ·rfl
theorem rowQ_no {M : List (List Int)} {i k : Nat} {t : Int} {q : Nat} (hc : ¬ (q = i ∧ i ≠ k)) (p p' : Nat) : rowQ M i k t q p = rowQ M i k t q p' := by
 unfold rowQ
 rw [if_neg hc, if_neg hc]
theorem mul_three {t a : Int} (ht : -3 ≤ t ∧ t ≤ 3) (ha : -400000000 ≤ a ∧ a ≤ 400000000) : -1200000000 ≤ t * a ∧ t * a ≤ 1200000000 := by
 obtain ⟨t1, t2⟩ := ht
 have : t = -3 ∨ t = -2 ∨ t = -1 ∨ t = 0 ∨ t = 1 ∨ t = 2 ∨ t = 3 := by omega
 rcases this with e | e | e | e | e | e | e <;> subst e <;> omega
theorem plusJ_ok {M : List (List Int)} {r m i k q : Nat} {t : Int} (h : MadeM M r m) (h2 : r ≤ 8) (hq : q < r) (hk : k < r) (ht : -3 ≤ t ∧ t ≤ 3) : (plusJ M i k t q).length = m ∧ I64L (plusJ M i k t q) := by
 have h3 := h.row q hq
 have h4 := h.row k hk
 have h5 := capB_le (k := q) (by omega)
 have h6 := capB_le (k := k) (by omega)
 unfold plusJ
 split
 ·refine ⟨(plusR_len _ _ _ _).trans h3.1, fun x hx => ?_⟩
  rw [plusR_len] at hx
  rw [plusR_at hx, if_pos hx]
  have h7 := h3.2 x
  have h8 := h4.2 x
  have h9 := mul_three (t := t) (a := iAt (rAt M k) x) ht (by omega)
  omega
 ·exact ⟨h3.1, h3.2.i64 (by omega)⟩
set_option maxRecDepth 100000 in
set_option maxHeartbeats 8000000 in
theorem law05_Ranks_walk {A : Option Addr} {n cap : Nat} {l : List Int} {x y : Int} (hx : 0 ≤ x) (hx2 : x ≤ 255) (hy : 0 ≤ y) (hy2 : y ≤ 255) {pa pb tm : Int} (hpa : 0 ≤ pa) (hpa2 : pa ≤ 255) (hpb : 0 ≤ pb) (hpb2 : pb ≤ 255) (ht : 0 ≤ tm) (ht2 : tm ≤ 255) {A2 : Option Addr} {n2 cap2 : Nat} {l2 : List Int} (w : World) (hl : SliceI w A n l) (hl2 : SliceI w A2 n2 l2) :
  Calls Tryz.prog 7 #[.agg #[.slice A n cap, .int .u8 x, .int .u8 y], .agg #[.int .u8 pa, .int .u8 pb], .int .u8 tm, .slice A2 n2 cap2] w fun e w' => e = .returned (.bool true) ∧ Below w.heap.size w w' := by
 obtain ⟨i0, hi, hz0, hz1, hz2⟩ := info_parts infoI
 obtain ⟨i1, hi1, hy0, hy1, hy2'⟩ := info_parts infoIs
 have HLI := Lib.hid hl
 have HLI2 := Lib.hid hl2
 obtain ⟨r, hr⟩ : ∃ r : Nat, 1 + x % 8 = r := ⟨(1 + x % 8).toNat, by omega⟩
 obtain ⟨m, hm⟩ : ∃ m : Nat, 1 + y % 8 = m := ⟨(1 + y % 8).toNat, by omega⟩
 have hr1 : 1 ≤ r := by omega
 have hr8 : r ≤ 8 := by omega
 have hm1 : 1 ≤ m := by omega
 have hm8 : m ≤ 8 := by omega
 have hri : (r : Int) ≤ 8 := by omega
 have hmi : (m : Int) ≤ 8 := by omega
 have hri1 : (1 : Int) ≤ (r : Int) := by omega
 obtain ⟨i9, hi9⟩ : ∃ q : Nat, pa % (r : Int) = q := ⟨(pa % (r : Int)).toNat, by have := Int.emod_nonneg pa (b := (r : Int)) (by omega); omega⟩
 obtain ⟨k9, hk9⟩ : ∃ q : Nat, pb % (r : Int) = q := ⟨(pb % (r : Int)).toNat, by have := Int.emod_nonneg pb (b := (r : Int)) (by omega); omega⟩
 have hi9r : i9 < r := by have := Int.emod_lt_of_pos pa (b := (r : Int)) (by omega); omega
 have hk9r : k9 < r := by have := Int.emod_lt_of_pos pb (b := (r : Int)) (by omega); omega
 have hpat : pa.tmod (r : Int) = (i9 : Int) := by rw [Int.tmod_eq_emod_of_nonneg hpa, hi9]
 have hpbt : pb.tmod (r : Int) = (k9 : Int) := by rw [Int.tmod_eq_emod_of_nonneg hpb, hk9]
 obtain ⟨t7, ht7⟩ : ∃ q : Int, tm % 7 = q := ⟨_, rfl⟩
 have htmt : tm.tmod 7 = t7 := by rw [Int.tmod_eq_emod_of_nonneg ht, ht7]
 have ht7b : 0 ≤ t7 ∧ t7 ≤ 6 := by omega
 have HRR := Lib.hid (And.intro hr hm)
 have HX := Lib.hid (And.intro hx (And.intro hx2 (And.intro hy hy2)))
 clear hl hl2 hr hm hi9 hk9 ht7
 have hW := ((Below.refl w.heap.size w).alloc (Nat.le_refl _) (.cells #[.slice A n cap, .int .u8 x, .int .u8 y] 24)).alloc (by simp) (.cells #[.int .u8 pa, .int .u8 pb] 68)
 have oC : Own ((w.alloc (.cells #[.slice A n cap, .int .u8 x, .int .u8 y] 24)).alloc (.cells #[.int .u8 pa, .int .u8 pb] 68)) w.heap.size #[.slice A n cap, .int .u8 x, .int .u8 y] := (Own.new rfl).below ((Below.refl _ _).alloc (Nat.le_refl _) _)
 have oP : Own ((w.alloc (.cells #[.slice A n cap, .int .u8 x, .int .u8 y] 24)).alloc (.cells #[.int .u8 pa, .int .u8 pb] 68)) (w.heap.size + 1) #[.int .u8 pa, .int .u8 pb] := (by repeat' (first | ((refine Own.new ?_); (focus (first | rfl | omega | (simp; done) | (simp; omega)))) | assumption | refine Own.alloc ?_ _ | refine Own.drew ?_ | (refine Own.far ?_ ?_ _; rotate_left; (focus (first | rfl | omega | (simp; done) | (simp; omega))))))
 go_enter Tryz.func7, Tryz.ntmps7
 go_wp2_with fail
 generalize ((w.alloc (.cells #[.slice A n cap, .int .u8 x, .int .u8 y] 24)).alloc (.cells #[.int .u8 pa, .int .u8 pb] 68)) = W0 at *
 refine Calls.mono (law05_sanity _) ?_
 rintro e w1 ⟨rfl, hb⟩
 have hw := hW.trans (hb.mono hW.size)
 have pC := oC.below hb
 have pP := oP.below hb
 have pCc := pC.cell
 have pCf := pC.thaw
 have pCz := pC.lt
 clear hb hW oC oP
 go_wp2_with fail
 refine Calls.mono (law05_made A n cap l x y r m HX.out.1 HX.out.2.1 HX.out.2.2.1 HX.out.2.2.2 HRR.out.1 HRR.out.2 _ (HLI.out.below hw)) ?_
 rintro e w3 ⟨⟨g, gc, M, rfl, hgc, hgm, hRM, hMM, _, _⟩, hb⟩
 have hw3 := hw.trans (hb.mono hw.size)
 have pP3 := pP.below hb
 have HMM := Lib.hid hMM
 have HRM := Lib.hid hRM
 clear hb hw pC pP pCc pCf pCz hMM hRM HX hx hx2 hy hy2 HLI HRR
 obtain ⟨hgz, B1, m1, c1, hc0, _, _, hI0⟩ := row_first HRM.out (i := 0) (by omega)
 have hm1e : m1 = m := by rw [← hI0.len]; exact (HMM.out.row 0 (by omega)).1
 have hm1e := hm1e.symm
 subst hm1e
 have q0 := matrix_Rank gc HRM.out (fun h => rank_fine h)
 rw [HMM.out.check hr1 hr8 hm8] at q0
 obtain ⟨rk, hrk⟩ : ∃ q, rankZ M = q := ⟨_, rfl⟩
 rw [hrk] at q0
 have Q0 := Lib.hid q0
 have HRK := Lib.hid hrk
 clear q0 hrk hI0
 go_wp2_with fail
 refine Calls.mono Q0.out ?_
 rintro e w4 ⟨rfl, hb⟩
 have hw4 := hw3.trans (hb.mono hw3.size)
 have HRM4 := Lib.hid (HRM.out.below hb)
 have pP4 := pP3.below hb
 have pPc := pP4.cell
 have pPf := pP4.thaw
 have pPz := pP4.lt
 have hrp : ¬ (r : Int) = 0 := by omega
 clear hb hw3 Q0 HRM hc0 hgz pP3
 go_wp2
 refine region_late 14 [] (by kernel_rfl) (by kernel_rfl) (by rfl) ?_
 apply Exists.intro
 refine ⟨fun v hv hne => ?_, fun u hu => ?_⟩
 ·simp only [List.take_succ_cons, List.take_zero]
  have d1 := fun x => (pP4.later (v := v) (T := []) (by simp) x).cell
  repeat (go_big_quiet_step (fail))
  refine wpQuiet_nil ?_
  exact rfl
 simp only [List.drop_succ_cons, List.drop_zero]
 refine late_nil ?_
 (try simp only [Act.put, List.setIfInBounds_toArray, List.set_cons_zero, List.set_cons_succ])
 have hwu := hw4.trans (hu.mono hw4.size)
 have HRMu := Lib.hid (HRM4.out.below hu)
 clear hu hw4 HRM4 pP4 pPc pPf pPz
 clear w4
 have hku := Below.refl u.heap.size u
 have hzu := hwu.size
 go_wp2
 go_loopw [16, 63] (fun v i wr => ∃ j : Nat, j ≤ m ∧ i = .int .i64 j ∧ Below u.heap.size u wr ∧ RowsG u.heap.size wr v (turnP M r j)) (fun _ i _ => m - (intOf i).toNat)
 case atStart => exact ⟨0, by omega, rfl, hku, RowsG.nil _ _⟩
 case round =>
  clear hku
  obtain ⟨j, hj, rfl, hkr, hG⟩ := hrel
  have HG := Lib.hid hG
  have hzr := hkr.size
  clear hG
  by_cases hjm : j < m
  ·have hjmi : (j : Int) < (m : Int) := by omega
   have hkp := Below.refl wr.heap.size wr
   have HRMr := Lib.hid (HRMu.out.below hkr)
   generalize wr = wo at *
   go_wp2
   go_loopw [18, 68] (fun c i wi => ∃ k : Nat, k ≤ r ∧ i = .int .i64 k ∧ Below wo.heap.size wo wi ∧ wi.ownsRow wo.heap.size 3 1 c k (encI (colP M j k))) (fun _ i _ => r - (intOf i).toNat)
   case atStart => exact ⟨0, by omega, rfl, hkp, ⟨rfl, .inl ⟨rfl, rfl⟩⟩⟩
   case round =>
    clear hkp
    obtain ⟨k, hk, rfl, hki, hrow⟩ := hrel
    have HO := Lib.hid hrow
    have hzi := hki.size
    clear hrow
    by_cases hkr' : k < r
    ·have hkri : (k : Int) < (r : Int) := by omega
     obtain ⟨hgz, B2, m2, c2, hc2, _, _, hI2⟩ := row_first (HRMr.out.below hki) (i := k) hkr'
     have hm2 : m = m2 := by rw [← hI2.len]; exact (HMM.out.row k hkr').1.symm
     subst hm2
     obtain ⟨b3, off3, hB2, hlt3, hat3⟩ := hI2.row (by omega)
     subst hB2
     have hv3 := hat3 j hjm
     obtain ⟨z, hz⟩ : ∃ z, iAt (rAt M k) j = z := ⟨_, rfl⟩
     rw [hz] at hv3
     have HZ := Lib.hid hz
     have hob : ∀ b, _ = some b → wo.heap.size ≤ b := fun b hb => ownBlock_ge HO.out hb
     clear hz hat3 hI2
     go_wp2_with (at_builtin; refine wpList_append_lies _ rfl _ _ _ (by rfl) wo.heap.size 3 i0 (.int .i64 0) 1 8 Tryz.underlying22 hi hz0 hz1 hz2 rfl (by omega) _ k (encI (colP M j k)) (by rfl) (HO.out.alloc _) ⟨wr.heap.size, 0, none⟩ 1 1 [.int .i64 z] (by rfl) rfl ?c1 ?c2 (by omega) ?c3 ?c4 ?c5 (wr.heap.size + 1) (by simp) ?_)
     case c1 => exact World.news_of_block (heap_alloc_new wr _)
     case c2 => intro u hu; simp at hu; subst hu; rfl
     case c3 => unfold maxLen; omega
     case c4 => omega
     case c5 => simp; omega
     intro gg cg w7 ho7 hg7 hat hlt7
     have hal : Below wr.heap.size wr (wr.alloc (.cells #[.int .i64 z] 3)) := (Below.refl _ _).alloc (Nat.le_refl _) _
     have B7 := Lib.hid (Below.grown (hki.trans (hal.mono hzi)) hg7 (by simp; omega) (fun b hb => hob b hb))
     rw [encI_snoc, ← HZ.out, ← show colP M j (k + 1) = colP M j k ++ [iAt (rAt M k) j] from map_next k _] at ho7
     have HO7 := Lib.hid ho7
     clear ho7 hg7 hat hob hal hlt7 hc2 hv3 hlt3 hgz
     go_wp2
     go_roundw
     case rel => exact ⟨k + 1, by omega, by go_num, B7.out, HO7.out⟩
     case measure => simp [intOf]; omega
    ·obtain rfl : k = r := by omega
     have hI : I64L (colP M j k) := fun i hi => by
      unfold colP at hi ⊢
      rw [len_map] at hi
      rw [iAt_map _ hi]
      have h5 := (HMM.out.row i hi).2 j
      have := capB_le (k := i) (by omega)
      omega
     obtain ⟨A4, c4, rfl, h41, h42, h43, h44⟩ := ints_of_row HO.out (len_map _ _) hI
     obtain ⟨xs, ho, hrw⟩ := HG.out
     have hob : ∀ b, _ = some b → u.heap.size ≤ b ∧ b < wo.heap.size := fun b hb => ⟨ownBlock_ge ho hb, ownBlock_lt ho hb⟩
     have ho := ownsRow_stay ho hki
     have hrw := hrw.below hki
     rw [show (turnP M k j).length = j from len_map _ _] at ho
     have HO9 := Lib.hid ho
     have HW9 := Lib.hid hrw
     have HI9 := Lib.hid (And.intro h43 h44)
     have HOB := Lib.hid hob
     have hkw := hkr.trans (hki.mono hzr)
     clear hI h43 h44 ho hrw HO hki hkr HRMr hob
     go_wp2_with (at_builtin; refine wpList_append_lies _ rfl _ _ _ (by rfl) u.heap.size 22 i1 (.slice none 0 0) 1 24 Tryz.underlying25 hi1 hy0 hy1 hy2' rfl (by omega) _ j xs (by rfl) (HO9.out.alloc _) ⟨wr.heap.size, 0, none⟩ 1 1 [.slice A4 k c4] (by rfl) rfl ?c1 ?c2 (by omega) ?c3 ?c4 ?c5 (wr.heap.size + 1) (by simp) ?_)
     case c1 => exact World.news_of_block (heap_alloc_new wr _)
     case c2 => intro u hu; simp at hu; subst hu; rfl
     case c3 => unfold maxLen; omega
     case c4 => omega
     case c5 => simp; omega
     intro gg cg w7 ho7 hg7 hat hlt7
     have hal : Below wr.heap.size wr (wr.alloc (.cells #[.slice A4 k c4] 22)) := (Below.refl _ _).alloc (Nat.le_refl _) _
     have hs7 := hg7.size
     simp at hs7
     have hw7 := Below.grown (hkw.trans (hal.mono hkw.size)) hg7 (by simp; have := hkw.size; omega) (fun b hb => (HOB.out b hb).1)
     have hG7 := RowsW.grow HW9.out (len_map _ _) h41 h42 (fun b off e => ⟨(HI9.out.2 b off e).2.2.1, fun e2 => by have := (HOB.out b e2.symm).2; have := (HI9.out.2 b off e).2.1; omega⟩) HI9.out.1 (by omega) (fun b hlt hb => (hg7.block b (by simp; omega) (fun e => hb e)).trans (hal.block b hlt)) (hat.imp id fun h => by omega) ho7
     rw [← show turnP M k (j + 1) = turnP M k j ++ [colP M j k] from map_next j _] at hG7
     have HG7 := Lib.hid hG7
     clear ho7 hg7 hat hal hlt7 hG7 HO9 HW9 HI9 HOB hkw hs7
     go_wp2
     go_roundw
     case rel => exact ⟨j + 1, by omega, by go_num, hw7, HG7.out⟩
     case measure => simp [intOf]; omega
  ·have e9 : m = j := by omega
   subst e9
   obtain ⟨gT, cT, rfl, _, _, hTA⟩ := HG.out.rows (len_map _ _) (by omega)
   have HTA := Lib.hid hTA
   have hwt := hwu.trans (hkr.mono hwu.size)
   have HRMt := Lib.hid (HRMu.out.below hkr)
   clear hTA HG hkr HRMu hwu hzr hzu hjm
   generalize wr = wt at *
   have hkt := Below.refl wt.heap.size wt
   have hTW0 := TwoR.nil wt.heap.size wt
   have hgt := (row_first HRMt.out (i := 0) (by omega)).1
   go_wp2
   go_loopw [21, 22, 87] (fun o v i wr => ∃ q : Nat, q ≤ r ∧ i = .int .i64 q ∧ Below wt.heap.size wt wr ∧ TwoR wt.heap.size wr o v (plusP M i9 k9 (t7 - 3) q) (moveP M r i9 q)) (fun _ _ i _ => r - (intOf i).toNat)
   case atStart => exact ⟨0, by omega, rfl, hkt, hTW0⟩
   case round =>
    clear hkt hTW0
    obtain ⟨q, hq, rfl, hkr, hTW⟩ := hrel
    obtain ⟨oo, eo⟩ : ∃ x, x = hTW.fst := ⟨_, rfl⟩
    obtain ⟨vv, ev⟩ : ∃ x, x = hTW.snd := ⟨_, rfl⟩
    simp only [TwoR.fst, TwoR.snd] at eo ev
    subst eo
    subst ev
    have HTW := Lib.hid hTW
    have hzr := hkr.size
    clear hTW
    by_cases hqr : q < r
    ·have hqri : (q : Int) < (r : Int) := by omega
     have HRMo := Lib.hid (HRMt.out.below hkr)
     obtain ⟨hgz, B2, m2, c4, hc4, hm4, hc4m, hI2⟩ := row_first HRMo.out (i := q) hqr
     have hm2 : m = m2 := by rw [← hI2.len]; exact (HMM.out.row q hqr).1.symm
     subst hm2
     obtain ⟨b3, off3, hB2, hlt3, hat3⟩ := hI2.row (by omega)
     subst hB2
     have hrl := (HMM.out.row q hqr).1
     generalize wr = wo at *
     have hal0 : Below wo.heap.size wo (wo.alloc (.cells #[] 3)) := (Below.refl _ _).alloc (Nat.le_refl _) _
     have hlit : (wo.alloc (.cells #[] 3)).ownsRow wo.heap.size 3 1 (.slice (some ⟨wo.heap.size, 0, none⟩) 0 0) 0 [] := World.ownsRow_lit wo #[] 0 (Nat.le_refl _) (by unfold maxLen; omega) (by simp)
     have hnew : ∀ (y : Nat) (u : Value), (encI (rAt M q))[y]? = some u → (wo.alloc (.cells #[] 3)).cell? ((⟨b3, off3, none⟩ : Addr).add y) = some u := fun y u hu => by
      have hy : y < m := by have := (List.getElem?_eq_some_iff.1 hu).1; rw [encI_len] at this; omega
      rw [encI_at (by omega)] at hu
      cases hu
      rw [Addr.add_lit]
      exact (World.cell?_of_block (hal0.block b3 hlt3)).trans (hat3 y hy)
     go_wp2_with (at_builtin; refine wpList_append_lies _ rfl _ _ _ (by rfl) wo.heap.size 3 i0 (.int .i64 0) 1 8 Tryz.underlying22 hi hz0 hz1 hz2 rfl (by omega) _ 0 [] (by rfl) hlit ⟨b3, off3, none⟩ m c4 (encI (rAt M q)) (by rfl) ?c0 hnew ?c2 (by omega) ?c3 ?c4 ?c5 (wo.heap.size + 1) (by simp) ?_)
     case c0 => rw [encI_len, hrl, Nat.mul_one]
     case c2 => exact encI_one _
     case c3 => unfold maxLen; omega
     case c4 => omega
     case c5 => simp
     intro gg cg w7 ho7 hg7 hat hlt7
     try simp only [Nat.zero_add, List.nil_append] at ho7
     try simp only [Nat.zero_add]
     obtain ⟨hgg, hggz, hcm, hcx, cur, hcur, hcc⟩ := own_of_row ho7 (by omega)
     have hb7 : Below wo.heap.size wo w7 := Below.grown hal0 hg7 (by simp) (fun b hb => by cases hb; exact Nat.le_refl _)
     have HO7 : Hid (∃ cur, Own w7 gg cur ∧ ∀ x, x < m → cur[x]? = some (.int .i64 (iAt (rowQ M i9 k9 (t7 - 3) q 0) x))) := Lib.hid ⟨cur, hcur, fun x hx => by
      rw [hcc x hx, rowQ_zero, encI_at (by omega)]⟩
     clear ho7 hg7 hat hlt7 hal0 hlit hnew hI2 hat3 hlt3 hc4 hcur hcc
     have hU0 := Upd.refl [gg] w7
     go_wp2
     go_loopw [98] (fun i wr => ∃ p : Nat, p ≤ m ∧ i = .int .i64 p ∧ Upd [gg] w7 wr ∧ ∃ cur, Own wr gg cur ∧ ∀ x, x < m → cur[x]? = some (.int .i64 (iAt (rowQ M i9 k9 (t7 - 3) q p) x))) (fun i _ => m - (intOf i).toNat)
     case atStart => exact ⟨0, by omega, rfl, hU0, HO7.out⟩
     case round =>
      clear hU0 HO7
      obtain ⟨p, hp, rfl, hU, cur, hcu, hcc⟩ := hrel
      have hzU := hU.size
      have hbW : Below wo.heap.size wo wr := Upd.below hb7 hU (by intro b hb; simp at hb; omega)
      by_cases hpm : p < m
      ·have hpmi : (p : Int) < (m : Int) := by omega
       by_cases hc : q = i9 ∧ i9 ≠ k9
       ·have b1 : ((q : Int) == (i9 : Int)) = true := by simp; omega
        have b2 : ((i9 : Int) == (k9 : Int)) = false := by simp; omega
        have b3' : ((i9 : Int) != (k9 : Int)) = true := by simp; omega
        obtain ⟨hgz5, B5, m5, c5, hc5, _, _, hI5⟩ := row_first (HRMo.out.below hbW) (i := k9) hk9r
        have hm5 : m = m5 := by rw [← hI5.len]; exact (HMM.out.row k9 hk9r).1.symm
        subst hm5
        obtain ⟨b5, off5, hB5, hlt5, hat5⟩ := hI5.row (by omega)
        subst hB5
        have cb := hat5 p hpm
        have ca := (hcu.cell p).trans (hcc p hpm)
        rw [rowQ_at (by omega)] at ca
        have hnx := rowQ_next hc hrl hpm hcc
        have bda := (HMM.out.row q hqr).2 p
        have bdb := (HMM.out.row k9 hk9r).2 p
        have bd1 := capB_le (k := q) (by omega)
        have bd2 := capB_le (k := k9) (by omega)
        obtain ⟨va, hva⟩ : ∃ z, iAt (rAt M q) p = z := ⟨_, rfl⟩
        obtain ⟨vb, hvb⟩ : ∃ z, iAt (rAt M k9) p = z := ⟨_, rfl⟩
        rw [hva] at ca bda hnx
        rw [hvb] at cb bdb hnx
        have hm9 := mul_three (t := t7 - 3) (a := vb) (by omega) (by omega)
        have HNX := Lib.hid hnx
        clear hnx
        obtain ⟨tt, htt⟩ : ∃ z, t7 - 3 = z := ⟨_, rfl⟩
        rw [htt] at hm9
        obtain ⟨s0, hs0⟩ : ∃ z, tt * vb = z := ⟨_, rfl⟩
        rw [hs0] at hm9
        obtain ⟨s, hs⟩ : ∃ z, va + s0 = z := ⟨_, rfl⟩
        have hsb : -2000000000 ≤ s ∧ s ≤ 2000000000 := by omega
        have hse : va + (t7 - 3) * vb = s := by rw [htt, hs0, hs]
        have HSE := Lib.hid hse
        have l3 := hcu.lt
        clear bda bdb bd1 bd2 hva hvb hI5 hat5 hse
        go_wp2
        refine region_sink 18 [] (by kernel_rfl) (by kernel_rfl) (by rfl) ?_
        apply Exists.intro
        refine ⟨fun v hv hne => ?_, fun u hu => ?_⟩
        ·simp only [List.take_succ_cons, List.take_zero]
         have f1 := fun y : Later [] wr v => (y.cell gg p l3 (by simp)).trans ca
         have f2 := later_cell (T := []) (w := wr) (v := v) hlt5 (by simp) cb
         have f3 := later_cell (T := []) (w := wr) (v := v) hgz5 (by simp) hc5
         repeat (go_big_quiet_step (fail))
         refine wpQuiet_nil ?_
         exact rfl
        simp only [List.drop_succ_cons, List.drop_zero]
        have p3 := hcu.below hu
        have p3c := (p3.cell p).trans (((hcu.cell p).symm).trans ca)
        have p3f := p3.thaw
        have p3z := p3.lt
        have hU4 : Upd [gg] w7 (u.setCell ⟨gg, p, none⟩ (.int .i64 s)) := (hU.hop hu).set (by simp) _
        have o4 : Own (u.setCell ⟨gg, p, none⟩ (.int .i64 s)) gg (cur.setIfInBounds p (.int .i64 s)) := p3.set p (.int .i64 s)
        have hnx := HNX.out
        rw [HSE.out] at hnx
        have HN4 := Lib.hid hnx
        clear hnx HNX HSE htt hs0 hs hu p3 hU hcu hcc ca cb hc5 hgz5 hlt5 b1 b2 b3'
        refine sink_all (by kernel_rfl) (fun K hK => ?_)
        go_simp
        refine hK _ _ ?_
        clear hK K p3c p3f p3z
        refine sink_nil ?_
        (try simp only [Act.put])
        go_wp2
        go_roundw
        case rel => exact ⟨p + 1, by omega, by go_num, hU4, _, o4, HN4.out⟩
        case measure => simp [intOf]; omega
       ·have hno := rowQ_no (M := M) (t := t7 - 3) hc p (p + 1)
        rw [hno] at hcc
        have HCC := Lib.hid (And.intro hcu hcc)
        clear hno hcc hcu
        by_cases hqi : q = i9
        ·have hik : i9 = k9 := by
          by_cases e : i9 = k9
          ·exact e
          ·exact absurd ⟨hqi, e⟩ hc
         have b1 : ((q : Int) == (i9 : Int)) = true := by simp; omega
         have b2 : ((i9 : Int) == (k9 : Int)) = true := by simp; omega
         have b3' : ((i9 : Int) != (k9 : Int)) = false := by simp; omega
         clear hqi hik hc
         go_wp2
         clear b1 b2 b3'
         go_roundw
         case rel => exact ⟨p + 1, by omega, by go_num, hU, _, HCC.out.1, HCC.out.2⟩
         case measure => simp [intOf]; omega
        ·have b1 : ((q : Int) == (i9 : Int)) = false := by simp; omega
         clear hqi hc
         go_wp2
         clear b1
         go_roundw
         case rel => exact ⟨p + 1, by omega, by go_num, hU, _, HCC.out.1, HCC.out.2⟩
         case measure => simp [intOf]; omega
      ·have e8 : m = p := by omega
       subst e8
       have hJ := plusJ_ok (i := i9) (q := q) HMM.out hr8 hqr hk9r (t := t7 - 3) (by omega)
       have hIA : IntsAt wr (some ⟨gg, 0, none⟩) m (plusJ M i9 k9 (t7 - 3) q) := ints_of_cells hcu hJ.1 hJ.2 (fun x hx => by rw [← rowQ_full hrl]; exact hcc x hx)
       have hggr := hcu.lt
       obtain ⟨qm, hqm⟩ : ∃ x, (q + i9) % r = x := ⟨_, rfl⟩
       have hqmr : qm < r := by rw [← hqm]; exact Nat.mod_lt _ (by omega)
       have hqmi : (qm : Int) < (r : Int) := by omega
       have hqmt : ((q : Int) + (i9 : Int)).tmod (r : Int) = (qm : Int) := by
        rw [Int.tmod_eq_emod_of_nonneg (by omega), ← hqm]
        first | rfl | simp
       have hkw : Below wt.heap.size wt wr := hkr.trans (hbW.mono hkr.size)
       obtain ⟨hgz5t, B5, m5, c5, hc5t, hm5c, hc5m, hI5t⟩ := row_first HRMt.out (i := qm) hqmr
       have hm5 : m = m5 := by rw [← hI5t.len]; exact (HMM.out.row qm hqmr).1.symm
       subst hm5
       have hc5 := (World.cell?_of_block (a := ⟨g, qm, none⟩) (hkw.block g hgz5t)).trans hc5t
       have hgz5 : g < wr.heap.size := Nat.lt_of_lt_of_le hgz5t hkw.size
       obtain ⟨b5, off5, hB5e, hlt5, _⟩ := hI5t.row (by omega)
       have hb5 : ∀ b off, B5 = some ⟨b, off, none⟩ → b < wt.heap.size := fun b off e => by rw [hB5e] at e; cases e; exact hlt5
       have hI5 := hI5t.same hkw.size (fun b off e => hkw.block b (hb5 b off e))
       clear hkw hc5t hI5t hB5e hlt5
       obtain ⟨xs, ys, hox, hvy, hxP, hyR⟩ := HTW.out.ex
       rw [show (plusP M i9 k9 (t7 - 3) q).length = q from len_map _ _] at hox
       rw [show (moveP M r i9 q).length = q from len_map _ _] at hvy
       have hob : ∀ b, oo.ownBlock = some b → wt.heap.size ≤ b ∧ b < wo.heap.size := fun b hb => ⟨ownBlock_ge hox hb, ownBlock_lt hox hb⟩
       have hvb : ∀ b, vv.ownBlock = some b → wt.heap.size ≤ b ∧ b < wo.heap.size := fun b hb => ⟨ownBlock_ge hvy hb, ownBlock_lt hvy hb⟩
       have HOB := Lib.hid hob
       have HVB := Lib.hid hvb
       have HOX := Lib.hid (ownsRow_stay hox hbW)
       have HVY := Lib.hid (ownsRow_stay hvy hbW)
       have HXP := Lib.hid (hxP.below hbW)
       have HYR := Lib.hid (hyR.below hbW)
       have HIA := Lib.hid hIA
       have HI5 := Lib.hid hI5
       have HB5 := Lib.hid hb5
       have HQM := Lib.hid hqm
       have hzW := hbW.size
       clear hox hvy hxP hyR hob hvb hIA hI5 hcu hcc hU hJ hqm hb5
       have hTo : ∀ b, oo.ownBlock = some b → b ∉ ownL vv := fun b hb => by rw [mem_ownL]; exact HTW.out.dis b hb
       have hDI := fun b hb => HTW.out.dis b hb
       have HDI := Lib.hid hDI
       clear hDI HTW
       go_wp2
       by_cases hfull : ∀ A c, oo = .slice A q c → c < q + 1
       ·have hTn : ∀ u : World, wr.heap.size ≤ u.heap.size → u.heap.size ∉ ownL vv := fun u hu => by
         rw [mem_ownL]
         intro h
         have := HVB.out _ h
         omega
        have hgT : g ∉ ownL vv := by
         rw [mem_ownL]
         intro h
         have := HVB.out _ h
         omega
        refine region_gen (T := ownL vv) [.make 2 [] (ownB (ownL vv) #[.slice (some ⟨gg, 0, none⟩) m cg] (fun p => .slice (some ⟨p, 0, none⟩) 1 1)), .make 3 [2] (appB (ownL vv) wt.heap.size (q + 1) 22 (xs ++ [.slice (some ⟨gg, 0, none⟩) m cg])), .make 14 [] (ownB (ownL vv) #[.slice B5 m c5] (fun p => .slice (some ⟨p, 0, none⟩) 1 1))] 15 0 40 (fun _ u => u.ownsRow wt.heap.size 22 1 vv q ys) (fun _ _ _ h k => ownsRow_stay h k) HVY.out (by kernel_rfl) (by kernel_rfl) (by rfl) ?_
        unfold genWalk
        apply Exists.intro
        apply And.intro
        ·apply Piece.mk
         ·intro f v hv hr hne
          simp only [List.take_succ_cons, List.take_zero, List.drop_zero, Nat.reduceSub]
          repeat (go_big_quiet_step (fail))
          refine wpQuiet_nil ?_
          exact rfl
         ·intro f; kernel_rfl
         ·intro f f' hf; kernel_rfl
        simp only [List.take_succ_cons, List.take_zero, List.drop_succ_cons, List.drop_zero, Nat.reduceAdd, oneOp]
        refine ⟨fun f => ⟨rfl, fun u hu _ => ?_⟩, ?_⟩
        ·refine make_own (e := 22) (by (try simp only [Act.put, List.setIfInBounds_toArray, List.set_cons_zero, List.set_cons_succ]); (try simp only [ownB_val, appB_val]); go_simp) (hTn _ hu.1)
        unfold genWalk
        apply Exists.intro
        apply And.intro
        ·apply Piece.mk
         ·intro f v hv hr hne
          simp only [List.take_zero, List.drop_succ_cons, List.drop_zero, Nat.reduceSub]
          (try simp only [Act.put, List.setIfInBounds_toArray, List.set_cons_zero, List.set_cons_succ])
          (try simp only [ownB_val])
          repeat (go_big_quiet_step (fail))
          refine wpQuiet_nil ?_
          exact rfl
         ·intro f; kernel_rfl
         ·intro f f' hf; simp
        simp only [List.take_succ_cons, List.take_zero, List.drop_succ_cons, List.drop_zero, Nat.reduceAdd, oneOp]
        refine ⟨fun f => ⟨rfl, fun u hu hm => ?_⟩, ?_⟩
        ·obtain ⟨h2T, cu2, hcu2⟩ := hm 2 (by simp)
         exact make_app _ _ 25 22 i1 (.slice none 0 0) 24 wt.heap.size rfl Tryz.underlying25 hi1 hy0 hy1 hy2' rfl oo q xs rfl (ownsRow_blk HOX.out fun b hb hlt => hu.2 b hlt (hTo b hb)) ⟨(f 2).1, 0, none⟩ 1 1 [.slice (some ⟨gg, 0, none⟩) m cg] rfl rfl (World.news_of_block hcu2) (fun y hy => by simp at hy; subst hy; rfl) (by omega) (by omega) (by omega) (by have := hu.1; omega) hfull (hTn _ hu.1)
        unfold genWalk
        apply Exists.intro
        apply And.intro
        ·apply Piece.mk
         ·intro f v hv hr hne
          simp only [List.take_succ_cons, List.take_zero, List.drop_succ_cons, List.drop_zero, Nat.reduceSub]
          (try simp only [Act.put, List.setIfInBounds_toArray, List.set_cons_zero, List.set_cons_succ])
          (try simp only [appB_val])
          have f3 := later_cell (T := ownL vv) (w := wr) (v := v) hgz5 hgT hc5
          repeat (go_big_quiet_step (fail))
          refine wpQuiet_nil ?_
          exact rfl
         ·intro f; kernel_rfl
         ·intro f f' hf; simp
        simp only [List.take_succ_cons, List.take_zero, List.drop_succ_cons, List.drop_zero, Nat.reduceAdd, oneOp]
        refine ⟨fun f => ⟨rfl, fun u hu _ => ?_⟩, ?_⟩
        ·refine make_own (e := 22) (by (try simp only [Act.put, List.setIfInBounds_toArray, List.set_cons_zero, List.set_cons_succ]); (try simp only [ownB_val, appB_val]); go_simp) (hTn _ hu.1)
        unfold genWalk
        apply Exists.intro
        apply And.intro
        ·apply Piece.mk
         ·intro f v hv hr hne
          simp only [List.take_zero, List.drop_succ_cons, List.drop_zero, Nat.reduceSub]
          (try simp only [Act.put, List.setIfInBounds_toArray, List.set_cons_zero, List.set_cons_succ])
          (try simp only [ownB_val])
          repeat (go_big_quiet_step (fail))
          refine wpQuiet_nil ?_
          exact rfl
         ·intro f; kernel_rfl
         ·intro f f' hf; simp
        intro f9 u' hup hph hmade hdist
        obtain ⟨⟨h3T, h3r⟩, l3a, l3b⟩ := hmade 3 (by omega) rfl
        obtain ⟨⟨h14T, h14c⟩, l14a, l14b⟩ := hmade 14 (by omega) rfl
        simp only
        (try simp only [Act.put, List.setIfInBounds_toArray, List.set_cons_zero, List.set_cons_succ])
        (try simp only [ownB_val, appB_val])
        clear hmade hdist
        obtain ⟨g3, hg3⟩ : ∃ x, (f9 3).1 = x := ⟨_, rfl⟩
        obtain ⟨c3, hc3⟩ : ∃ x, (f9 3).2 = x := ⟨_, rfl⟩
        obtain ⟨g14, hg14⟩ : ∃ x, (f9 14).1 = x := ⟨_, rfl⟩
        rw [hg3] at h3T h3r l3a l3b
        rw [hc3] at h3r
        rw [hg14] at h14T h14c l14a l14b
        simp only [hg3, hc3, hg14]
        clear hg3 hc3 hg14
        have hkT := Upd.keeps (Keeps.refl _ _) hup
        have hsu := hup.size
        obtain ⟨tA, htA⟩ := h14c
        have hu0 : ∀ b, b < wr.heap.size → some b ≠ vv.ownBlock → u'.heap[b]? = wr.heap[b]? := fun b hlt hb => hup.block b hlt (by rw [mem_ownL]; exact fun e => hb e.symm)
        have hBu : Below wt.heap.size wt u' := Upd.below (hkr.trans (hbW.mono hkr.size)) hup (fun b hb => by rw [mem_ownL] at hb; exact (HVB.out b hb).1)
        have HU := Lib.hid hu0
        clear hu0 hup
        refine effc_mem (by rfl) (fun K hK => ?_)
        refine late_append _ _ 25 rfl wt.heap.size 22 i1 (.slice none 0 0) 1 24 Tryz.underlying25 hi1 hy0 hy1 hy2' rfl (by omega) _ q ys (by rfl) hph ⟨g14, 0, none⟩ 1 1 [.slice B5 m c5] (by rfl) rfl (World.news_of_block htA) ?_ (by omega) (by unfold maxLen; omega) (by omega) (by omega) u'.heap.size rfl ?_
        ·intro y hy; simp at hy; subst hy; rfl
        intro g4 c4' ub ho4 hg4 hat4 hlt4
        have hTb : Keeps (ownL vv) wr ub := keeps_grown hkT hg4 (fun r e => .inl (by rw [mem_ownL]; exact e))
        have hsb := hg4.size
        have hB4 : Below wt.heap.size wt ub := hBu.trans ⟨hg4.os, hg4.tape, hg4.output, hg4.size, fun b hb => hg4.block b (by omega) (fun e => by have := (HVB.out b e.symm).1; omega)⟩
        have hT4 := TwoR.next (base := wt.heap.size) (wr := wr) (u := ub) (oo := oo) (vv := vv) (P := plusP M i9 k9 (t7 - 3) q) (R := moveP M r i9 q) (len_map _ _) (len_map _ _) HXP.out HYR.out HIA.out hcm hcx (by omega) hggr (fun e => by have := (HOB.out gg e.symm).2; omega) (fun e => by have := (HVB.out gg e.symm).2; omega) HI5.out hm5c hc5m HB5.out (by omega) (by omega) (fun b hlt h1 h2 => (hg4.block b (by omega) h2).trans (HU.out b hlt h2)) (ownsRow_blk h3r fun b hb hlt => hg4.block b hlt (fun e => by cases hb; exact h3T (mem_ownL.2 e.symm))) ho4 (.inr l3a) (hat4.imp id fun h => by omega) (fun e => by
         rcases hat4 with h | h
         ·exact h3T (mem_ownL.2 (e ▸ h))
         ·omega) (fun b hb => (HOB.out b hb).1) (fun b hb => (HVB.out b hb).1)
        rw [← show plusP M i9 k9 (t7 - 3) (q + 1) = plusP M i9 k9 (t7 - 3) q ++ [plusJ M i9 k9 (t7 - 3) q] from map_next q _, ← HQM.out, ← show moveP M r i9 (q + 1) = moveP M r i9 q ++ [rAt M ((q + i9) % r)] from map_next q _] at hT4
        have HT4 := Lib.hid hT4
        clear hT4 HU ho4 hg4 hat4 hlt4 h3r h3T h14T htA hkT hBu hph
        refine hK _ _ hTb (fun uc huc => ?_)
        clear hK K
        refine effc_mem (by rfl) (fun K hK => ?_)
        go_simp
        refine hK _ _ (hTb.later huc) (fun ud hud => ?_)
        clear hK K
        refine effc_mem (by rfl) (fun K hK => ?_)
        go_simp
        refine hK _ _ ((hTb.later huc).later hud) (fun ue hue => ?_)
        clear hK K
        have hbe : Below ub.heap.size ub ue := (huc.trans (hud.mono huc.size)).trans (hue.mono (Nat.le_trans huc.size hud.size))
        have HT9 := Lib.hid (HT4.out.below hbe)
        have hB9 : Below wt.heap.size wt ue := hB4.trans (hbe.mono hB4.size)
        clear hTb huc hud hue hbe HT4 hB4
        refine effc_nil ?_
        (try simp only [Act.put, List.setIfInBounds_toArray, List.set_cons_zero, List.set_cons_succ])
        go_wp2
        go_roundw
        case rel => exact ⟨q + 1, by omega, by go_num, hB9, HT9.out⟩
        case measure => simp [intOf]; omega
       ·obtain ⟨gO, cO, rfl, hroom⟩ : ∃ gO cO, oo = .slice (some ⟨gO, 0, none⟩) q cO ∧ q + 1 ≤ cO := by
         rcases HOX.out.2 with ⟨e1, e2⟩ | ⟨gO, cO, cu, e1, _⟩
         ·refine absurd (fun A c e => ?_) hfull
          rw [e1] at e
          injection e with _ _ e
          omega
         ·refine ⟨gO, cO, e1, ?_⟩
          rcases Nat.lt_or_ge cO (q + 1) with h | h
          ·refine absurd (fun A c e => ?_) hfull
           rw [e1] at e
           injection e with _ _ e
           omega
          ·exact h
        have hgO := HOB.out gO rfl
        have hgOv : gO ∉ ownL vv := hTo gO rfl
        have hTn : ∀ u : World, wr.heap.size ≤ u.heap.size → u.heap.size ∉ gO :: ownL vv := fun u hu => by
         rw [List.mem_cons, mem_ownL]
         rintro (h | h)
         ·omega
         ·have := HVB.out _ h
          omega
        have hgT : g ∉ gO :: ownL vv := by
         rw [List.mem_cons, mem_ownL]
         rintro (h | h)
         ·omega
         ·have := HVB.out _ h
          omega
        clear hTo hfull
        refine region_gen (T := gO :: ownL vv) [.make 2 [] (ownB (gO :: ownL vv) #[.slice (some ⟨gg, 0, none⟩) m cg] (fun p => .slice (some ⟨p, 0, none⟩) 1 1)), .need 3 [2], .step 3 (.slice (some ⟨gO, 0, none⟩) (q + 1) cO), .need 4 [], .make 14 [] (ownB (gO :: ownL vv) #[.slice B5 m c5] (fun p => .slice (some ⟨p, 0, none⟩) 1 1))] 15 1 40 (ph2 wt.heap.size q gO cO xs (.slice (some ⟨gg, 0, none⟩) m cg) vv ys) ph2_below ⟨HOX.out, HVY.out⟩ (by kernel_rfl) (by kernel_rfl) (by rfl) ?_
        unfold genWalk
        apply Exists.intro
        apply And.intro
        ·apply Piece.mk
         ·intro f v hv hr hne
          simp only [List.take_succ_cons, List.take_zero, List.drop_zero, Nat.reduceSub]
          repeat (go_big_quiet_step (fail))
          refine wpQuiet_nil ?_
          exact rfl
         ·intro f; kernel_rfl
         ·intro f f' hf; kernel_rfl
        simp only [List.take_succ_cons, List.take_zero, List.drop_succ_cons, List.drop_zero, Nat.reduceAdd, oneOp]
        refine ⟨fun f => ⟨rfl, fun u hu _ => ?_⟩, ?_⟩
        ·refine make_own (e := 22) (by (try simp only [Act.put, List.setIfInBounds_toArray, List.set_cons_zero, List.set_cons_succ]); (try simp only [ownB_val, appB_val]); go_simp) (hTn _ hu.1)
        unfold genWalk
        apply Exists.intro
        apply And.intro
        ·apply Piece.mk
         ·intro f v hv hr hne
          simp only [List.take_zero, List.drop_succ_cons, List.drop_zero, Nat.reduceSub]
          (try simp only [Act.put, List.setIfInBounds_toArray, List.set_cons_zero, List.set_cons_succ])
          (try simp only [ownB_val])
          repeat (go_big_quiet_step (fail))
          refine wpQuiet_nil ?_
          exact rfl
         ·intro f; kernel_rfl
         ·intro f f' hf; simp
        unfold genWalk
        apply Exists.intro
        apply And.intro
        ·apply Piece.mk
         ·intro f v hv hr hne
          simp only [List.take_zero, List.drop_succ_cons, List.drop_zero, Nat.reduceSub]
          (try simp only [Act.put, List.setIfInBounds_toArray, List.set_cons_zero, List.set_cons_succ])
          (try simp only [ownB_val, appB_val])
          repeat (go_big_quiet_step (fail))
          refine wpQuiet_nil ?_
          exact rfl
         ·intro f; kernel_rfl
         ·intro f f' hf; first | (simp; done) | (simp [hf 2 (by simp)])
        simp only [List.take_succ_cons, List.take_zero, List.drop_succ_cons, List.drop_zero, Nat.reduceAdd, oneOp]
        refine ⟨fun f => ⟨rfl, fun u hu hp hm => ?_⟩, ?_⟩
        ·obtain ⟨h2T, cu2, hcu2⟩ := hm 2 (by simp)
         exact late_fits _ _ 25 22 i1 wt.heap.size rfl Tryz.underlying25 hi1 hy1 gO q cO xs rfl hp.1 ⟨(f 2).1, 0, none⟩ 1 1 [.slice (some ⟨gg, 0, none⟩) m cg] rfl rfl (World.news_of_block hcu2) (fun y hy => by simp at hy; subst hy; rfl) hroom (fun u' h1 h2 => ⟨rfl, upd_grown h2 (fun b e => by cases e; simp), h1, ownsRow_blk hp.2 fun b hb hlt => h2.block b hlt (fun e => by cases e; exact HDI.out gO rfl hb)⟩)
        unfold genWalk
        apply Exists.intro
        apply And.intro
        ·apply Piece.mk
         ·intro f v hv hr hne
          simp only [List.take_zero, List.drop_succ_cons, List.drop_zero, Nat.reduceSub]
          (try simp only [Act.put, List.setIfInBounds_toArray, List.set_cons_zero, List.set_cons_succ])
          (try simp only [ownB_val, appB_val])
          repeat (go_big_quiet_step (fail))
          refine wpQuiet_nil ?_
          exact rfl
         ·intro f; kernel_rfl
         ·intro f f' hf; first | (simp; done) | (simp [hf 2 (by simp)])
        unfold genWalk
        apply Exists.intro
        apply And.intro
        ·apply Piece.mk
         ·intro f v hv hr hne
          simp only [List.take_succ_cons, List.take_zero, List.drop_succ_cons, List.drop_zero, Nat.reduceSub]
          (try simp only [Act.put, List.setIfInBounds_toArray, List.set_cons_zero, List.set_cons_succ])
          (try simp only [ownB_val, appB_val])
          have f3 := later_cell (T := gO :: ownL vv) (w := wr) (v := v) hgz5 hgT hc5
          repeat (go_big_quiet_step (fail))
          refine wpQuiet_nil ?_
          exact rfl
         ·intro f; kernel_rfl
         ·intro f f' hf; simp
        simp only [List.take_succ_cons, List.take_zero, List.drop_succ_cons, List.drop_zero, Nat.reduceAdd, oneOp]
        refine ⟨fun f => ⟨rfl, fun u hu _ => ?_⟩, ?_⟩
        ·refine make_own (e := 22) (by (try simp only [Act.put, List.setIfInBounds_toArray, List.set_cons_zero, List.set_cons_succ]); (try simp only [ownB_val, appB_val]); go_simp) (hTn _ hu.1)
        unfold genWalk
        apply Exists.intro
        apply And.intro
        ·apply Piece.mk
         ·intro f v hv hr hne
          simp only [List.take_zero, List.drop_succ_cons, List.drop_zero, Nat.reduceSub]
          (try simp only [Act.put, List.setIfInBounds_toArray, List.set_cons_zero, List.set_cons_succ])
          (try simp only [ownB_val])
          repeat (go_big_quiet_step (fail))
          refine wpQuiet_nil ?_
          exact rfl
         ·intro f; kernel_rfl
         ·intro f f' hf; simp
        intro f9 u' hup hph hmade hdist
        have hph9 : _ ∧ _ := hph
        obtain ⟨h3r, hph1⟩ := hph9
        obtain ⟨⟨h14T, h14c⟩, l14a, l14b⟩ := hmade 14 (by omega) rfl
        simp only
        (try simp only [Act.put, List.setIfInBounds_toArray, List.set_cons_zero, List.set_cons_succ])
        (try simp only [ownB_val, appB_val])
        clear hmade hdist
        obtain ⟨g14, hg14⟩ : ∃ x, (f9 14).1 = x := ⟨_, rfl⟩
        rw [hg14] at h14T h14c l14a l14b
        simp only [hg14]
        clear hg14
        have hkT := Upd.keeps (Keeps.refl _ _) hup
        have hsu := hup.size
        obtain ⟨tA, htA⟩ := h14c
        have hu0 : ∀ b, b < wr.heap.size → b ≠ gO → some b ≠ vv.ownBlock → u'.heap[b]? = wr.heap[b]? := fun b hlt h1 hb => hup.block b hlt (by rw [List.mem_cons, mem_ownL]; rintro (h | h); exact h1 h; exact hb h.symm)
        have hBu : Below wt.heap.size wt u' := Upd.below (hkr.trans (hbW.mono hkr.size)) hup (fun b hb => by rw [List.mem_cons, mem_ownL] at hb; rcases hb with hb | hb; omega; exact (HVB.out b hb).1)
        have HU := Lib.hid hu0
        clear hu0 hup
        refine effc_mem (by rfl) (fun K hK => ?_)
        refine late_append _ _ 25 rfl wt.heap.size 22 i1 (.slice none 0 0) 1 24 Tryz.underlying25 hi1 hy0 hy1 hy2' rfl (by omega) _ q ys (by rfl) hph1 ⟨g14, 0, none⟩ 1 1 [.slice B5 m c5] (by rfl) rfl (World.news_of_block htA) ?_ (by omega) (by unfold maxLen; omega) (by omega) (by omega) u'.heap.size rfl ?_
        ·intro y hy; simp at hy; subst hy; rfl
        intro g4 c4' ub ho4 hg4 hat4 hlt4
        have hTb : Keeps (gO :: ownL vv) wr ub := keeps_grown hkT hg4 (fun r e => .inl (List.mem_cons_of_mem _ (mem_ownL.2 e)))
        have hsb := hg4.size
        have hB4 : Below wt.heap.size wt ub := hBu.trans ⟨hg4.os, hg4.tape, hg4.output, hg4.size, fun b hb => hg4.block b (by omega) (fun e => by have := (HVB.out b e.symm).1; omega)⟩
        have hT4 := TwoR.next (base := wt.heap.size) (wr := wr) (u := ub) (oo := .slice (some ⟨gO, 0, none⟩) q cO) (vv := vv) (P := plusP M i9 k9 (t7 - 3) q) (R := moveP M r i9 q) (len_map _ _) (len_map _ _) HXP.out HYR.out HIA.out hcm hcx (by omega) hggr (fun e => by have := (HOB.out gg e.symm).2; omega) (fun e => by have := (HVB.out gg e.symm).2; omega) HI5.out hm5c hc5m HB5.out (by omega) (by omega) (fun b hlt h1 h2 => (hg4.block b (by omega) h2).trans (HU.out b hlt (fun e => h1 (by rw [e]; rfl)) h2)) (ownsRow_blk h3r fun b hb hlt => hg4.block b hlt (fun e => by cases hb; exact hgOv (mem_ownL.2 e.symm))) ho4 (.inl rfl) (hat4.imp id fun h => by omega) (fun e => by
         rcases hat4 with h | h
         ·exact hgOv (mem_ownL.2 (e ▸ h))
         ·omega) (fun b hb => (HOB.out b hb).1) (fun b hb => (HVB.out b hb).1)
        rw [← show plusP M i9 k9 (t7 - 3) (q + 1) = plusP M i9 k9 (t7 - 3) q ++ [plusJ M i9 k9 (t7 - 3) q] from map_next q _, ← HQM.out, ← show moveP M r i9 (q + 1) = moveP M r i9 q ++ [rAt M ((q + i9) % r)] from map_next q _] at hT4
        have HT4 := Lib.hid hT4
        clear hT4 HU ho4 hg4 hat4 hlt4 h3r h14T htA hkT hBu hph hph1
        refine hK _ _ hTb (fun uc huc => ?_)
        clear hK K
        refine effc_mem (by rfl) (fun K hK => ?_)
        go_simp
        refine hK _ _ (hTb.later huc) (fun ud hud => ?_)
        clear hK K
        refine effc_mem (by rfl) (fun K hK => ?_)
        go_simp
        refine hK _ _ ((hTb.later huc).later hud) (fun ue hue => ?_)
        clear hK K
        have hbe : Below ub.heap.size ub ue := (huc.trans (hud.mono huc.size)).trans (hue.mono (Nat.le_trans huc.size hud.size))
        have HT9 := Lib.hid (HT4.out.below hbe)
        have hB9 : Below wt.heap.size wt ue := hB4.trans (hbe.mono hB4.size)
        clear hTb huc hud hue hbe HT4 hB4
        refine effc_nil ?_
        (try simp only [Act.put, List.setIfInBounds_toArray, List.set_cons_zero, List.set_cons_succ])
        go_wp2
        go_roundw
        case rel => exact ⟨q + 1, by omega, by go_num, hB9, HT9.out⟩
        case measure => simp [intOf]; omega
    ·have e7 : r = q := by omega
     subst e7
     obtain ⟨xs, ys, hox, hvy, hxP, hyR⟩ := HTW.out.ex
     obtain ⟨gO, cO, rfl, _, _, hOA⟩ := rows_of hox hxP rfl (by rw [show (plusP M i9 k9 (t7 - 3) r).length = r from len_map _ _]; omega)
     obtain ⟨gV, cV, rfl, _, _, hVA⟩ := rows_of hvy hyR rfl (by rw [show (moveP M r i9 r).length = r from len_map _ _]; omega)
     rw [show (plusP M i9 k9 (t7 - 3) r).length = r from len_map _ _] at hOA ⊢
     rw [show (moveP M r i9 r).length = r from len_map _ _] at hVA ⊢
     have hwr := hwt.trans (hkr.mono hwt.size)
     have HRMr := Lib.hid (HRMt.out.below hkr)
     have HTAr := Lib.hid (HTA.out.below hkr)
     have HOA := Lib.hid hOA
     have HVA := Lib.hid hVA
     have HL2 := Lib.hid (HLI2.out.below hwr)
     clear hox hvy hxP hyR hOA hVA hkr HRMt HTA HTW hqr hwt
     go_wp2_with fail
     refine Calls.mono (ref5_Made A2 n2 cap2 l2 1 m (by omega) (by omega) hm1 hm8 _ HL2.out) ?_
     rintro e wx ⟨⟨gN, cN, NN, rfl, hNc, hNm, hNA, hNL, _, hNO⟩, hb⟩
     have hwx := hwr.trans (hb.mono hwr.size)
     have HTAx := Lib.hid (HTAr.out.below hb)
     have HRMx := Lib.hid (HRMr.out.below hb)
     have HOAx := Lib.hid (HOA.out.below hb)
     have HVAx := Lib.hid (HVA.out.below hb)
     have HNA := Lib.hid hNA
     have HNL := Lib.hid (And.intro hNA.len (hNL 0 (by omega)))
     clear hb hwr HTAr HRMr HOA HVA HL2 hNA hNL hNO
     have f1 := turn_rank HMM.out hr1 hr8 hm1 hm8
     have q1 := matrix_Rank cT HTAx.out (fun h => rank_fine h)
     rw [f1.1, f1.2, HRK.out] at q1
     have Q1 := Lib.hid q1
     clear q1 f1 HTAx
     go_wp2_with fail
     refine Calls.mono Q1.out ?_
     rintro e wa ⟨rfl, hb⟩
     have hwa := hwx.trans (hb.mono hwx.size)
     have HRMa := Lib.hid (HRMx.out.below hb)
     have HOAa := Lib.hid (HOAx.out.below hb)
     have HVAa := Lib.hid (HVAx.out.below hb)
     have HNAa := Lib.hid (HNA.out.below hb)
     clear hb hwx HRMx HOAx HVAx HNA Q1
     have f2 := plus_rank (t := t7 - 3) HMM.out hr1 hr8 hm8 hi9r hk9r (by omega)
     have q2 := matrix_Rank cO HOAa.out (fun h => rank_fine h)
     rw [f2.1, f2.2, HRK.out] at q2
     have Q2 := Lib.hid q2
     clear q2 f2 HOAa
     go_wp2_with fail
     refine Calls.mono Q2.out ?_
     rintro e wb ⟨rfl, hb⟩
     have hwb := hwa.trans (hb.mono hwa.size)
     have HRMb := Lib.hid (HRMa.out.below hb)
     have HVAb := Lib.hid (HVAa.out.below hb)
     have HNAb := Lib.hid (HNAa.out.below hb)
     clear hb hwa HRMa HVAa HNAa Q2
     have f3 := move_rank HMM.out hr1 hr8 hm8 hi9r
     have q3 := matrix_Rank cV HVAb.out (fun h => rank_fine h)
     rw [f3.1, f3.2, HRK.out] at q3
     have Q3 := Lib.hid q3
     clear q3 f3 HVAb
     go_wp2_with fail
     refine Calls.mono Q3.out ?_
     rintro e wc ⟨rfl, hb⟩
     have hwc := hwb.trans (hb.mono hwb.size)
     have HRMc := Lib.hid (HRMb.out.below hb)
     have HNAc := Lib.hid (HNAb.out.below hb)
     clear hb hwb HRMb HNAb Q3
     have hXp := rows_list HRMc.out (by omega) (fun x hx => by rw [(HMM.out.row x hx).1]; omega)
     obtain ⟨XS, hXl, hXW, hXc, hgc⟩ := hXp
     have HXS := Lib.hid (And.intro hXl (And.intro True.intro (And.intro hXc hXW.one)))
     have HXW := Lib.hid hXW
     obtain ⟨_, B5, m5, c5, hc5, h5a, h5b, hI5⟩ := row_first HRMc.out (i := i9) hi9r
     have HI5 : RowKit.Hid (IntsAt wc B5 m5 (rAt M i9) ∧ ∀ b off, B5 = some ⟨b, off, none⟩ → b < wc.heap.size) := Lib.hid ⟨hI5, fun b off e => by obtain ⟨b2, off2, e2, hlt2, _⟩ := hI5.row (by rw [← hI5.len, (HMM.out.row i9 hi9r).1]; omega); rw [e] at e2; cases e2; exact hlt2⟩
     clear hXl hXW hXc hI5
     go_wp2_with fail
     refine region_cut 11 (fun l a a' w' => (∃ x0 x1 x2 x3 x4 x5 x6 x7 x8 x9, a' = putAll (l.take 11) [x0, x1, x2, x3, x4, x5, x6, x7, x8, x9, .tuple #[.int .i64 (rk : Nat), .int .i64 0]] a) ∧ Below wc.heap.size wc w') (by kernel_rfl) (by kernel_rfl) (fun listed hl1 hl2 hl3 => ?_) (fun listed hl1 hl2 hl3 a' wd hK => ?_)
     ·skip
      refine any_gen (w := wc) (T := []) 0 [.make 0 [] (empB [] wc.heap.size 22), .make 2 [0] (appB [] wc.heap.size (0 + r) 22 ([] ++ XS)), .make 7 [] (ownB [] #[.slice B5 m5 c5] (fun p => .slice (some ⟨p, 0, none⟩) 1 1))] 8 0 40 (fun _ _ => True) (fun _ _ _ _ _ => trivial) trivial (by omega) (by kernel_rfl) (by rfl) (by rfl) ?_ ((Below.refl _ _).drew) hl1 hl2 hl3
      unfold genWalk
      apply Exists.intro
      apply And.intro
      ·apply Piece.mk
       ·intro f v hv hr hne
        simp only [List.take_succ_cons, List.take_zero, List.drop_zero, Nat.reduceSub]
        repeat (go_big_quiet_step (fail))
        refine wpQuiet_nil ?_
        exact rfl
       ·intro f; kernel_rfl
       ·intro f f' hf; kernel_rfl
      simp only [List.take_succ_cons, List.take_zero, List.drop_succ_cons, List.drop_zero, Nat.reduceAdd, oneOp]
      refine ⟨fun f => ⟨rfl, fun u hu _ => ?_⟩, ?_⟩
      ·refine make_emp (e := 22) (by (try simp only [Act.put, List.setIfInBounds_toArray, List.set_cons_zero, List.set_cons_succ]); (try simp only [ownB_val, appB_val, empB_val]); go_simp) (by have := hu.1; omega) (by simp)
      unfold genWalk
      apply Exists.intro
      apply And.intro
      ·apply Piece.mk
       ·intro f v hv hr hne
        simp only [List.take_succ_cons, List.take_zero, List.drop_succ_cons, List.drop_zero, Nat.reduceSub]
        (try simp only [Act.put, List.setIfInBounds_toArray, List.set_cons_zero, List.set_cons_succ])
        (try simp only [empB_val])
        repeat (go_big_quiet_step (fail))
        refine wpQuiet_nil ?_
        exact rfl
       ·intro f; kernel_rfl
       ·intro f f' hf; simp
      simp only [List.take_succ_cons, List.take_zero, List.drop_succ_cons, List.drop_zero, Nat.reduceAdd, oneOp]
      refine ⟨fun f => ⟨rfl, fun u hu hm => ?_⟩, ?_⟩
      ·obtain ⟨h0T, h0r⟩ := hm 0 (by simp)
       exact make_app _ _ 25 22 i1 (.slice none 0 0) 24 wc.heap.size rfl Tryz.underlying25 hi1 hy0 hy1 hy2' rfl (.slice (some ⟨(f 0).1, 0, none⟩) 0 0) 0 [] rfl h0r ⟨g, 0, none⟩ r _ XS rfl HXS.out.1 (HXS.out.2.2.1 u (hu.2 g hgc (by simp))) HXS.out.2.2.2 hr1 (by omega) (by omega) (by have := hu.1; omega) (fun A q e => by cases e; omega) (by simp)
      unfold genWalk
      apply Exists.intro
      apply And.intro
      ·apply Piece.mk
       ·intro f v hv hr hne
        simp only [List.take_succ_cons, List.take_zero, List.drop_succ_cons, List.drop_zero, Nat.reduceSub]
        (try simp only [Act.put, List.setIfInBounds_toArray, List.set_cons_zero, List.set_cons_succ])
        (try simp only [appB_val])
        have f3 := later_cell (T := []) (w := wc) (v := v) hgc (by simp) hc5
        repeat (go_big_quiet_step (fail))
        refine wpQuiet_nil ?_
        exact rfl
       ·intro f; kernel_rfl
       ·intro f f' hf; simp
      simp only [List.take_succ_cons, List.take_zero, List.drop_succ_cons, List.drop_zero, Nat.reduceAdd, oneOp]
      refine ⟨fun f => ⟨rfl, fun u hu _ => ?_⟩, ?_⟩
      ·refine make_own (e := 22) (by (try simp only [Act.put, List.setIfInBounds_toArray, List.set_cons_zero, List.set_cons_succ]); (try simp only [ownB_val, appB_val, empB_val]); go_simp) (by simp)
      unfold genWalk
      apply Exists.intro
      apply And.intro
      ·apply Piece.mk
       ·intro f v hv hr hne
        simp only [List.take_zero, List.drop_succ_cons, List.drop_zero, Nat.reduceSub]
        (try simp only [Act.put, List.setIfInBounds_toArray, List.set_cons_zero, List.set_cons_succ])
        (try simp only [ownB_val])
        repeat (go_big_quiet_step (fail))
        refine wpQuiet_nil ?_
        exact rfl
       ·intro f; kernel_rfl
       ·intro f f' hf; simp
      intro f9 u' hup hph hmade hdist
      obtain ⟨⟨h2T, h2r⟩, l2a, l2b⟩ := hmade 2 (by omega) rfl
      obtain ⟨⟨h7T, h7c⟩, l7a, l7b⟩ := hmade 7 (by omega) rfl
      simp only
      (try simp only [Act.put, List.setIfInBounds_toArray, List.set_cons_zero, List.set_cons_succ])
      (try simp only [ownB_val, appB_val, empB_val])
      clear hmade hdist
      obtain ⟨g2, hg2⟩ : ∃ x, (f9 2).1 = x := ⟨_, rfl⟩
      obtain ⟨c2, hc2⟩ : ∃ x, (f9 2).2 = x := ⟨_, rfl⟩
      obtain ⟨g7, hg7⟩ : ∃ x, (f9 7).1 = x := ⟨_, rfl⟩
      obtain ⟨g0, hg0⟩ : ∃ x, (f9 0).1 = x := ⟨_, rfl⟩
      rw [hg2] at h2T h2r l2a l2b
      rw [hc2] at h2r
      rw [hg7] at h7T h7c l7a l7b
      simp only [hg2, hc2, hg7, hg0]
      clear hg2 hc2 hg7 hg0
      have hkT := Upd.keeps (Keeps.refl _ _) hup
      have hsu := hup.size
      obtain ⟨tA, htA⟩ := h7c
      have hBu : Below wc.heap.size wc u' := Upd.below (Below.refl _ _) hup (fun b hb => by cases hb)
      simp only [Nat.zero_add, List.nil_append] at h2r
      simp only [Nat.zero_add]
      refine effc_mem (by rfl) (fun K hK => ?_)
      refine late_append _ _ 25 rfl wc.heap.size 22 i1 (.slice none 0 0) 1 24 Tryz.underlying25 hi1 hy0 hy1 hy2' rfl (by omega) _ r XS (by rfl) h2r ⟨g7, 0, none⟩ 1 1 [.slice B5 m5 c5] (by rfl) rfl (World.news_of_block htA) ?_ (by omega) (by unfold maxLen; omega) (by omega) (by omega) u'.heap.size rfl ?_
      ·intro y hy; simp at hy; subst hy; rfl
      intro g4 c4' ub ho4 hg4 hat4 hlt4
      have hTb : Keeps [] wc ub := keeps_grown hkT hg4 (fun r' e => .inr (by cases e; exact l2a))
      have hsb := hg4.size
      have hB4 : Below wc.heap.size wc ub := hBu.trans ⟨hg4.os, hg4.tape, hg4.output, hg4.size, fun b hb => hg4.block b (by omega) (fun e => by have e2 : b = g2 := Option.some.inj e; omega)⟩
      obtain ⟨A9, c9, e9, hc9, hcm9, hR9, _⟩ := rows_of_row ho4 ((HXW.out.snoc h5a h5b (fun b off e => ⟨(HI5.out.2 b off e), (HI5.out.2 b off e)⟩) HI5.out.1).below hB4) (by rw [List.length_append, HMM.out.len]; rfl)
      cases e9
      have HR9 := Lib.hid hR9
      have HB4 := Lib.hid hB4
      have hB4s := hB4.size
      clear hR9 ho4 hg4 hat4 hlt4 h2r h2T h7T htA hkT hBu hph hc9 hcm9 hup hB4
      refine hK _ _ hTb (fun uc huc => ?_)
      clear hK K
      have q4 := matrix_Rank c4' (HR9.out.below huc) (fun h => rank_fine h)
      have f4 := again_rank HMM.out hr1 hr8 hm8 hi9r
      rw [f4.1, f4.2, HRK.out] at q4
      have Q4 := Lib.hid q4
      have HB5 := Lib.hid (HB4.out.trans (huc.mono hB4s))
      have hTc := hTb.later huc
      have hB5s := HB5.out.size
      clear f4 q4 HR9 HB4 huc hTb
      refine effc_mem (by rfl) (fun K hK => ?_)
      (try simp only [Act.put, List.setIfInBounds_toArray, List.set_cons_zero, List.set_cons_succ])
      go_simp
      refine Calls.mono Q4.out ?_
      rintro e ud ⟨rfl, hud⟩
      refine ⟨_, rfl, ?_⟩
      refine hK _ _ (hTc.later hud) (fun ue hue => ?_)
      clear hK K
      have hTe := (hTc.later hud).later hue
      have hB6 := (HB5.out.trans (hud.mono hB5s)).trans (hue.mono (Nat.le_trans hB5s hud.size))
      have HB6 := Lib.hid hB6
      clear HB5 hTc hud hue hB6 Q4
      refine effc_mem (by rfl) (fun K hK => ?_)
      (try simp only [Act.put, List.setIfInBounds_toArray, List.set_cons_zero, List.set_cons_succ])
      go_simp
      refine hK _ _ hTe (fun uf huf => ?_)
      clear hK K
      refine effc_nil ?_
      (try simp only [Act.put, List.setIfInBounds_toArray, List.set_cons_zero, List.set_cons_succ])
      refine ⟨?_, HB6.out.trans (huf.mono HB6.out.size)⟩
      simp only [putAll, Act.put, List.setIfInBounds_toArray, List.set_cons_zero, List.set_cons_succ]
      repeat apply Exists.intro
      rfl
     ·skip
      obtain ⟨⟨x0, x1, x2, x3, x4, x5, x6, x7, x8, x9, rfl⟩, hbd⟩ := hK
      simp only [putAll, List.take_succ_cons, List.take_zero, Act.put, List.setIfInBounds_toArray, List.set_cons_zero, List.set_cons_succ]
      have hwd := hwc.trans (hbd.mono hwc.size)
      have HRMd := Lib.hid (HRMc.out.below hbd)
      have HNAd := Lib.hid (HNAc.out.below hbd)
      clear hbd hwc HRMc HNAc HXS HXW HI5 hgc hc5
      refine any_gen (w := wd) (T := []) 11 [] 13 0 40 (fun _ _ => True) (fun _ _ _ _ _ => trivial) trivial (by omega) (by kernel_rfl) (by rfl) (by rfl) ?_ (Below.refl _ _) hl1 hl2 hl3
      unfold genWalk
      apply Exists.intro
      apply And.intro
      ·apply Piece.mk
       ·intro f v hv hr hne
        simp only [List.take_succ_cons, List.take_zero, List.drop_succ_cons, List.drop_zero, Nat.reduceSub]
        repeat (go_big_quiet_step (fail))
        refine wpQuiet_nil ?_
        exact rfl
       ·intro f; kernel_rfl
       ·intro f f' hf; kernel_rfl
      intro f9 u' hup hph hmade hdist
      clear hph hmade hdist
      have hBu : Below wd.heap.size wd u' := Upd.below (Below.refl _ _) hup (fun b hb => by cases hb)
      have hkT := Upd.keeps (Keeps.refl _ _) hup
      simp only [List.drop_succ_cons, List.drop_zero]
      refine effc_mem (by rfl) (fun K hK => ?_)
      go_simp
      refine hK _ _ hkT (fun uc huc => ?_)
      clear hK K
      refine effc_mem (by rfl) (fun K hK => ?_)
      go_simp
      refine hK _ _ (hkT.later huc) (fun we hwe => ?_)
      clear hK K
      have hbe := (hBu.trans (huc.mono hBu.size)).trans (hwe.mono (Nat.le_trans hBu.size huc.size))
      have hwe' := hwd.trans (hbe.mono hwd.size)
      have HRMe := Lib.hid (HRMd.out.below hbe)
      have HNAe := Lib.hid (HNAd.out.below hbe)
      clear hBu hup hkT huc hwe hbe HRMd HNAd hwd
      refine effc_nil ?_
      (try simp only [Act.put, List.setIfInBounds_toArray, List.set_cons_zero, List.set_cons_succ])
      obtain ⟨XS, hXl, hXW, hXc, hgc⟩ := rows_list HRMe.out (by omega) (fun x hx => by rw [(HMM.out.row x hx).1]; omega)
      obtain ⟨YS, hYl, hYW, hYc, hgn⟩ := rows_list HNAe.out (by omega) (fun x hx => by rw [show x = 0 by omega, HNL.out.2.1]; omega)
      have HX := Lib.hid (And.intro hXl (And.intro hXW hXc))
      have HY := Lib.hid (And.intro hYl (And.intro hYW hYc))
      clear hXl hXW hXc hYl hYW hYc
      go_wp2_with (at_builtin; refine wpList_append_lies _ rfl _ _ _ (by rfl) we.heap.size 22 i1 (.slice none 0 0) 1 24 Tryz.underlying25 hi1 hy0 hy1 hy2' rfl (by omega) _ 0 [] (by rfl) (owns_empty (Nat.le_refl _)) ⟨g, 0, none⟩ r _ XS (by rfl) (by rw [HX.out.1]; omega) ?c1 HX.out.2.1.one (by omega) ?c3 ?c4 ?c5 (we.heap.size + 1) (by simp) ?_)
      case c1 => exact HX.out.2.2 _ (((Below.refl we.heap.size we).alloc (Nat.le_refl _) _).block g hgc)
      case c3 => unfold maxLen; omega
      case c4 => omega
      case c5 => simp
      intro gg cg w7 ho7 hg7 hat hlt7
      have hal : Below we.heap.size we (we.alloc (.cells #[] 22)) := (Below.refl _ _).alloc (Nat.le_refl _) _
      have hs7 := hg7.size
      simp at hs7
      have hB7 := Below.grown hal hg7 (by simp) (fun b hb => by have e : we.heap.size = b := Option.some.inj hb; omega)
      have hob : ∀ b, some gg = some b → we.heap.size ≤ b := fun b hb => by
       have e : gg = b := Option.some.inj hb
       rcases hat with h | h
       ·have := Option.some.inj h
        simp at this
        omega
       ·omega
      have HB7 := Lib.hid hB7
      have HOB := Lib.hid hob
      (try simp only [Nat.zero_add, List.nil_append] at ho7)
      have HO7 := Lib.hid ho7
      (try simp only [Nat.zero_add])
      clear hB7 ho7 hg7 hat hob hal
      go_wp2_with (at_builtin; refine wpList_append_lies _ rfl _ _ _ (by rfl) we.heap.size 22 i1 (.slice none 0 0) 1 24 Tryz.underlying25 hi1 hy0 hy1 hy2' rfl (by omega) _ r XS (by rfl) HO7.out ⟨gN, 0, none⟩ 1 _ YS (by rfl) (by rw [HY.out.1]) ?c1 HY.out.2.1.one (by omega) ?c3 ?c4 ?c5 w7.heap.size (by rfl) ?_)
      case c1 => exact HY.out.2.2 _ (HB7.out.block gN hgn)
      case c3 => unfold maxLen; omega
      case c4 => omega
      case c5 => omega
      intro g8 c8 w8 ho8 hg8 hat8 hlt8
      have hB8 := Below.grown HB7.out hg8 (by omega) (fun b hb => HOB.out b hb)
      obtain ⟨A9, c9, e9, hc9, hcm9, hR9, _⟩ := rows_of_row ho8 ((HX.out.2.1.app1 HY.out.2.1 HNL.out.1).below hB8) (by rw [List.length_append, HMM.out.len, HNL.out.1])
      cases e9
      have f5 := new_rank HMM.out hr1 hr8 hm8 HNL.out.1 HNL.out.2
      have q5 := matrix_Rank c8 hR9 (fun h => rank_fine h)
      obtain ⟨ry, hry⟩ : ∃ y, rankZ (M ++ NN) = y := ⟨_, rfl⟩
      rw [f5.1, hry] at q5
      have f6 := f5.2
      rw [hry, HRK.out] at f6
      have hry2 : ry = rk ∨ ry = rk + 1 := f6
      have Q5 := Lib.hid q5
      have HRY := Lib.hid hry2
      have hw8 := hwe'.trans (hB8.mono hwe'.size)
      clear f5 f6 hry q5 hry2 hR9 hcm9 hc9 hB8 hg8 hat8 hlt8 ho8 HB7 HOB HO7 HX HY hgn hgc hs7 HRMe HNAe hwe' hlt7
      go_wp2_with fail
      refine Calls.mono Q5.out ?_
      rintro e w9 ⟨rfl, hb9⟩
      have hw9 := hw8.trans (hb9.mono hw8.size)
      clear hb9 hw8 Q5
      have hrk8 : rk ≤ 8 := by
       have h := (rankZ_le (HMM.out.check hr1 hr8 hm8)).2
       rw [HMM.out.len, HRK.out] at h
       omega
      obtain rfl | rfl := HRY.out
      ·clear HRY
       go_wp2
       go_ret
       exact ⟨rfl, hw9⟩
      ·have e1 : ((rk : Int) + 1 == (rk : Int)) = false := by simp; omega
       have e2 : ((rk : Int) + 1 == wrap64 ((rk : Int) + 1)) = true := by
        rw [show wrap64 ((rk : Int) + 1) = (rk : Int) + 1 by unfold wrap64; omega]
        simp
       clear HRY
       go_wp2
       go_ret
       exact ⟨by first | rfl | (rw [e2]; simp) | simp [e1, e2], hw9⟩
end Go.Proofs.YtflgngjocgiojaaGreat
