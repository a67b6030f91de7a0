/- The law MatrixKernels returns true. -/
import Derived.Test.YtflgngjocgiojaaGreatApp
namespace Go.Proofs.YtflgngjocgiojaaGreat
open Go.RowKit

def ownL (v : Value) : List Nat := v.ownBlock.toList
theorem mem_ownL {v : Value} {b : Nat} : b ∈ ownL v ↔ v.ownBlock = some b := by unfold ownL; simp
theorem keeps_grown {T : List Nat} {w u v : World} {row : Option Nat} (h : Keeps T w u) (hg : u.grownBy v row) (hr : ∀ r, row = some r → r ∈ T ∨ w.heap.size ≤ r) : Keeps T w v :=
 ⟨Nat.le_trans h.1 hg.size, fun b hb hT => (hg.block b (Nat.lt_of_lt_of_le hb h.1) (fun e => by
  rcases hr b e.symm with h1 | h1
  ·exact hT h1
  ·omega)).trans (h.2 b hb hT)⟩
theorem num_Of0 {w : World} : Calls Tryz.prog 21 #[.int .i64 0] w fun r w' => r = .returned zeroN ∧ Below w.heap.size w w' :=
 (of_val (w := w) 0 (by omega) (by omega)).mono fun e w' ⟨⟨b, e1, _⟩, hb⟩ => ⟨by rw [e1, numV_zero], hb⟩
theorem IntsAt.take {w : World} {A : Option Addr} {n m : Nat} {l : List Int} (h : IntsAt w A n l) (hm : m ≤ n) : IntsAt w A m (l.take m) := by
 refine ⟨by rw [List.length_take, h.len]; omega, fun i hi => ?_, fun h0 => ?_⟩
 ·rw [List.length_take] at hi
  rw [iAt_take (by omega)]
  exact h.ok i (by omega)
 ·obtain ⟨b, off, e, hlt, hc⟩ := h.row (by omega)
  exact ⟨b, off, e, hlt, fun i hi => by rw [iAt_take hi]; exact hc i (by omega)⟩
/-- The first i rows, the first j elements of each. -/
def partP (M : List (List Int)) (j i : Nat) : List (List Int) := (M.take i).map (List.take j)
theorem partP_len {M : List (List Int)} {j i : Nat} (h : i ≤ M.length) : (partP M j i).length = i := by unfold partP; rw [List.length_map, List.length_take]; omega
theorem rAt_some {M : List (List Int)} {i : Nat} (h : i < M.length) : rAt M i = M[i] := by
 unfold rAt
 rw [List.getD_eq_getElem?_getD, List.getElem?_eq_getElem h]; rfl
theorem partP_next {M : List (List Int)} {j i : Nat} (h : i < M.length) : partP M j (i + 1) = partP M j i ++ [(rAt M i).take j] := by
 unfold partP
 rw [List.take_succ_eq_append_getElem h, List.map_append, rAt_some h]; rfl
theorem rAt_part {M : List (List Int)} {j i : Nat} (h : i < M.length) : rAt (partP M j M.length) i = (rAt M i).take j := by
 unfold partP
 rw [List.take_length]
 unfold rAt
 simp only [List.getD_eq_getElem?_getD]
 rw [List.getElem?_map, List.getElem?_eq_getElem h]; rfl
theorem part_facts {M : List (List Int)} {r m j : Nat} (h : MadeM M r m) (hr : 1 ≤ r) (hr8 : r ≤ 8) (hm : m ≤ 8) (hj : j ≤ m) : matCheck (partP M j r) = 0 ∧ rankZ (partP M j r) = rankA M j := by
 have hl := h.len
 have hc := h.cols hr
 have hw : ∀ i, i < r → (rAt M i).length = m := fun i hi => (h.row i hi).1
 have hpl : (partP M j r).length = r := partP_len (by omega)
 have hpr : ∀ i, i < r → rAt (partP M j r) i = (rAt M i).take j := fun i hi => by
  have := rAt_part (M := M) (j := j) (i := i) (by omega)
  rwa [hl] at this
 have hpc : cols (partP M j r) = j := by
  have e : cols (partP M j r) = (rAt (partP M j r) 0).length := by
   cases hP : partP M j r with
   | nil => rw [hP] at hpl; simp at hpl; omega
   | cons a b => rfl
  rw [e, hpr 0 (by omega), List.length_take, hw 0 (by omega)]
  omega
 have hchk : matCheck (partP M j r) = 0 := check_of (by omega) (by omega) (fun i hi => by rw [hpc, hpr i (by omega), List.length_take, hw i (by omega)]; omega) (fun i hi k hk => by
  rw [hpc] at hk
  rw [hpr i (by omega), iAt_take hk]
  have h5 := (h.row i (by omega)).2 k
  exact not_large h5.1 h5.2 (by have := capB_le (k := i) (by omega); omega))
 refine ⟨hchk, rank_part (h.check hr hr8 hm) hchk (by rw [hpl, hl]) hpc (by omega) (fun i hi k hk => ?_)⟩
 rw [hpr i (by omega), iAt_take hk]
/-- The greatest common divisor of the first i elements. -/
def gcdN (Z : List Int) : Nat → Nat
 | 0 => 0
 | i + 1 => Nat.gcd (gcdN Z i) (iAt Z i).natAbs
theorem gcdN_dvd {Z : List Int} : ∀ {n i : Nat}, i < n → gcdN Z n ∣ (iAt Z i).natAbs
 | n + 1, i, h => by
  rw [gcdN]
  by_cases e : i = n
  ·subst e; exact Nat.gcd_dvd_right _ _
  ·exact Nat.dvd_trans (Nat.gcd_dvd_left _ _) (gcdN_dvd (by omega))
theorem fits_gcd {a b : Nat} (ha : fits (a : Int) = true) (hb : fits (b : Int) = true) : fits ((Nat.gcd a b : Nat) : Int) = true := by
 rcases Nat.eq_zero_or_pos a with h | h
 ·subst h; rw [Nat.gcd_zero_left]; exact hb
 ·exact fits_le (b := (a : Int)) (by simp only [Int.natAbs_natCast]; exact Nat.le_of_dvd h (Nat.gcd_dvd_left _ _)) ha
/-- A vector of ratios of a function's own, to which others may be appended; the block bg lies apart. -/
def VecQ (B bg : Nat) (w : World) (v : Value) (i : Nat) (Q : Nat → QI) : Prop := ∃ xs, w.ownsRow B 37 4 v i xs ∧ RatC (fun b => b ≠ bg ∧ some b ≠ v.ownBlock) w xs i Q
theorem VecQ.below {B bg : Nat} {w w' : World} {v : Value} {i : Nat} {Q : Nat → QI} (h : VecQ B bg w v i Q) (hb : Below w.heap.size w w') : VecQ B bg w' v i Q := by
 obtain ⟨xs, h1, h2⟩ := h
 exact ⟨xs, ownsRow_stay h1 hb, h2.move hb.size fun b hlt hX => ⟨hb.block b hlt, hX⟩⟩
theorem VecQ.own {B bg : Nat} {w : World} {v : Value} {i : Nat} {Q : Nat → QI} (h : VecQ B bg w v i Q) {b : Nat} (hb : v.ownBlock = some b) : B ≤ b ∧ b < w.heap.size := by
 obtain ⟨xs, h1, _⟩ := h
 exact ⟨ownBlock_ge h1 hb, ownBlock_lt h1 hb⟩
theorem p_17 : (1 : Int).natAbs < 2 ^ 700 := by decide +kernel
theorem sign_zero {w : World} {v : Value} (h : RatAt w v 0 1) : Calls Tryz.prog 24 #[v] w fun r w' => r = .returned (.int .i64 0) ∧ Below w.heap.size w w' := by
 have q := ratio_Sign h (good_one 0)
 rw [ordI_eq] at q
 exact q
theorem right_zero {w : World} {v : Value} (h : RatAt w v 0 1) : Calls Tryz.prog 25 #[v] w fun r w' => r = .returned (.bool true) ∧ Below w.heap.size w w' := by
 have q := ratio_Right h
 rw [good_one] at q
 exact q
theorem cmp_ones {w : World} {v1 v2 : Value} (h1 : NumAt w v1 1) (h2 : NumAt w v2 1) : Calls Tryz.prog 26 #[v1, v2] w fun r w' => r = .returned (.int .i64 0) ∧ Below w.heap.size w w' := by
 have q := num_Cmp h1 h2
 rw [ordI_eq] at q
 exact q
theorem p_67 : 2 ^ 650 < 2 ^ 700 := by decide +kernel
theorem sm_650 {z : Int} (h : z.natAbs < 2 ^ 650) : z.natAbs < 2 ^ 700 := Nat.lt_trans h p_67
set_option maxRecDepth 100000 in
set_option maxHeartbeats 8000000 in
theorem law05_Kernels_walk {A : Option Addr} {n cap : Nat} {l : List Int} {x y : Int} (hx : 0 ≤ x) (hx2 : x ≤ 255) (hy : 0 ≤ y) (hy2 : y ≤ 255) (w : World) (hl : SliceI w A n l) :
  Calls Tryz.prog 5 #[.agg #[.slice A n cap, .int .u8 x, .int .u8 y]] w fun e w' => e = .returned (.bool true) ∧ Below w.heap.size w w' := by
 obtain ⟨i1, hi1, hy0, hy1, hy2'⟩ := info_parts infoIs
 obtain ⟨i2, hi2, hv0, hv1, hv2⟩ := info_parts infoRat
 have HLI := Lib.hid hl
 obtain ⟨r, hr⟩ : ∃ r : Nat, 1 + x % 8 = r := ⟨(1 + x % 8).toNat, by omega⟩
 obtain ⟨m, hm⟩ : ∃ m : Nat, 1 + y % 8 = m := ⟨(1 + y % 8).toNat, by omega⟩
 have hr1 : 1 ≤ r := by omega
 have hr8 : r ≤ 8 := by omega
 have hm1 : 1 ≤ m := by omega
 have hm8 : m ≤ 8 := by omega
 have hri : (r : Int) ≤ 8 := by omega
 have hmi : (m : Int) ≤ 8 := by omega
 have hri1 : (1 : Int) ≤ (r : Int) := by omega
 have hmi1 : (1 : Int) ≤ (m : Int) := by omega
 have hm0b : ((m : Int) == 0) = false := by simp; omega
 have hm0i : ¬ (m : Int) = 0 := by omega
 obtain ⟨mn, hmn⟩ : ∃ t : Nat, min m r = t := ⟨_, rfl⟩
 have hmn1 : (if (r : Int) < (m : Int) then (r : Int) else (m : Int)) = (mn : Int) := by split <;> omega
 have hmn2 : min (m : Int) (r : Int) = (mn : Int) := by omega
 have HMN := Lib.hid hmn
 have HRR := Lib.hid (And.intro hr (And.intro hm (And.intro hx (And.intro hx2 (And.intro hy hy2)))))
 clear hl hr hm hmn
 have hW := (Below.refl w.heap.size w).alloc (Nat.le_refl _) (.cells #[.slice A n cap, .int .u8 x, .int .u8 y] 24)
 have oC : Own (w.alloc (.cells #[.slice A n cap, .int .u8 x, .int .u8 y] 24)) w.heap.size #[.slice A n cap, .int .u8 x, .int .u8 y] := (by repeat' (first | ((refine Own.new ?_); (focus (first | rfl | omega | (simp; done) | (simp; omega)))) | assumption | refine Own.alloc ?_ _ | refine Own.drew ?_ | (refine Own.far ?_ ?_ _; rotate_left; (focus (first | rfl | omega | (simp; done) | (simp; omega))))))
 have oCc := oC.cell
 go_enter Tryz.func5, Tryz.ntmps5
 go_wp2_with fail
 generalize (w.alloc (.cells #[.slice A n cap, .int .u8 x, .int .u8 y] 24)) = W0 at *
 refine Calls.mono (law05_sanity _) ?_
 rintro e w1 ⟨rfl, hb⟩
 have hw := hW.trans (hb.mono hW.size)
 have pC := oC.below hb
 have pCc := pC.cell
 clear hb hW oC oCc
 go_wp2_with fail
 refine Calls.mono (law05_made A n cap l x y r m HRR.out.2.2.1 HRR.out.2.2.2.1 HRR.out.2.2.2.2.1 HRR.out.2.2.2.2.2 HRR.out.1 HRR.out.2.1 _ (HLI.out.below hw)) ?_
 rintro e w3 ⟨⟨g, gc, M, rfl, hgc, hgm, hRM, hMM, _⟩, hb⟩
 have hw3 := hw.trans (hb.mono hw.size)
 have hcm := hMM.cols hr1
 have hchk := hMM.check hr1 hr8 hm8
 obtain ⟨hgz, B1, m1, c1, hc0, _, _, hI0⟩ := row_first hRM (i := 0) (by omega)
 have hm1e : m1 = m := by rw [← hI0.len]; exact (hMM.row 0 (by omega)).1
 have hm1e := hm1e.symm
 subst hm1e
 obtain ⟨rk, hrk⟩ : ∃ q, rankZ M = q := ⟨_, rfl⟩
 have hrle := rankZ_le hchk
 have hfr := rank_kern hchk
 have hfle := kernF_le hchk
 have hfirst := fun j (hj : j ≤ m) => rankA_first hchk (k := j) (by rw [hcm]; exact hj)
 have hparts := fun j (hj : j ≤ m) => part_facts hMM hr1 hr8 hm8 hj
 rw [hrk, hcm] at hfr hrle
 rw [hMM.len] at hrle
 rw [hcm] at hfle
 obtain ⟨xk, hxk, hker⟩ := kern_all hchk
 have q0 := matrix_Rank gc hRM (fun h => rank_fine h)
 rw [hchk, hrk] at q0
 have q1 := fun W (h : RowsAt W (some ⟨g, 0, none⟩) r M) => matrix_Kernel (w := W) gc h hxk
 rw [hchk, hcm] at q1
 rw [hcm] at hker
 obtain ⟨Z, hZ⟩ : ∃ Z, wholeZ (kernQ xk (kernF M)) m m = Z := ⟨_, rfl⟩
 rw [hZ] at q1 hker
 obtain ⟨f, hf⟩ : ∃ f, kernF M = f := ⟨_, rfl⟩
 rw [hf] at q1 hker hfr hfle hfirst
 have Q0 := Lib.hid q0
 have Q1 := Lib.hid q1
 have HRM := Lib.hid hRM
 have HKER := Lib.hid (And.intro hker (And.intro hfr (And.intro hfirst hparts)))
 have HMM := Lib.hid (And.intro hMM (And.intro hchk hcm))
 have hrkm : rk ≤ m := hrle.1
 have hrkr : rk ≤ r := hrle.2
 have hrkn : rk ≤ mn := by have := HMN.out; omega
 have hrkni : ¬ (mn : Int) < (rk : Int) := by omega
 have hrk0 : ¬ (rk : Int) < 0 := by omega
 have hrknn : decide (mn < rk) = false := decide_eq_false (by omega)
 have hrk0d : decide ((rk : Int) < 0) = false := decide_eq_false hrk0
 have hrknd : decide ((mn : Int) < (rk : Int)) = false := decide_eq_false hrkni
 clear q0 q1 hRM hker hfr hfirst hparts hMM hchk hcm hrle hxk hZ hf hrk hb hw HLI pC pCc hI0 HRR hx hx2 hy hy2
 go_wp2_with fail
 refine Calls.mono Q0.out ?_
 rintro e w4 ⟨rfl, hb⟩
 have hw4 := hw3.trans (hb.mono hw3.size)
 have HR4 := Lib.hid (HRM.out.below hb)
 clear hb hw3 Q0 HRM hc0 hgz
 go_wp2_with fail
 refine Calls.mono (Q1.out _ HR4.out) ?_
 rintro e w5 ⟨⟨v, rfl, hv⟩, hb⟩
 have hw5 := hw4.trans (hb.mono hw4.size)
 have HR5 := Lib.hid (HR4.out.below hb)
 clear hb hw4 HR4 Q1
 by_cases hf : f < m
 ·obtain ⟨A3, c3, rfl, -, hZc, hZcm, hx⟩ : RowV (fun _ => True) v Z w5 := by
   rcases hv with ⟨h, _⟩ | ⟨_, _, h⟩
   ·exact absurd ⟨trivial, hf⟩ h
   ·exact h
  have hkz := HKER.out.1 hf
  have hZl : Z.length = m := by rw [hkz.len, HMM.out.2.2]
  rw [hZl] at hx hZc ⊢
  have HX := Lib.hid hx
  have HKZ := Lib.hid (And.intro hkz hZl)
  have hrlt : rk < m := HKER.out.2.1.1 hf
  have hrkb : ((rk : Int) == (m : Int)) = false := by simp; omega
  have hrki : ¬ (rk : Int) = (m : Int) := by omega
  have hfmi : (f : Int) < (m : Int) := by omega
  have hfmb : ((f : Int) == (m : Int)) = false := by simp; omega
  clear hkz hZl hx hv
  go_wp2
  have hk0 := Below.refl w5.heap.size w5
  obtain ⟨mx, hmx⟩ : ∃ t, max f m = t := ⟨_, rfl⟩
  obtain rfl : m = mx := by omega
  go_loopw [10, 11] (fun u i wr => ∃ j t : Nat, j ≤ m ∧ i = .int .i64 j ∧ u = .int .i64 t ∧ t = max f j ∧ Below w5.heap.size w5 wr) (fun _ i _ => (intOf i).toNat)
  case atStart => exact ⟨m, m, Nat.le_refl _, rfl, rfl, hmx.symm, hk0⟩
  case round =>
   clear hk0 hmx
   obtain ⟨j, t, hj, rfl, rfl, ht, hk⟩ := hrel
   have HT := Lib.hid ht
   have htm : t ≤ m := by omega
   clear ht
   by_cases hj0 : 0 < j
   ·have hj0i : (0 : Int) < (j : Int) := by omega
    have hji : (j : Int) ≤ (m : Int) := by omega
    have hzk := hk.size
    generalize wr = wo at *
    go_wp2
    have hwo := Below.refl wo.heap.size wo
    go_loopw [12, 81] (fun u i wr => ∃ (i' : Nat) (xs : List Value), i' ≤ r ∧ i = .int .i64 i' ∧ Below wo.heap.size wo wr ∧ wr.ownsRow wo.heap.size 22 1 u i' xs ∧ RowsW (fun b => b < wo.heap.size) wr xs (partP M j i')) (fun _ i _ => r - (intOf i).toNat)
    case atStart => exact ⟨0, [], by omega, rfl, hwo, ⟨rfl, .inl ⟨rfl, rfl⟩⟩, RowsW.nil _ _⟩
    case round =>
     clear hwo
     obtain ⟨i', xs, hi', rfl, hwi, hrow, hrw⟩ := hrel
     have HO := Lib.hid hrow
     have HW := Lib.hid hrw
     have hzi := hwi.size
     clear hrow hrw
     by_cases hir : i' < r
     ·have hiri : (i' : Int) < (r : Int) := by omega
      have hR := HR5.out.below hk
      obtain ⟨hgz, B2, m2, c2, hc2, hmc2, hcm2, hI2⟩ := row_first hR hir
      have hm2e : m = m2 := by rw [← hI2.len]; exact (HMM.out.1.row i' hir).1.symm
      subst hm2e
      have hcr := (World.cell?_of_block (w := wo) (a := ⟨g, i', none⟩) (hwi.block g hgz)).trans hc2
      have hgzr : g < wr.heap.size := Nat.lt_of_lt_of_le hgz hzi
      have hjc : (j : Int) ≤ (c2 : Int) := by omega
      obtain ⟨b2, o2, rfl, hb2, _⟩ := hI2.row (by omega)
      have HI2 := Lib.hid ((hI2.take hj).below hwi)
      have hal : Below wr.heap.size wr (wr.alloc (.cells #[.slice (some ⟨b2, o2, none⟩) j c2] 22)) := (Below.refl _ _).alloc (Nat.le_refl _) _
      clear hR hc2 hI2
      go_wp2_with (at_builtin; refine wpList_append_lies _ rfl _ _ _ (by rfl) wo.heap.size 22 i1 (.slice none 0 0) 1 24 Tryz.underlying25 hi1 hy0 hy1 hy2' rfl (by omega) _ i' xs (by rfl) (HO.out.alloc _) ⟨wr.heap.size, 0, none⟩ 1 1 [.slice (some ⟨b2, o2, none⟩) j c2] (by rfl) rfl ?c1 ?c2 (by omega) ?c3 ?c4 ?c5 (wr.heap.size + 1) (by simp) ?_)
      case c1 => exact World.news_of_block (heap_alloc_new wr _)
      case c2 => intro u hu; simp at hu; subst hu; rfl
      case c3 => unfold maxLen; omega
      case c4 => omega
      case c5 => simp; omega
      intro gg cg w7 ho7 hg7 hat hlt7
      have hob : ∀ b, _ = some b → wo.heap.size ≤ b := fun b hb => ownBlock_ge HO.out hb
      have B7 := Lib.hid (Below.grown (hwi.trans (hal.mono hzi)) hg7 (by simp; omega) (fun b hb => hob b hb))
      have hq : RowsW (fun b => b < wo.heap.size) w7 (xs ++ [.slice (some ⟨b2, o2, none⟩) j c2]) (partP M j (i' + 1)) := by
       rw [partP_next (by rw [HMM.out.1.len]; exact hir)]
       have q := RowsW.snoc (X := fun b => b < wo.heap.size) HW.out (show j ≤ c2 by omega) hcm2 (fun b off e => by cases e; exact ⟨by omega, hb2⟩) HI2.out
       exact q.move (by have := hg7.size; simp at this; omega) fun b hlt hX => ⟨(hg7.block b (by simp; omega) (fun e => by have := hob b e.symm; have hX : b < wo.heap.size := hX; omega)).trans (hal.block b hlt), hX⟩
      have HQ7 := Lib.hid hq
      have HO7 := Lib.hid ho7
      clear ho7 hg7 hat hob hal hlt7 hq hcr HI2
      go_wp2
      go_roundw
      case rel => exact ⟨i' + 1, _, by omega, by go_num, B7.out, HO7.out, HQ7.out⟩
      case measure => simp [intOf]; omega
     ·obtain rfl : i' = r := by omega
      obtain ⟨A2, c2, rfl, g1, g2, g3, -⟩ := rows_of_row HO.out HW.out (partP_len (by rw [HMM.out.1.len]; exact Nat.le_refl _))
      have hp := HKER.out.2.2.2 j hj
      have q2 := matrix_Rank c2 g3 (fun h => rank_fine h)
      rw [hp.1, hp.2] at q2
      obtain ⟨ra, hra⟩ : ∃ t, rankA M j = t := ⟨_, rfl⟩
      rw [hra] at q2
      have Q2 := Lib.hid q2
      have hfj := HKER.out.2.2.1 j hj
      rw [hra] at hfj
      have HFJ := Lib.hid hfj
      have hkr := hk.trans (hwi.mono hzk)
      clear g3 q2 hp hra hfj HO HW hwi hzi
      go_wp2_with fail
      refine Calls.mono Q2.out ?_
      rintro e w7 ⟨rfl, hb⟩
      have hk7 := hkr.trans (hb.mono hkr.size)
      clear hb hkr Q2
      obtain ⟨j1, hj1⟩ : ∃ j1 : Nat, (j : Int) - 1 = j1 := ⟨j - 1, by omega⟩
      have hj1m : j1 ≤ m := by omega
      have hj1l : j1 + 1 = j := by omega
      have HJ1 := Lib.hid hj1l
      clear hj1l
      by_cases hrj : ra < j
      ·have hrji : (ra : Int) < (j : Int) := by omega
       go_wp2
       go_roundw
       case rel => exact ⟨j1, j1, hj1m, rfl, rfl, by have := HFJ.out.1 hrj; have := HJ1.out; omega, hk7⟩
       case measure => simp [intOf]; have := HJ1.out; omega
      ·have hrji : ¬ (ra : Int) < (j : Int) := by omega
       go_wp2
       go_roundw
       case rel => exact ⟨j1, t, hj1m, rfl, rfl, by
        have h1 := HT.out
        have h2 := HJ1.out
        have h3 : ¬ f < j := fun h => hrj (HFJ.out.2 h)
        omega, hk7⟩
       case measure => simp [intOf]; have := HJ1.out; omega
   ·obtain rfl : j = 0 := by omega
    have htf : f = t := by have := HT.out; omega
    subst htf
    have hw6 := hw5.trans (hk.mono hw5.size)
    have HX6 := Lib.hid (HX.out.below hk)
    have HR6 := Lib.hid (HR5.out.below hk)
    clear HT htm
    go_wp2_with fail
    refine Calls.mono num_Of0 ?_
    rintro e w7 ⟨rfl, hb⟩
    have hkq := hb
    clear hb
    unfold zeroN
    have hw7 := hw6.trans (hkq.mono hw6.size)
    have HX7 := Lib.hid (HX6.out.below hkq)
    have HR7 := Lib.hid (HR6.out.below hkq)
    clear hkq hw6 HX6 HR6 HX HR5 hw5 hk
    generalize w5 = w5o at *
    have HG0 : Hid (BoxN (w7.alloc (.cells #[.bool false, .slice none 0 0] 35)) w7.heap.size (((gcdN Z 0 : Nat) : Int))) := Lib.hid ⟨_, _, _, _, Own.new rfl, (fun b off e => by cases e), num_zero _⟩
    have hk7 : Below w7.heap.size w7 (w7.alloc (.cells #[.bool false, .slice none 0 0] 35)) := (Below.refl _ _).alloc (Nat.le_refl _) _
    have hbg7 : w7.heap.size < (w7.alloc (.cells #[.bool false, .slice none 0 0] 35)).heap.size := by simp
    obtain ⟨bg, hbg⟩ : ∃ b, w7.heap.size = b := ⟨_, rfl⟩
    rw [hbg] at HG0 hbg7
    have hbg5 : w7.heap.size ≤ bg := by omega
    go_wp2
    clear hbg
    generalize (w7.alloc (.cells #[.bool false, .slice none 0 0] 35)) = w7a at *
    go_loopw [18, 125] (fun v i wr => ∃ i' : Nat, i' ≤ m ∧ i = .int .i64 i' ∧ Below w7.heap.size w7 wr ∧ bg < wr.heap.size ∧ BoxN wr bg (((gcdN Z i' : Nat) : Int)) ∧ VecQ (bg + 1) bg wr v i' (fun i => (iAt Z i, 1))) (fun _ i _ => m - (intOf i).toNat)
    case atStart => exact ⟨0, by omega, rfl, hk7, hbg7, HG0.out, [], ⟨rfl, .inl ⟨rfl, rfl⟩⟩, rfl, fun i h => absurd h (Nat.not_lt_zero i)⟩
    case round =>
     clear hk7 hbg7 HG0
     obtain ⟨i', hi', rfl, hkL, hbgr, hG, hV⟩ := hrel
     have HG := Lib.hid hG
     have HV := Lib.hid hV
     clear hG hV
     by_cases hir : i' < m
     ·skip
      have hmi2 : (i' : Int) < (m : Int) := by omega
      obtain ⟨bx, offx, hA, _⟩ := HX7.out.row (by omega)
      subst hA
      have hwx := hkL.trans (Below.refl wr.heap.size wr |>.mono hkL.size)
      obtain ⟨hbz, s1, E1, m1, d1, x1, x2, hr1'⟩ := (HX7.out.below hkL).at_ hir
      have ez : zAt Z i' = iAt Z i' := rfl
      rw [ez] at hr1'
      obtain ⟨z, hz⟩ : ∃ z, iAt Z i' = z := ⟨_, rfl⟩
      rw [hz] at hr1'
      have HZ := Lib.hid hz
      have hal := (Below.refl wr.heap.size wr).alloc (Nat.le_refl _) (.cells #[.bool s1, .slice E1 m1 d1] 35)
      have o20 : Own (wr.alloc (.cells #[.bool s1, .slice E1 m1 d1] 35)) wr.heap.size #[.bool s1, .slice E1 m1 d1] := Own.new rfl
      have HNA := Lib.hid (hr1'.below hal)
      have hka := hkL.trans (hal.mono hkL.size)
      have HVa := Lib.hid (HV.out.below hal)
      have HGa := Lib.hid (HG.out.below hal)
      have hbga : bg < (wr.alloc (.cells #[.bool s1, .slice E1 m1 d1] 35)).heap.size := by simp; omega
      have hb20 : bg < wr.heap.size := hbgr
      have hlen0 : f < i' → m1 = 0 := fun h => by
       have h1 : iAt Z i' = 0 := HKZ.out.1.zero i' h (by rw [HMM.out.2.2]; exact hir)
       rw [HZ.out] at h1
       obtain ⟨A', n', c', e', _, _, _, h2⟩ := hr1'
       simp at e'
       obtain ⟨_, _, e2, _⟩ := e'
       rw [e2, ← h2.len, h1]; rfl
      have HL0 := Lib.hid hlen0
      have hov20 : ∀ b, u18.ownBlock = some b → b < wr.heap.size := fun b hb => (HV.out.own hb).2
      have HOV := Lib.hid hov20
      clear hr1' hz ez hal HV HG hkL hlen0 hov20 hwx
      go_wp2
      generalize (wr.alloc (.cells #[.bool s1, .slice E1 m1 d1] 35)) = wa at *
      generalize wr.heap.size = b20 at *
      have hb20z := o20.lt
      clear x1 x2 hbz
      have HFv := Lib.hid (And.intro (NumAt.fits HNA.out) (And.intro (show fits 1 = true from fits_small (by omega)) (show (1 : Int) ≠ 0 by omega)))
      refine region_gen (T := []) [.make 1 [] (valB [] 1), .make 2 [1] (ratB [] wa.heap.size z 1), .need 3 [2], .need 5 [], .make 6 [] (ownB [] #[.bool false, .slice none 0 0, .bool false, .slice none 0 0] (fun p => .pointer (some ⟨p, 0, none⟩)))] 7 0 40 (fun _ _ => True) (fun _ _ _ _ _ => trivial) trivial (by kernel_rfl) (by kernel_rfl) (by rfl) ?_
      unfold genWalk
      apply Exists.intro
      apply And.intro
      ·apply Piece.mk
       ·intro f v hv hr hne
        simp only [List.take_succ_cons, List.take_zero, List.drop_zero, Nat.reduceSub]
        have d20 := fun y => (o20.later (v := v) (T := []) (by simp) y).cell
        repeat (go_big_quiet_step (fail))
        refine wpQuiet_nil ?_
        exact rfl
       ·intro f; kernel_rfl
       ·intro f f' hf; kernel_rfl
      simp only [List.take_succ_cons, List.take_zero, List.drop_succ_cons, List.drop_zero, Nat.reduceAdd, oneOp]
      refine ⟨fun f => ⟨rfl, fun u hu _ => ?_⟩, ?_⟩
      ·refine make_call (f := 21) (args := #[.int .i64 1]) (by (try simp only [Act.put, List.setIfInBounds_toArray, List.set_cons_zero, List.set_cons_succ]); (try simp only [newB_val, numB_val, ownB_val, valB_val, ratB_val, ratVB_val, numV, ratV]); go_simp) ?_
       have q := of_val (w := u) 1 (by omega) (by omega)
       refine q.mono ?_
       rintro e wx ⟨⟨b, rfl, q1, q2, q3⟩, hbx⟩
       exact ⟨(b, 0), rfl, q2, q3, hbx, (by simp), q1⟩
      unfold genWalk
      apply Exists.intro
      apply And.intro
      ·apply Piece.mk
       ·intro f v hv hr hne
        simp only [List.take_zero, List.drop_succ_cons, List.drop_zero, Nat.reduceSub]
        (try simp only [Act.put, List.setIfInBounds_toArray, List.set_cons_zero, List.set_cons_succ])
        (try simp only [valB_val, numV])
        have d20 := fun y => (o20.later (v := v) (T := []) (by simp) y).cell
        repeat (go_big_quiet_step (fail))
        refine wpQuiet_nil ?_
        exact rfl
       ·intro f; kernel_rfl
       ·intro f f' hf; simp
      simp only [List.take_succ_cons, List.take_zero, List.drop_succ_cons, List.drop_zero, Nat.reduceAdd, oneOp]
      refine ⟨fun f => ⟨rfl, fun u hu hm => ?_⟩, ?_⟩
      ·refine make_call (f := 22) (args := #[.agg #[.bool s1, .slice E1 m1 d1], .agg #[.bool (sgnN 1), slN 1 (f 1).1]]) (by (try simp only [Act.put, List.setIfInBounds_toArray, List.set_cons_zero, List.set_cons_succ]); (try simp only [newB_val, numB_val, ownB_val, valB_val, ratB_val, ratVB_val, numV, ratV]); go_simp) ?_
       have e1 : NumO u (f 1).1 1 := (show (valB [] 1).R (f 1) u from hm 1 (by simp)).2
       have q := ratio_Of (w := u) (NumAt.keeps HNA.out hu) (e1.at_ HFv.out.2.1) HFv.out.2.2
       rw [ofN_one, ofD_one] at q
       refine q.mono ?_
       rintro e wx ⟨⟨b1, b2, rfl, q1, q2, q3, q4, q5, q6⟩, hbx⟩
       exact ⟨(b1, b2), rfl, q3, q4, hbx, by simp, by simp, q1, q2, Nat.le_trans hu.1 q5, q6⟩
      unfold genWalk
      apply Exists.intro
      apply And.intro
      ·apply Piece.mk
       ·intro f v hv hr hne
        simp only [List.take_zero, List.drop_succ_cons, List.drop_zero, Nat.reduceSub]
        (try simp only [Act.put, List.setIfInBounds_toArray, List.set_cons_zero, List.set_cons_succ])
        (try simp only [ratB_val, ratV])
        repeat (go_big_quiet_step (fail))
        refine wpQuiet_nil ?_
        exact rfl
       ·intro f; kernel_rfl
       ·intro f f' hf; simp
      unfold genWalk
      apply Exists.intro
      apply And.intro
      ·apply Piece.mk
       ·intro f v hv hr hne
        simp only [List.take_succ_cons, List.take_zero, List.drop_succ_cons, List.drop_zero, Nat.reduceSub]
        (try simp only [Act.put, List.setIfInBounds_toArray, List.set_cons_zero, List.set_cons_succ])
        (try simp only [newB_val, numB_val, ownB_val, valB_val, ratB_val, ratVB_val, numV, ratV])
        repeat (go_big_quiet_step (fail))
        refine wpQuiet_nil ?_
        exact rfl
       ·intro f; kernel_rfl
       ·intro f f' hf; first | (simp; done) | (simp [hf 2 (by simp)])
      unfold genWalk
      apply Exists.intro
      apply And.intro
      ·apply Piece.mk
       ·intro f v hv hr hne
        simp only [List.take_succ_cons, List.take_zero, List.drop_succ_cons, List.drop_zero, Nat.reduceSub]
        (try simp only [Act.put, List.setIfInBounds_toArray, List.set_cons_zero, List.set_cons_succ])
        (try simp only [newB_val, numB_val, ownB_val, valB_val, ratB_val, ratVB_val, numV, ratV])
        repeat (go_big_quiet_step (fail))
        refine wpQuiet_nil ?_
        exact rfl
       ·intro f; kernel_rfl
       ·intro f f' hf; simp
      simp only [List.take_succ_cons, List.take_zero, List.drop_succ_cons, List.drop_zero, Nat.reduceAdd, oneOp]
      refine ⟨fun f => ⟨rfl, fun u hu _ => ?_⟩, ?_⟩
      ·refine make_own (e := 37) (by (try simp only [Act.put, List.setIfInBounds_toArray, List.set_cons_zero, List.set_cons_succ]); (try simp only [newB_val, numB_val, ownB_val, valB_val, ratB_val, ratVB_val, numV, ratV]); go_simp) (by simp)
      unfold genWalk
      apply Exists.intro
      apply And.intro
      ·apply Piece.mk
       ·intro f v hv hr hne
        simp only [List.take_zero, List.drop_succ_cons, List.drop_zero, Nat.reduceSub]
        (try simp only [Act.put, List.setIfInBounds_toArray, List.set_cons_zero, List.set_cons_succ])
        (try simp only [ownB_val])
        repeat (go_big_quiet_step (fail))
        refine wpQuiet_nil ?_
        exact rfl
       ·intro f; kernel_rfl
       ·intro f f' hf; simp
      intro f u' hup hph hmade hdist
      obtain ⟨⟨-, -, oN, oM, loM, hiM⟩, loN, hiN⟩ := hmade 2 (by omega) rfl
      obtain ⟨⟨-, qO⟩, loO, hiO⟩ := hmade 6 (by omega) rfl
      have e5 := hdist 2 6 (by omega) (by omega) rfl rfl (by omega)
      replace oN : NumO u' (f 2).1 z := oN
      replace oM : NumO u' (f 2).2 1 := oM
      replace hiM : (f 2).2 < u'.heap.size := hiM
      replace loM : wa.heap.size ≤ (f 2).2 := loM
      replace qO : Own u' (f 6).1 #[.bool false, .slice none 0 0, .bool false, .slice none 0 0] := qO
      clear hmade hdist hph
      simp only
      (try simp only [Act.put, List.setIfInBounds_toArray, List.set_cons_zero, List.set_cons_succ])
      (try simp only [newB_val, numB_val, ownB_val, valB_val, ratB_val, ratVB_val, numV, ratV])
      generalize (f 2).1 = b1 at *
      generalize (f 2).2 = b2 at *
      generalize (f 6).1 = bv at *
      generalize (f 1).1 = bp1 at *
      clear f
      have e6 : b2 ≠ bv := digs_ne (oM HFv.out.2.1 HFv.out.2.2) qO HFv.out.2.2
      have f1 := HFv.out.1
      have f2 := HFv.out.2.1
      obtain ⟨Av1, nv1, cv1, hs1⟩ := slN_form z b1
      obtain ⟨Av2, nv2, cv2, hs2⟩ := slN_form 1 b2
      rw [hs1, hs2]
      have HSL := Lib.hid (And.intro hs1 hs2)
      clear hs1 hs2
      have hwu : Below wa.heap.size wa u' := Upd.below (Below.refl _ _) hup (by simp)
      have hkT := Upd.keeps (Keeps.refl _ _) hup
      have qOc := qO.cell
      have qOf := qO.thaw
      clear hup
      refine effc_mem (by rfl) (fun K hK => ?_)
      go_simp
      refine hK _ _ (((((hkT.new (p := ⟨bv, 0, none⟩) loO (.bool (sgnN z))).new (p := ⟨bv, 1, none⟩) loO (.slice Av1 nv1 cv1)).new (p := ⟨bv, 2, none⟩) loO (.bool (sgnN 1))).new (p := ⟨bv, 3, none⟩) loO (.slice Av2 nv2 cv2))) (fun u3 hu3 => ?_)
      clear hK K
      have hs3 := hu3.size
      simp [World.setCell] at hs3
      have hwu1 := (((((hwu.setCell (p := ⟨bv, 0, none⟩) loO (.bool (sgnN z))).setCell (p := ⟨bv, 1, none⟩) loO (.slice Av1 nv1 cv1)).setCell (p := ⟨bv, 2, none⟩) loO (.bool (sgnN 1))).setCell (p := ⟨bv, 3, none⟩) loO (.slice Av2 nv2 cv2))).trans (hu3.mono (by simp [World.setCell]; exact hwu.size))
      have r12 := ((((qO.set 0 (.bool (sgnN z))).set 1 (.slice Av1 nv1 cv1)).set 2 (.bool (sgnN 1))).set 3 (.slice Av2 nv2 cv2)).below hu3
      have oN1 := NumO.below (((((oN.far (p := ⟨bv, 0, none⟩) e5 (.bool (sgnN z))).far (p := ⟨bv, 1, none⟩) e5 (.slice Av1 nv1 cv1)).far (p := ⟨bv, 2, none⟩) e5 (.bool (sgnN 1))).far (p := ⟨bv, 3, none⟩) e5 (.slice Av2 nv2 cv2))) hu3
      have oM1 := NumO.below (((((oM.far (p := ⟨bv, 0, none⟩) e6 (.bool (sgnN z))).far (p := ⟨bv, 1, none⟩) e6 (.slice Av1 nv1 cv1)).far (p := ⟨bv, 2, none⟩) e6 (.bool (sgnN 1))).far (p := ⟨bv, 3, none⟩) e6 (.slice Av2 nv2 cv2))) hu3
      have hk1 := (((((hkT.new (p := ⟨bv, 0, none⟩) loO (.bool (sgnN z))).new (p := ⟨bv, 1, none⟩) loO (.slice Av1 nv1 cv1)).new (p := ⟨bv, 2, none⟩) loO (.bool (sgnN 1))).new (p := ⟨bv, 3, none⟩) loO (.slice Av2 nv2 cv2))).later hu3
      clear qO qOc qOf oN oM hkT hu3 hwu
      refine effc_mem (by rfl) (fun K hK => ?_)
      go_simp
      refine hK _ _ hk1 (fun uv hu4 => ?_)
      clear hK K
      have r13 := r12.below hu4
      have oN2 := oN1.below hu4
      have oM2 := oM1.below hu4
      have HBv := hwu1.trans (hu4.mono hwu1.size)
      have hs4 := hu4.size
      have BXv : Hid (Own uv bv #[.bool (sgnN z), .slice Av1 nv1 cv1, .bool (sgnN 1), .slice Av2 nv2 cv2] ∧ RatX (fun x => x ≠ bv) uv (sgnN z) Av1 nv1 cv1 (sgnN 1) Av2 nv2 cv2 z 1) := Lib.hid ⟨r13, ratX_of oN2 oM2 f1 f2 (by omega) (by omega) e5 e6 HSL.out.1 HSL.out.2⟩
      have LBv := loO
      have HRV : Hid (RatX (fun x => wa.heap.size ≤ x) uv (sgnN z) Av1 nv1 cv1 (sgnN 1) Av2 nv2 cv2 z 1) := Lib.hid (ratX_of oN2 oM2 f1 f2 (by omega) (by omega) (by omega) (by omega) HSL.out.1 HSL.out.2)
      clear hwu1 hk1 hu4 loM r12 r13 oN1 oM1 oN2 oM2 e5 e6 hs3 hs4 HSL loN hiN loO hiO hiM f1 f2
      refine effc_nil ?_
      (try simp only [Act.put, List.setIfInBounds_toArray, List.set_cons_zero, List.set_cons_succ])
      have hkv := hka.trans (HBv.mono hka.size)
      have ov := BXv.out.1
      have p20 := o20.below HBv
      have HGv := Lib.hid (HGa.out.below HBv)
      have HVv := Lib.hid (HVa.out.below HBv)
      have HNv := Lib.hid (HNA.out.below HBv)
      have hbgv := Nat.lt_of_lt_of_le hbga HBv.size
      have hbvg : wa.heap.size ≤ bv := LBv
      have hsv := HBv.size
      clear HBv HGa HVa HNA o20 hka hbga
      have p20c := p20.cell
      obtain ⟨sg1, Ag, ng, cg, og, hgx, hgn⟩ := HGv.out
      have ogc := og.cell
      have q3 := num_Gcd hgn HNv.out
      obtain ⟨gn, hgn2⟩ : ∃ t, gcdN Z (i' + 1) = t := ⟨_, rfl⟩
      have egn : Nat.gcd (((gcdN Z i' : Nat) : Int)).natAbs z.natAbs = gn := by rw [← hgn2, gcdN, HZ.out, Int.natAbs_natCast]
      rw [egn] at q3
      have hfg : fits (gn : Int) = true := by
       rw [← egn]
       refine fits_gcd ?_ ?_
       ·exact fits_le (b := ((gcdN Z i' : Nat) : Int)) (by simp) (NumAt.fits hgn)
       ·exact fits_le (b := z) (by simp) (NumAt.fits HNv.out)
      unfold RetN at q3
      rw [hfg] at q3
      have Q3 := Lib.hid q3
      have HGN := Lib.hid (And.intro hgn2 hfg)
      have HOG := Lib.hid (And.intro og hgx)
      clear q3 hgn2 egn hfg hgn hgx
      go_wp2_with fail
      refine Calls.mono Q3.out ?_
      rintro e w8 ⟨⟨b9, rfl, h91, h92, h93⟩, hb⟩
      obtain ⟨A9, n9, c9, hsl⟩ := slN_form (gn : Int) b9
      simp only [numV]
      rw [hsl]
      have hal : Below w8.heap.size w8 (w8.alloc (.cells #[.bool (sgnN (gn : Int)), .slice A9 n9 c9] 35)) := (Below.refl _ _).alloc (Nat.le_refl _) _
      have o23 : Own (w8.alloc (.cells #[.bool (sgnN (gn : Int)), .slice A9 n9 c9] 35)) w8.heap.size #[.bool (sgnN (gn : Int)), .slice A9 n9 c9] := Own.new rfl
      have hb2 := hb.trans (hal.mono hb.size)
      have HN9 : Hid (NumAt (w8.alloc (.cells #[.bool (sgnN (gn : Int)), .slice A9 n9 c9] 35)) (.agg #[.bool (sgnN (gn : Int)), .slice A9 n9 c9]) (gn : Int)) := Lib.hid (by
       have h := (h93.below hal).at_ HGN.out.2
       rw [numV, hsl] at h
       exact h)
      have H9 : Hid (∀ b off, A9 = some ⟨b, off, none⟩ → b < (w8.alloc (.cells #[.bool (sgnN (gn : Int)), .slice A9 n9 c9] 35)).heap.size ∧ uv.heap.size ≤ b) := Lib.hid (fun b off e => by
       subst e
       have := slN_addr hsl
       subst this
       exact ⟨by simp; omega, h91⟩)
      have hk8 := hkv.trans (hb2.mono hkv.size)
      have ov8 := ov.below hb2
      have p208 := p20.below hb2
      have og8 := og.below hb2
      have HV8 := Lib.hid (HVv.out.below hb2)
      have HR8 := Lib.hid (RatX.below HRV.out hb2)
      have hs8 := hb2.size
      have hb8z : uv.heap.size ≤ w8.heap.size := hb.size
      have hbv8 := ov.lt
      clear hb hal hb2 h91 h92 h93 hsl ov p20 og p20c ogc HGv HVv HNv HRV hkv Q3 HOG
      have p20c := p208.cell
      rcases Nat.lt_or_ge f i' with hfi | hfi
      ·have hfii : (f : Int) < (i' : Int) := by omega
       have hm10 := HL0.out hfi
       subst hm10
       go_wp2
       generalize (w8.alloc (.cells #[.bool (sgnN (gn : Int)), .slice A9 n9 c9] 35)) = w9 at *
       have hnb1 : bv ∉ bg :: ownL u18 := by
        rw [List.mem_cons, mem_ownL]
        rintro (h | h)
        ·omega
        ·have := HOV.out bv h; omega
       have hb23 : w8.heap.size < w9.heap.size := o23.lt
       generalize w8.heap.size = b23 at *
       have hnb2 : b23 ∉ bg :: ownL u18 := by
        rw [List.mem_cons, mem_ownL]
        rintro (h | h)
        ·omega
        ·have := HOV.out b23 h; omega
       have ov := ov8
       have hbg9 : bg < w9.heap.size := og8.lt
       refine region_genp [0, 1, 4, 2, 3, 5, 6] [0, 1, 3, 4, 2, 5, 6] ?l' ?hl (by kernel_rfl) (T := bg :: ownL u18) [] 3 0 40 (fun _ u => Own u bg #[.bool sg1, .slice Ag ng cg] ∧ VecQ (bg + 1) bg u u18 i' (fun i => (iAt Z i, 1))) (fun _ _ _ h k => ⟨h.1.below k, h.2.below k⟩) ⟨og8, HV8.out⟩ (by kernel_rfl) ?hB ?hp ?hh
       case hl =>
        simp only [permOps, List.map_cons, List.map_nil, List.getElem?_cons_zero, List.getElem?_cons_succ, pickO, rnO, rnE, tab, Option.map_none, List.map_toArray, List.getD_cons_zero, List.getD_cons_succ]
        try rfl
       case hB => kernel_rfl
       case hp => rfl
       case hh =>
        unfold genWalk
        apply Exists.intro
        apply And.intro
        ·apply Piece.mk
         ·intro f v hv hr hne
          simp only [List.take_succ_cons, List.take_zero, List.drop_zero, Nat.reduceSub]
          have d21 := fun y => (ov.later (v := v) (T := bg :: ownL u18) hnb1 y).cell
          have d23 := fun y => (o23.later (v := v) (T := bg :: ownL u18) hnb2 y).cell
          repeat (go_big_quiet_step (fail))
          refine wpQuiet_nil ?_
          exact rfl
         ·intro f; kernel_rfl
         ·intro f f' hf; kernel_rfl
        intro f9 u' hup hph hmade hdist
        obtain ⟨og9, hV9⟩ := hph
        simp only [List.drop_succ_cons, List.drop_zero]
        (try simp only [Act.put, List.setIfInBounds_toArray, List.set_cons_zero, List.set_cons_succ])
        clear hmade hdist f9
        have hkT := Upd.keeps (Keeps.refl _ _) hup
        have hsu := hup.size
        have hkU : Below w7.heap.size w7 u' := hk8.trans ⟨hup.os, hup.tape, hup.output, hup.size, fun b hb => hup.block b (Nat.lt_of_lt_of_le hb hk8.size) (by
         rw [List.mem_cons, mem_ownL]
         rintro (h | h)
         ·omega
         ·have := (HV8.out.own h).1; omega)⟩
        obtain ⟨xs, hrow, hrc⟩ := hV9
        have HRC := Lib.hid hrc
        have hRX : RatX (fun b => b ≠ bg ∧ some b ≠ u18.ownBlock) u' (sgnN z) Av1 nv1 cv1 (sgnN 1) Av2 nv2 cv2 z 1 := HR8.out.move hup.size fun b hlt hX => ⟨hup.block b hlt (by
         have hX : wa.heap.size ≤ b := hX
         rw [List.mem_cons, mem_ownL]
         rintro (h | h)
         ·omega
         ·have := HOV.out b h; omega), by have hX : wa.heap.size ≤ b := hX; omega, fun e => by have hX : wa.heap.size ≤ b := hX; have := HOV.out b e.symm; omega⟩
        have HRX := Lib.hid hRX
        have HN9u : Hid (NumAt u' (.agg #[.bool (sgnN (gn : Int)), .slice A9 n9 c9]) (gn : Int)) := Lib.hid (HN9.out.same hup.size fun b off e => hup.block b (H9.out b off e).1 (by
         have := (H9.out b off e).2
         rw [List.mem_cons, mem_ownL]
         rintro (h | h)
         ·omega
         ·have := HOV.out b h; omega))
        have hro : ∀ b, u18.ownBlock = some b → bg + 1 ≤ b ∧ b < u'.heap.size := fun b hb => ⟨ownBlock_ge hrow hb, ownBlock_lt hrow hb⟩
        have HRO := Lib.hid hro
        clear hrc hRX hro hup HR8 HV8 HN9
        refine effc_mem (by rfl) (fun K hK => ?_)
        go_simp
        refine hK _ _ (hkT.alloc _) (fun ua hua => ?_)
        clear hK K
        have hal : Below u'.heap.size u' (u'.alloc (.cells #[.bool (sgnN z), .slice Av1 nv1 cv1, .bool (sgnN 1), .slice Av2 nv2 cv2] 37)) := (Below.refl _ _).alloc (Nat.le_refl _) _
        have hba : Below u'.heap.size u' ua := hal.trans (hua.mono hal.size)
        have os : Own ua u'.heap.size #[.bool (sgnN z), .slice Av1 nv1 cv1, .bool (sgnN 1), .slice Av2 nv2 cv2] := Own.below (Own.new rfl) hua
        have hrow8 := ownsRow_stay hrow hba
        have hkTa : Keeps (bg :: ownL u18) w9 ua := (hkT.alloc _).later hua
        have hua1 : u'.heap.size + 1 ≤ ua.heap.size := by have := hua.size; simp at this; omega
        obtain ⟨Ts, hTs⟩ := os
        refine effc_mem (by rfl) (fun K hK => ?_)
        refine late_append _ _ 38 rfl (bg + 1) 37 i2 (.agg #[.bool false, .slice none 0 0, .bool false, .slice none 0 0]) 4 64 Tryz.underlying38 hi2 hv0 hv1 hv2 rfl (by omega) _ i' xs (by rfl) hrow8 ⟨u'.heap.size, 0, none⟩ 1 1 [.bool (sgnN z), .slice Av1 nv1 cv1, .bool (sgnN 1), .slice Av2 nv2 cv2] (by rfl) rfl (World.news_of_block hTs) ?_ (by omega) (by unfold maxLen; omega) (by omega) (by omega) ua.heap.size rfl ?_
        ·intro q hq; simp at hq; rcases hq with rfl | rfl | rfl | rfl <;> rfl
        intro gg cgg ub ho9 hg9 hat9 hlt9
        have hkTb : Keeps (bg :: ownL u18) w9 ub := keeps_grown hkTa hg9 (fun r e => .inl (by rw [List.mem_cons, mem_ownL]; exact .inr e))
        have hggn : gg ≠ bg := by
         rcases hat9 with h | h
         ·have := (HRO.out gg h).1; omega
         ·omega
        have hq9 : RatC (fun b => b ≠ bg ∧ some b ≠ some gg) ub (xs ++ [.bool (sgnN z), .slice Av1 nv1 cv1, .bool (sgnN 1), .slice Av2 nv2 cv2]) (i' + 1) (fun i => (iAt Z i, 1)) := by
         have q := RatC.snoc (X := fun b => b ≠ bg ∧ some b ≠ u18.ownBlock ∧ b < u'.heap.size) (HRC.out.move (Y := fun b => b ≠ bg ∧ some b ≠ u18.ownBlock ∧ b < u'.heap.size) hba.size fun b hlt hX => ⟨hba.block b hlt, hX.1, hX.2, hlt⟩) (show RatX _ ua (sgnN z) Av1 nv1 cv1 (sgnN 1) Av2 nv2 cv2 (iAt Z i') 1 by rw [HZ.out]; exact HRX.out.move hba.size fun b hlt hX => ⟨hba.block b hlt, hX.1, hX.2, hlt⟩)
         refine q.move hg9.size fun b hlt hX => ⟨hg9.block b hlt (fun e => hX.2.1 e), hX.1, fun e => ?_⟩
         cases e
         rcases hat9 with h | h
         ·exact hX.2.1 h.symm
         ·have := hX.2.2; omega
        have HN9b : Hid (NumAt ub (.agg #[.bool (sgnN (gn : Int)), .slice A9 n9 c9]) (gn : Int)) := Lib.hid ((HN9u.out.below hba).same hg9.size fun b off e => hg9.block b (Nat.lt_of_lt_of_le (Nat.lt_of_lt_of_le (H9.out b off e).1 hsu) hba.size) (fun e2 => by
         have h1 := HOV.out b e2.symm
         have h2 := (H9.out b off e).2
         omega))
        have og10 := (og9.below hba).of_block (hg9.block bg (by have := og9.lt; have := hba.size; omega) (fun e => by have := (HRO.out bg e.symm).1; omega))
        have hkb : Below w7.heap.size w7 ub := (hkU.trans (hba.mono hkU.size)).trans ⟨hg9.os, hg9.tape, hg9.output, hg9.size, fun b hb => hg9.block b (by have := hkU.size; have := hba.size; omega) (fun e => by have := (HRO.out b e.symm).1; omega)⟩
        refine hK _ _ hkTb (fun uc huc => ?_)
        clear hK K
        have hkTc := hkTb.later huc
        have ho10 := ownsRow_stay ho9 huc
        have hq10 : RatC (fun b => b ≠ bg ∧ some b ≠ some gg) uc (xs ++ [.bool (sgnN z), .slice Av1 nv1 cv1, .bool (sgnN 1), .slice Av2 nv2 cv2]) (i' + 1) (fun i => (iAt Z i, 1)) := hq9.move huc.size fun b hlt hX => ⟨huc.block b hlt, hX⟩
        have og11 := og10.below huc
        have HN9c := Lib.hid (HN9b.out.below huc)
        have hkc := hkb.trans (huc.mono hkb.size)
        have hbs : ub.heap.size ≤ uc.heap.size := huc.size
        have hab : u'.heap.size ≤ ub.heap.size := Nat.le_trans hba.size hg9.size
        clear ho9 hg9 hat9 hlt9 hq9 HN9b og10 hkb hkTb hkTa huc hua hal hrow8 hTs HRC HRX hrow hba og9 HN9u
        refine effc_mem (by rfl) (fun K hK => ?_)
        go_simp
        refine hK _ _ hkTc (fun ud hud => ?_)
        clear hK K
        have hkTd := hkTc.later hud
        have ho11 := ownsRow_stay ho10 hud
        have hq11 : RatC (fun b => b ≠ bg ∧ some b ≠ some gg) ud (xs ++ [.bool (sgnN z), .slice Av1 nv1 cv1, .bool (sgnN 1), .slice Av2 nv2 cv2]) (i' + 1) (fun i => (iAt Z i, 1)) := hq10.move hud.size fun b hlt hX => ⟨hud.block b hlt, hX⟩
        have og12 := og11.below hud
        have HN9d := Lib.hid (HN9c.out.below hud)
        have hkd := hkc.trans (hud.mono hkc.size)
        have hcd := hud.size
        clear ho10 hq10 og11 HN9c hkc hkTc hud
        have og12c := og12.cell
        have og12f := og12.thaw
        have og12z := og12.lt
        refine effc_mem (by rfl) (fun K hK => ?_)
        go_simp
        refine hK _ _ ((hkTd.set (by simp) _).set (by simp) _) (fun ue hue => ?_)
        clear hK K
        have hst : (((ud.setCell ⟨bg, 0, none⟩ (.bool (sgnN (gn : Int)))).setCell ⟨bg, 1, none⟩ (.slice A9 n9 c9))).heap.size = ud.heap.size := by simp [World.setCell]
        have hblk : ∀ b, b ≠ bg → (((ud.setCell ⟨bg, 0, none⟩ (.bool (sgnN (gn : Int)))).setCell ⟨bg, 1, none⟩ (.slice A9 n9 c9))).heap[b]? = ud.heap[b]? := fun b hb => (Below.heap_setCell _ _ _ b hb).trans (Below.heap_setCell _ _ _ b hb)
        have hkE : Below w7.heap.size w7 ue := (((hkd.setCell (p := ⟨bg, 0, none⟩) hbg5 (.bool (sgnN (gn : Int)))).setCell (p := ⟨bg, 1, none⟩) hbg5 (.slice A9 n9 c9))).trans (hue.mono (by rw [hst]; exact hkd.size))
        have hGE : BoxN ue bg (((gcdN Z (i' + 1) : Nat) : Int)) := by
         rw [HGN.out.1]
         exact (BoxN.store og12 (fun b off e => ⟨by have := (H9.out b off e).1; omega, by have := (H9.out b off e).2; omega⟩) HN9d.out).below hue
        have hVE : VecQ (bg + 1) bg ue (.slice (some ⟨gg, 0, none⟩) (i' + 1) cgg) (i' + 1) (fun i => (iAt Z i, 1)) := by
         refine VecQ.below ⟨_, ownsRow_blk ho11 (fun b hb _ => hblk b (by cases hb; exact hggn)), hq11.move (by rw [hst]; exact Nat.le_refl _) fun b _ hX => ⟨hblk b hX.1, hX⟩⟩ hue
        have hbgE : bg < ue.heap.size := by have := hue.size; rw [hst] at this; omega
        have HGE := Lib.hid hGE
        have HVE := Lib.hid hVE
        clear hGE hVE ho11 hq11 og12 og12c og12f og12z HN9d hkd hkTd hue hblk hst
        refine effc_nil ?_
        (try simp only [Act.put, List.setIfInBounds_toArray, List.set_cons_zero, List.set_cons_succ])
        go_wp2
        go_roundw
        case rel => exact ⟨i' + 1, by omega, by go_num, hkE, hbgE, HGE.out, HVE.out⟩
        case measure => simp [intOf]; omega
      ·have hfii : ¬ (f : Int) < (i' : Int) := by omega
       go_wp2
       generalize (w8.alloc (.cells #[.bool (sgnN (gn : Int)), .slice A9 n9 c9] 35)) = w9 at *
       have hnb1 : bv ∉ bg :: ownL u18 := by
        rw [List.mem_cons, mem_ownL]
        rintro (h | h)
        ·omega
        ·have := HOV.out bv h; omega
       have hb23 : w8.heap.size < w9.heap.size := o23.lt
       generalize w8.heap.size = b23 at *
       have hnb2 : b23 ∉ bg :: ownL u18 := by
        rw [List.mem_cons, mem_ownL]
        rintro (h | h)
        ·omega
        ·have := HOV.out b23 h; omega
       have ov := ov8
       have hbg9 : bg < w9.heap.size := og8.lt
       refine region_genp [0, 1, 4, 2, 3, 5, 6] [0, 1, 3, 4, 2, 5, 6] ?l' ?hl (by kernel_rfl) (T := bg :: ownL u18) [] 3 0 40 (fun _ u => Own u bg #[.bool sg1, .slice Ag ng cg] ∧ VecQ (bg + 1) bg u u18 i' (fun i => (iAt Z i, 1))) (fun _ _ _ h k => ⟨h.1.below k, h.2.below k⟩) ⟨og8, HV8.out⟩ (by kernel_rfl) ?hB ?hp ?hh
       case hl =>
        simp only [permOps, List.map_cons, List.map_nil, List.getElem?_cons_zero, List.getElem?_cons_succ, pickO, rnO, rnE, tab, Option.map_none, List.map_toArray, List.getD_cons_zero, List.getD_cons_succ]
        try rfl
       case hB => kernel_rfl
       case hp => rfl
       case hh =>
        unfold genWalk
        apply Exists.intro
        apply And.intro
        ·apply Piece.mk
         ·intro f v hv hr hne
          simp only [List.take_succ_cons, List.take_zero, List.drop_zero, Nat.reduceSub]
          have d21 := fun y => (ov.later (v := v) (T := bg :: ownL u18) hnb1 y).cell
          have d23 := fun y => (o23.later (v := v) (T := bg :: ownL u18) hnb2 y).cell
          repeat (go_big_quiet_step (fail))
          refine wpQuiet_nil ?_
          exact rfl
         ·intro f; kernel_rfl
         ·intro f f' hf; kernel_rfl
        intro f9 u' hup hph hmade hdist
        obtain ⟨og9, hV9⟩ := hph
        simp only [List.drop_succ_cons, List.drop_zero]
        (try simp only [Act.put, List.setIfInBounds_toArray, List.set_cons_zero, List.set_cons_succ])
        clear hmade hdist f9
        have hkT := Upd.keeps (Keeps.refl _ _) hup
        have hsu := hup.size
        have hkU : Below w7.heap.size w7 u' := hk8.trans ⟨hup.os, hup.tape, hup.output, hup.size, fun b hb => hup.block b (Nat.lt_of_lt_of_le hb hk8.size) (by
         rw [List.mem_cons, mem_ownL]
         rintro (h | h)
         ·omega
         ·have := (HV8.out.own h).1; omega)⟩
        obtain ⟨xs, hrow, hrc⟩ := hV9
        have HRC := Lib.hid hrc
        have hRX : RatX (fun b => b ≠ bg ∧ some b ≠ u18.ownBlock) u' (sgnN z) Av1 nv1 cv1 (sgnN 1) Av2 nv2 cv2 z 1 := HR8.out.move hup.size fun b hlt hX => ⟨hup.block b hlt (by
         have hX : wa.heap.size ≤ b := hX
         rw [List.mem_cons, mem_ownL]
         rintro (h | h)
         ·omega
         ·have := HOV.out b h; omega), by have hX : wa.heap.size ≤ b := hX; omega, fun e => by have hX : wa.heap.size ≤ b := hX; have := HOV.out b e.symm; omega⟩
        have HRX := Lib.hid hRX
        have HN9u : Hid (NumAt u' (.agg #[.bool (sgnN (gn : Int)), .slice A9 n9 c9]) (gn : Int)) := Lib.hid (HN9.out.same hup.size fun b off e => hup.block b (H9.out b off e).1 (by
         have := (H9.out b off e).2
         rw [List.mem_cons, mem_ownL]
         rintro (h | h)
         ·omega
         ·have := HOV.out b h; omega))
        have hro : ∀ b, u18.ownBlock = some b → bg + 1 ≤ b ∧ b < u'.heap.size := fun b hb => ⟨ownBlock_ge hrow hb, ownBlock_lt hrow hb⟩
        have HRO := Lib.hid hro
        clear hrc hRX hro hup HR8 HV8 HN9
        refine effc_mem (by rfl) (fun K hK => ?_)
        go_simp
        refine hK _ _ (hkT.alloc _) (fun ua hua => ?_)
        clear hK K
        have hal : Below u'.heap.size u' (u'.alloc (.cells #[.bool (sgnN z), .slice Av1 nv1 cv1, .bool (sgnN 1), .slice Av2 nv2 cv2] 37)) := (Below.refl _ _).alloc (Nat.le_refl _) _
        have hba : Below u'.heap.size u' ua := hal.trans (hua.mono hal.size)
        have os : Own ua u'.heap.size #[.bool (sgnN z), .slice Av1 nv1 cv1, .bool (sgnN 1), .slice Av2 nv2 cv2] := Own.below (Own.new rfl) hua
        have hrow8 := ownsRow_stay hrow hba
        have hkTa : Keeps (bg :: ownL u18) w9 ua := (hkT.alloc _).later hua
        have hua1 : u'.heap.size + 1 ≤ ua.heap.size := by have := hua.size; simp at this; omega
        obtain ⟨Ts, hTs⟩ := os
        refine effc_mem (by rfl) (fun K hK => ?_)
        refine late_append _ _ 38 rfl (bg + 1) 37 i2 (.agg #[.bool false, .slice none 0 0, .bool false, .slice none 0 0]) 4 64 Tryz.underlying38 hi2 hv0 hv1 hv2 rfl (by omega) _ i' xs (by rfl) hrow8 ⟨u'.heap.size, 0, none⟩ 1 1 [.bool (sgnN z), .slice Av1 nv1 cv1, .bool (sgnN 1), .slice Av2 nv2 cv2] (by rfl) rfl (World.news_of_block hTs) ?_ (by omega) (by unfold maxLen; omega) (by omega) (by omega) ua.heap.size rfl ?_
        ·intro q hq; simp at hq; rcases hq with rfl | rfl | rfl | rfl <;> rfl
        intro gg cgg ub ho9 hg9 hat9 hlt9
        have hkTb : Keeps (bg :: ownL u18) w9 ub := keeps_grown hkTa hg9 (fun r e => .inl (by rw [List.mem_cons, mem_ownL]; exact .inr e))
        have hggn : gg ≠ bg := by
         rcases hat9 with h | h
         ·have := (HRO.out gg h).1; omega
         ·omega
        have hq9 : RatC (fun b => b ≠ bg ∧ some b ≠ some gg) ub (xs ++ [.bool (sgnN z), .slice Av1 nv1 cv1, .bool (sgnN 1), .slice Av2 nv2 cv2]) (i' + 1) (fun i => (iAt Z i, 1)) := by
         have q := RatC.snoc (X := fun b => b ≠ bg ∧ some b ≠ u18.ownBlock ∧ b < u'.heap.size) (HRC.out.move (Y := fun b => b ≠ bg ∧ some b ≠ u18.ownBlock ∧ b < u'.heap.size) hba.size fun b hlt hX => ⟨hba.block b hlt, hX.1, hX.2, hlt⟩) (show RatX _ ua (sgnN z) Av1 nv1 cv1 (sgnN 1) Av2 nv2 cv2 (iAt Z i') 1 by rw [HZ.out]; exact HRX.out.move hba.size fun b hlt hX => ⟨hba.block b hlt, hX.1, hX.2, hlt⟩)
         refine q.move hg9.size fun b hlt hX => ⟨hg9.block b hlt (fun e => hX.2.1 e), hX.1, fun e => ?_⟩
         cases e
         rcases hat9 with h | h
         ·exact hX.2.1 h.symm
         ·have := hX.2.2; omega
        have HN9b : Hid (NumAt ub (.agg #[.bool (sgnN (gn : Int)), .slice A9 n9 c9]) (gn : Int)) := Lib.hid ((HN9u.out.below hba).same hg9.size fun b off e => hg9.block b (Nat.lt_of_lt_of_le (Nat.lt_of_lt_of_le (H9.out b off e).1 hsu) hba.size) (fun e2 => by
         have h1 := HOV.out b e2.symm
         have h2 := (H9.out b off e).2
         omega))
        have og10 := (og9.below hba).of_block (hg9.block bg (by have := og9.lt; have := hba.size; omega) (fun e => by have := (HRO.out bg e.symm).1; omega))
        have hkb : Below w7.heap.size w7 ub := (hkU.trans (hba.mono hkU.size)).trans ⟨hg9.os, hg9.tape, hg9.output, hg9.size, fun b hb => hg9.block b (by have := hkU.size; have := hba.size; omega) (fun e => by have := (HRO.out b e.symm).1; omega)⟩
        refine hK _ _ hkTb (fun uc huc => ?_)
        clear hK K
        have hkTc := hkTb.later huc
        have ho10 := ownsRow_stay ho9 huc
        have hq10 : RatC (fun b => b ≠ bg ∧ some b ≠ some gg) uc (xs ++ [.bool (sgnN z), .slice Av1 nv1 cv1, .bool (sgnN 1), .slice Av2 nv2 cv2]) (i' + 1) (fun i => (iAt Z i, 1)) := hq9.move huc.size fun b hlt hX => ⟨huc.block b hlt, hX⟩
        have og11 := og10.below huc
        have HN9c := Lib.hid (HN9b.out.below huc)
        have hkc := hkb.trans (huc.mono hkb.size)
        have hbs : ub.heap.size ≤ uc.heap.size := huc.size
        have hab : u'.heap.size ≤ ub.heap.size := Nat.le_trans hba.size hg9.size
        clear ho9 hg9 hat9 hlt9 hq9 HN9b og10 hkb hkTb hkTa huc hua hal hrow8 hTs HRC HRX hrow hba og9 HN9u
        refine effc_mem (by rfl) (fun K hK => ?_)
        go_simp
        refine hK _ _ hkTc (fun ud hud => ?_)
        clear hK K
        have hkTd := hkTc.later hud
        have ho11 := ownsRow_stay ho10 hud
        have hq11 : RatC (fun b => b ≠ bg ∧ some b ≠ some gg) ud (xs ++ [.bool (sgnN z), .slice Av1 nv1 cv1, .bool (sgnN 1), .slice Av2 nv2 cv2]) (i' + 1) (fun i => (iAt Z i, 1)) := hq10.move hud.size fun b hlt hX => ⟨hud.block b hlt, hX⟩
        have og12 := og11.below hud
        have HN9d := Lib.hid (HN9c.out.below hud)
        have hkd := hkc.trans (hud.mono hkc.size)
        have hcd := hud.size
        clear ho10 hq10 og11 HN9c hkc hkTc hud
        have og12c := og12.cell
        have og12f := og12.thaw
        have og12z := og12.lt
        refine effc_mem (by rfl) (fun K hK => ?_)
        go_simp
        refine hK _ _ ((hkTd.set (by simp) _).set (by simp) _) (fun ue hue => ?_)
        clear hK K
        have hst : (((ud.setCell ⟨bg, 0, none⟩ (.bool (sgnN (gn : Int)))).setCell ⟨bg, 1, none⟩ (.slice A9 n9 c9))).heap.size = ud.heap.size := by simp [World.setCell]
        have hblk : ∀ b, b ≠ bg → (((ud.setCell ⟨bg, 0, none⟩ (.bool (sgnN (gn : Int)))).setCell ⟨bg, 1, none⟩ (.slice A9 n9 c9))).heap[b]? = ud.heap[b]? := fun b hb => (Below.heap_setCell _ _ _ b hb).trans (Below.heap_setCell _ _ _ b hb)
        have hkE : Below w7.heap.size w7 ue := (((hkd.setCell (p := ⟨bg, 0, none⟩) hbg5 (.bool (sgnN (gn : Int)))).setCell (p := ⟨bg, 1, none⟩) hbg5 (.slice A9 n9 c9))).trans (hue.mono (by rw [hst]; exact hkd.size))
        have hGE : BoxN ue bg (((gcdN Z (i' + 1) : Nat) : Int)) := by
         rw [HGN.out.1]
         exact (BoxN.store og12 (fun b off e => ⟨by have := (H9.out b off e).1; omega, by have := (H9.out b off e).2; omega⟩) HN9d.out).below hue
        have hVE : VecQ (bg + 1) bg ue (.slice (some ⟨gg, 0, none⟩) (i' + 1) cgg) (i' + 1) (fun i => (iAt Z i, 1)) := by
         refine VecQ.below ⟨_, ownsRow_blk ho11 (fun b hb _ => hblk b (by cases hb; exact hggn)), hq11.move (by rw [hst]; exact Nat.le_refl _) fun b _ hX => ⟨hblk b hX.1, hX⟩⟩ hue
        have hbgE : bg < ue.heap.size := by have := hue.size; rw [hst] at this; omega
        have HGE := Lib.hid hGE
        have HVE := Lib.hid hVE
        clear hGE hVE ho11 hq11 og12 og12c og12f og12z HN9d hkd hkTd hue hblk hst
        refine effc_nil ?_
        (try simp only [Act.put, List.setIfInBounds_toArray, List.set_cons_zero, List.set_cons_succ])
        go_wp2
        go_roundw
        case rel => exact ⟨i' + 1, by omega, by go_num, hkE, hbgE, HGE.out, HVE.out⟩
        case measure => simp [intOf]; omega
     ·obtain rfl : i' = m := by omega
      have hG := HG.out
      have hV := HV.out
      clear HG HV
      obtain ⟨xs, hrow, hrc⟩ := hV
      obtain ⟨A9, c9, rfl, hra⟩ := ratsA_of hrow hrc
      have hpr : gcdN Z i' = 1 := HKZ.out.1.prim _ (fun j hj => gcdN_dvd (by rw [HMM.out.2.2] at hj; exact hj))
      rw [hpr] at hG
      have hTQ : TimesQ M (fun i => (iAt Z i, 1)) i' := by
       have h := times_ok (x := fun i => (iAt Z i, 1)) (N := fun c => iAt Z c) (D := 1) HMM.out.2.1 (by omega) p_17 (fun c _ => sm_650 (HKZ.out.1.small c)) (fun c _ => (toQ_one _).symm)
       rw [HMM.out.2.2] at h
       exact h
      have hS0 : ∀ k, k < r → ((0, 1) : QI) = sumT (rAt M k) (fun i => (iAt Z i, 1)) i' := fun k hk => by
       rw [sumT_toQ (N := fun c => iAt Z c) (D := 1) (by omega) i' (fun c _ => (toQ_one _).symm)]
       have h := HKZ.out.1.rows k (by rw [HMM.out.1.len]; exact hk)
       rw [HMM.out.2.2] at h
       rw [h, toQ_one]
      have HRA := Lib.hid hra
      have HTQ := Lib.hid (And.intro hTQ hS0)
      have HRr := Lib.hid (HR7.out.below hkL)
      have HXr := Lib.hid (HX7.out.below hkL)
      have hwr := hw7.trans (hkL.mono hw7.size)
      have HGr := Lib.hid hG
      clear hrow hrc hra hpr hTQ hS0 hkL hG hw7 HR7 HX7
      go_wp2_with fail
      refine Calls.mono (matrix_Times_ok gc c9 HRr.out HRA.out HMM.out.2.2 HMM.out.2.1 HTQ.out.1) ?_
      rintro e w8 ⟨⟨kt, rfl, _, hty⟩, hb⟩
      have hw8 := hwr.trans (hb.mono hwr.size)
      have HTY := Lib.hid (hty.rats.congr (y := fun _ => (0, 1)) HTQ.out.2)
      have HX8 := Lib.hid (HXr.out.below hb)
      have HG8 := Lib.hid (HGr.out.below hb)
      have hrrb : ((r : Int) == (r : Int)) = true := by simp
      clear hty hb hwr HRA HRr HXr HGr
      go_wp2
      have hk9 := Below.refl w8.heap.size w8
      go_loopw [26, 173] (fun b i wr => ∃ j : Nat, j ≤ r ∧ i = .int .i64 j ∧ b = .bool true ∧ Below w8.heap.size w8 wr) (fun _ i _ => r - (intOf i).toNat)
      case atStart => exact ⟨0, by omega, rfl, rfl, hk9⟩
      case round =>
       clear hk9
       obtain ⟨j, hj, rfl, rfl, hk9⟩ := hrel
       have hz9 := hk9.size
       by_cases hjr : j < r
       ·have hjri : (j : Int) < (r : Int) := by omega
        obtain ⟨hb1, s1, E1, m1, d1, s2, E2, m2, d2, x1, x2, x3, x4, hr1'⟩ := (HTY.out.below hk9).at_ hjr
        simp only at hr1'
        simp only [Nat.zero_add] at x1 x2 x3 x4
        have hal : Below wr.heap.size wr (wr.alloc (.cells #[.bool s1, .slice E1 m1 d1, .bool s2, .slice E2 m2 d2] 37)) := (Below.refl _ _).alloc (Nat.le_refl _) _
        have oq : Own (wr.alloc (.cells #[.bool s1, .slice E1 m1 d1, .bool s2, .slice E2 m2 d2] 37)) wr.heap.size #[.bool s1, .slice E1 m1 d1, .bool s2, .slice E2 m2 d2] := Own.new rfl
        have HRQ := Lib.hid (hr1'.below hal)
        have hka := hk9.trans (hal.mono hz9)
        clear hr1' hal
        go_wp2_with fail
        generalize (wr.alloc (.cells #[.bool s1, .slice E1 m1 d1, .bool s2, .slice E2 m2 d2] 37)) = wb at *
        generalize wr.heap.size = bq at *
        clear x1 x2 x3 x4 hb1 hk9
        refine Calls.mono (sign_zero HRQ.out) ?_
        rintro e wc ⟨rfl, hb⟩
        have hkc := hka.trans (hb.mono hka.size)
        have HRC := Lib.hid (HRQ.out.below hb)
        have oc := oq.below hb
        have occ := oc.cell
        clear hb hka HRQ oq
        go_wp2_with fail
        refine Calls.mono (right_zero HRC.out) ?_
        rintro e wd ⟨rfl, hb⟩
        have hkd := hkc.trans (hb.mono hkc.size)
        clear hb hkc HRC oc occ
        go_wp2
        go_roundw
        case rel => exact ⟨j + 1, by omega, by go_num, rfl, hkd⟩
        case measure => simp [intOf]; omega
       ·obtain rfl : j = r := by omega
        have hwe := hw8.trans (hk9.mono hw8.size)
        obtain ⟨b3, off3, hA3, _⟩ := HX8.out.row (by omega)
        subst hA3
        obtain ⟨hb3, s1, E1, m1, d1, x1, x2, hr1'⟩ := (HX8.out.below hk9).at_ hf
        obtain ⟨sg1, Ag, ng, cg, og, _, hgn⟩ := HG8.out.below hk9
        have hpos := HKZ.out.1.pos
        have ez : zAt Z f = iAt Z f := rfl
        rw [ez] at hr1'
        obtain ⟨zf, hzf⟩ : ∃ z, iAt Z f = z := ⟨_, rfl⟩
        rw [hzf] at hr1' hpos
        have HN := Lib.hid hr1'
        have HP := Lib.hid hpos
        have HGN : Hid (NumAt wr (.agg #[.bool sg1, .slice Ag ng cg]) 1) := Lib.hid hgn
        have hz9 := hk9.size
        clear hr1' hpos hzf ez hgn hk9 hw8 HX8 HG8
        go_wp2
        refine region_gen (T := []) [.make 22 [] (valB [] 1), .need 23 [22]] 26 0 40 (fun _ _ => True) (fun _ _ _ _ _ => trivial) trivial (by kernel_rfl) (by kernel_rfl) (by rfl) ?_
        unfold genWalk
        apply Exists.intro
        apply And.intro
        ·apply Piece.mk
         ·intro f v hv hr hne
          simp only [List.take_succ_cons, List.take_zero, List.drop_zero, Nat.reduceSub]
          have f1 := later_cell (T := []) (w := wr) (v := v) hb3 (by simp) x1
          have f2 := later_cell (T := []) (w := wr) (v := v) hb3 (by simp) x2
          have dg := fun y => (og.later (v := v) (T := []) (by simp) y).cell
          have L1 := fun x : Later [] wr v => NumAt.keeps HN.out x.h
          repeat (go_big_quiet_step (first | (go_at_call 21; with_reducible exact lateB num_Of0) | (go_at_call 26; with_reducible exact lateB (cmp_zero (ordI_gt HP.out) (L1 _)))))
          refine wpQuiet_nil ?_
          exact rfl
         ·intro f; kernel_rfl
         ·intro f f' hf; kernel_rfl
        simp only [List.take_succ_cons, List.take_zero, List.drop_succ_cons, List.drop_zero, Nat.reduceAdd, oneOp]
        refine ⟨fun f => ⟨rfl, fun u hu _ => ?_⟩, ?_⟩
        ·refine make_call (f := 21) (args := #[.int .i64 1]) (by (try simp only [Act.put, List.setIfInBounds_toArray, List.set_cons_zero, List.set_cons_succ]); (try simp only [newB_val, numB_val, ownB_val, valB_val]); go_simp) ?_
         have q := of_val (w := u) 1 (by omega) (by omega)
         refine q.mono ?_
         rintro e wx ⟨⟨b, rfl, q1, q2, q3⟩, hbx⟩
         exact ⟨(b, 0), rfl, q2, q3, hbx, (by simp), q1⟩
        unfold genWalk
        apply Exists.intro
        apply And.intro
        ·apply Piece.mk
         ·intro f v hv hr hne
          simp only [List.take_zero, List.drop_succ_cons, List.drop_zero, Nat.reduceSub]
          (try simp only [Act.put, List.setIfInBounds_toArray, List.set_cons_zero, List.set_cons_succ])
          (try simp only [valB_val])
          repeat (go_big_quiet_step (fail))
          refine wpQuiet_nil ?_
          exact rfl
         ·intro f; kernel_rfl
         ·intro f f' hf; simp
        unfold genWalk
        apply Exists.intro
        apply And.intro
        ·apply Piece.mk
         ·intro f v hv hr hne
          simp only [List.take_succ_cons, List.take_zero, List.drop_succ_cons, List.drop_zero, Nat.reduceSub]
          (try simp only [Act.put, List.setIfInBounds_toArray, List.set_cons_zero, List.set_cons_succ])
          (try simp only [newB_val, numB_val, ownB_val, valB_val])
          have h22 : NumO v (f 22).1 1 := (hr 22 (by simp)).2
          have k22 := fun x : Later [] wr v => NumO.at_ (NumO.below h22 x.g) fits1
          have L2 := fun x : Later [] wr v => NumAt.keeps HGN.out x.h
          repeat (go_big_quiet_step ((go_at_call 26; with_reducible exact lateB (cmp_ones (L2 _) (k22 _)))))
          refine wpQuiet_nil ?_
          exact rfl
         ·intro f; kernel_rfl
         ·intro f f' hf; first | (simp; done) | (simp [hf 22 (by simp)])
        intro f9 u' hup hph hmade hdist
        simp only
        (try simp only [Act.put, List.setIfInBounds_toArray, List.set_cons_zero, List.set_cons_succ])
        (try simp only [newB_val, numB_val, ownB_val, valB_val])
        clear hmade hdist hph
        have hwn : Below w.heap.size w u' := Upd.below hwe hup (by simp)
        generalize numV 1 (f9 22).1 = y22 at *
        have hkT := Upd.keeps (Keeps.refl _ _) hup
        clear f9
        refine effc_mem (by rfl) (fun K hK => ?_)
        go_simp
        refine hK _ _ hkT (fun u3 hu3 => ?_)
        clear hK K
        have hwm := hwn.trans (hu3.mono hwn.size)
        clear hup hkT hu3 hwn x1 x2 hb3 og
        refine effc_nil ?_
        (try simp only [Act.put, List.setIfInBounds_toArray, List.set_cons_zero, List.set_cons_succ])
        go_wp2
        go_ret
        exact ⟨rfl, hwm⟩
 ·obtain rfl : v = .slice none 0 0 := by
   rcases hv with ⟨_, h⟩ | ⟨_, h, _⟩
   ·exact h
   ·exact absurd h hf
  obtain rfl : rk = m := by
   have : ¬ rk < m := fun h => hf (HKER.out.2.1.2 h)
   omega
  obtain rfl : f = rk := by omega
  clear hv hf
  go_wp2
  have hk0 := Below.refl w5.heap.size w5
  obtain ⟨mx, hmx⟩ : ∃ t, max f f = t := ⟨_, rfl⟩
  obtain rfl : f = mx := by omega
  go_loopw [10, 11] (fun u i wr => ∃ j t : Nat, j ≤ f ∧ i = .int .i64 j ∧ u = .int .i64 t ∧ t = max f j ∧ Below w5.heap.size w5 wr) (fun _ i _ => (intOf i).toNat)
  case atStart => exact ⟨f, f, Nat.le_refl _, rfl, rfl, hmx.symm, hk0⟩
  case round =>
   clear hk0 hmx
   obtain ⟨j, t, hj, rfl, rfl, ht, hk⟩ := hrel
   have HT := Lib.hid ht
   have htm : t ≤ f := by omega
   clear ht
   by_cases hj0 : 0 < j
   ·have hj0i : (0 : Int) < (j : Int) := by omega
    have hji : (j : Int) ≤ (f : Int) := by omega
    have hzk := hk.size
    generalize wr = wo at *
    go_wp2
    have hwo := Below.refl wo.heap.size wo
    go_loopw [12, 81] (fun u i wr => ∃ (i' : Nat) (xs : List Value), i' ≤ r ∧ i = .int .i64 i' ∧ Below wo.heap.size wo wr ∧ wr.ownsRow wo.heap.size 22 1 u i' xs ∧ RowsW (fun b => b < wo.heap.size) wr xs (partP M j i')) (fun _ i _ => r - (intOf i).toNat)
    case atStart => exact ⟨0, [], by omega, rfl, hwo, ⟨rfl, .inl ⟨rfl, rfl⟩⟩, RowsW.nil _ _⟩
    case round =>
     clear hwo
     obtain ⟨i', xs, hi', rfl, hwi, hrow, hrw⟩ := hrel
     have HO := Lib.hid hrow
     have HW := Lib.hid hrw
     have hzi := hwi.size
     clear hrow hrw
     by_cases hir : i' < r
     ·have hiri : (i' : Int) < (r : Int) := by omega
      have hR := HR5.out.below hk
      obtain ⟨hgz, B2, m2, c2, hc2, hmc2, hcm2, hI2⟩ := row_first hR hir
      have hm2e : f = m2 := by rw [← hI2.len]; exact (HMM.out.1.row i' hir).1.symm
      subst hm2e
      have hcr := (World.cell?_of_block (w := wo) (a := ⟨g, i', none⟩) (hwi.block g hgz)).trans hc2
      have hgzr : g < wr.heap.size := Nat.lt_of_lt_of_le hgz hzi
      have hjc : (j : Int) ≤ (c2 : Int) := by omega
      obtain ⟨b2, o2, rfl, hb2, _⟩ := hI2.row (by omega)
      have HI2 := Lib.hid ((hI2.take hj).below hwi)
      have hal : Below wr.heap.size wr (wr.alloc (.cells #[.slice (some ⟨b2, o2, none⟩) j c2] 22)) := (Below.refl _ _).alloc (Nat.le_refl _) _
      clear hR hc2 hI2
      go_wp2_with (at_builtin; refine wpList_append_lies _ rfl _ _ _ (by rfl) wo.heap.size 22 i1 (.slice none 0 0) 1 24 Tryz.underlying25 hi1 hy0 hy1 hy2' rfl (by omega) _ i' xs (by rfl) (HO.out.alloc _) ⟨wr.heap.size, 0, none⟩ 1 1 [.slice (some ⟨b2, o2, none⟩) j c2] (by rfl) rfl ?c1 ?c2 (by omega) ?c3 ?c4 ?c5 (wr.heap.size + 1) (by simp) ?_)
      case c1 => exact World.news_of_block (heap_alloc_new wr _)
      case c2 => intro u hu; simp at hu; subst hu; rfl
      case c3 => unfold maxLen; omega
      case c4 => omega
      case c5 => simp; omega
      intro gg cg w7 ho7 hg7 hat hlt7
      have hob : ∀ b, _ = some b → wo.heap.size ≤ b := fun b hb => ownBlock_ge HO.out hb
      have B7 := Lib.hid (Below.grown (hwi.trans (hal.mono hzi)) hg7 (by simp; omega) (fun b hb => hob b hb))
      have hq : RowsW (fun b => b < wo.heap.size) w7 (xs ++ [.slice (some ⟨b2, o2, none⟩) j c2]) (partP M j (i' + 1)) := by
       rw [partP_next (by rw [HMM.out.1.len]; exact hir)]
       have q := RowsW.snoc (X := fun b => b < wo.heap.size) HW.out (show j ≤ c2 by omega) hcm2 (fun b off e => by cases e; exact ⟨by omega, hb2⟩) HI2.out
       exact q.move (by have := hg7.size; simp at this; omega) fun b hlt hX => ⟨(hg7.block b (by simp; omega) (fun e => by have := hob b e.symm; have hX : b < wo.heap.size := hX; omega)).trans (hal.block b hlt), hX⟩
      have HQ7 := Lib.hid hq
      have HO7 := Lib.hid ho7
      clear ho7 hg7 hat hob hal hlt7 hq hcr HI2
      go_wp2
      go_roundw
      case rel => exact ⟨i' + 1, _, by omega, by go_num, B7.out, HO7.out, HQ7.out⟩
      case measure => simp [intOf]; omega
     ·obtain rfl : i' = r := by omega
      obtain ⟨A2, c2, rfl, g1, g2, g3, -⟩ := rows_of_row HO.out HW.out (partP_len (by rw [HMM.out.1.len]; exact Nat.le_refl _))
      have hp := HKER.out.2.2.2 j hj
      have q2 := matrix_Rank c2 g3 (fun h => rank_fine h)
      rw [hp.1, hp.2] at q2
      obtain ⟨ra, hra⟩ : ∃ t, rankA M j = t := ⟨_, rfl⟩
      rw [hra] at q2
      have Q2 := Lib.hid q2
      have hfj := HKER.out.2.2.1 j hj
      rw [hra] at hfj
      have HFJ := Lib.hid hfj
      have hkr := hk.trans (hwi.mono hzk)
      clear g3 q2 hp hra hfj HO HW hwi hzi
      go_wp2_with fail
      refine Calls.mono Q2.out ?_
      rintro e w7 ⟨rfl, hb⟩
      have hk7 := hkr.trans (hb.mono hkr.size)
      clear hb hkr Q2
      obtain ⟨j1, hj1⟩ : ∃ j1 : Nat, (j : Int) - 1 = j1 := ⟨j - 1, by omega⟩
      have hj1m : j1 ≤ f := by omega
      have hj1l : j1 + 1 = j := by omega
      have HJ1 := Lib.hid hj1l
      clear hj1l
      by_cases hrj : ra < j
      ·have hrji : (ra : Int) < (j : Int) := by omega
       go_wp2
       go_roundw
       case rel => exact ⟨j1, j1, hj1m, rfl, rfl, by have := HFJ.out.1 hrj; have := HJ1.out; omega, hk7⟩
       case measure => simp [intOf]; have := HJ1.out; omega
      ·have hrji : ¬ (ra : Int) < (j : Int) := by omega
       go_wp2
       go_roundw
       case rel => exact ⟨j1, t, hj1m, rfl, rfl, by
        have h1 := HT.out
        have h2 := HJ1.out
        have h3 : ¬ f < j := fun h => hrj (HFJ.out.2 h)
        omega, hk7⟩
       case measure => simp [intOf]; have := HJ1.out; omega
   ·obtain rfl : j = 0 := by omega
    have htf : f = t := by have := HT.out; omega
    subst htf
    have hE := hw5.trans (hk.mono hw5.size)
    go_wp2
    go_ret
    exact ⟨rfl, hE⟩
end Go.Proofs.YtflgngjocgiojaaGreat
