/- Plain: the step of Bareiss's elimination on determinants. No program in sight. -/
import Derived.Test.YtflgngjocgiojaaGreatRefI
import Derived.Test.YtflgngjocgiojaaGreatMatN
import Derived.Test.YtflgngjocgiojaaGreatNumM
namespace Go.Proofs.YtflgngjocgiojaaGreat
open Go.RowKit

theorem num_sameR {w : World} {v1 v2 : Value} {z : Int} (h1 : NumAt w v1 z) (h2 : NumAt w v2 z) : Calls Tryz.prog 77 #[v1, v2] w fun r w' => r = .returned (.bool true) ∧ Below w.heap.size w w' := by
 have q := num_sameQ h1 h2
 rw [decide_eq_true rfl] at q
 exact q
def sameA (P Q : Nat → QI) : Nat → Bool
 | 0 => true
 | k + 1 => sameA P Q k && (decide ((P k).1 = (Q k).1) && decide ((P k).2 = (Q k).2))
theorem sameA_no {P Q : Nat → QI} {k : Nat} (h : (decide ((P k).1 = (Q k).1) && decide ((P k).2 = (Q k).2)) = false) : ∀ n, k < n → sameA P Q n = false
 | 0, hn => absurd hn (Nat.not_lt_zero k)
 | n + 1, hn => by
  rw [sameA]
  by_cases e : k = n
  ·subst e; rw [h, Bool.and_false]
  ·rw [sameA_no h n (by omega), Bool.false_and]
theorem sameA_eq {P Q : Nat → QI} : ∀ n, (∀ k, k < n → P k = Q k) → sameA P Q n = true
 | 0, _ => rfl
 | n + 1, h => by rw [sameA, sameA_eq n (fun k hk => h k (by omega)), h n (by omega)]; simp
theorem RatAt.keeps {w u : World} {v : Value} {p q : Int} (h : RatAt w v p q) (hk : Keeps [] w u) : RatAt u v p q := by
 obtain ⟨s1, A1, n1, c1, s2, A2, n2, c2, e, h1, h2⟩ := h
 exact ⟨s1, A1, n1, c1, s2, A2, n2, c2, e, h1.keeps hk, h2.keeps hk⟩
set_option maxRecDepth 100000 in
set_option maxHeartbeats 4000000 in
theorem ref3_SameAll {w : World} {A1 A2 : Option Addr} {n : Nat} {P Q : Nat → QI} (c1 c2 : Nat) (h1 : RatsA w A1 n P) (h2 : RatsA w A2 n Q) (hn : n ≤ 1000) :
  Calls Tryz.prog 18 #[.slice A1 n c1, .slice A2 n c2] w fun r w' => r = .returned (.bool (sameA P Q n)) ∧ Below w.heap.size w w' := by
 obtain ⟨o, ho⟩ : ∃ o, sameA P Q n = o := ⟨_, rfl⟩
 rw [ho]
 have HO := Lib.hid ho
 have H1 := Lib.hid h1
 have H2 := Lib.hid h2
 have hni : (n : Int) ≤ 1000 := by omega
 have hself : ((n : Int) != (n : Int)) = false := by simp
 clear ho h1 h2
 go_enter Tryz.func18, Tryz.ntmps18
 go_wp2
 have hw := Below.refl w.heap.size w
 go_loopw [5] (fun i wr => ∃ k : Nat, k ≤ n ∧ i = .int .i64 k ∧ sameA P Q k = true ∧ Below w.heap.size w wr) (fun i _ => n - (intOf i).toNat)
 case atStart => exact ⟨0, by omega, rfl, rfl, hw⟩
 case round =>
  clear hw
  obtain ⟨k, hk, rfl, hs, hw⟩ := hrel
  have HS := Lib.hid hs
  have hz := hw.size
  clear hs
  by_cases hkn : k < n
  ·have hkni : (k : Int) < (n : Int) := by omega
   obtain ⟨b, off, hA, _⟩ := H1.out (by omega)
   obtain ⟨b2, off2, hA2, _⟩ := H2.out (by omega)
   subst hA
   subst hA2
   obtain ⟨hb, s1, B1, n1, d1, s2, B2, n2, d2, a1, a2, a3, a4, hr⟩ := (H1.out.below hw).at_ hkn
   obtain ⟨hb2, s3, B3, n3, d3, s4, B4, n4, d4, a5, a6, a7, a8, hr2⟩ := (H2.out.below hw).at_ hkn
   obtain ⟨q, hq⟩ : ∃ q, (decide ((P k).1 = (Q k).1) && decide ((P k).2 = (Q k).2)) = q := ⟨_, rfl⟩
   have HQ := Lib.hid hq
   have HR := Lib.hid hr
   have HR2 := Lib.hid hr2
   clear hq hr hr2
   go_wp2
   refine region_late 10 [] (by kernel_rfl) (by kernel_rfl) (by rfl) ?_
   apply Exists.intro
   refine ⟨fun v hv hne => ?_, fun u hu => ?_⟩
   ·simp only [List.take_succ_cons, List.take_zero]
    have f1 := fun x : Later [] wr v => (x.cell b (off + k * 4) hb (by simp)).trans a1
    have f2 := fun x : Later [] wr v => (x.cell b (off + k * 4 + 1) hb (by simp)).trans a2
    have f3 := fun x : Later [] wr v => (x.cell b (off + k * 4 + 2) hb (by simp)).trans a3
    have f4 := fun x : Later [] wr v => (x.cell b (off + k * 4 + 3) hb (by simp)).trans a4
    have f5 := fun x : Later [] wr v => (x.cell b2 (off2 + k * 4) hb2 (by simp)).trans a5
    have f6 := fun x : Later [] wr v => (x.cell b2 (off2 + k * 4 + 1) hb2 (by simp)).trans a6
    have f7 := fun x : Later [] wr v => (x.cell b2 (off2 + k * 4 + 2) hb2 (by simp)).trans a7
    have f8 := fun x : Later [] wr v => (x.cell b2 (off2 + k * 4 + 3) hb2 (by simp)).trans a8
    have L1 := fun x : Later [] wr v => RatAt.keeps HR.out x.h
    have L2 := fun x : Later [] wr v => RatAt.keeps HR2.out x.h
    repeat (go_big_quiet_step ((go_at_call 29; with_reducible exact lateB (callv (ref3_Same (L1 _) (L2 _)) (congrArg Value.bool HQ.out)))))
    refine wpQuiet_nil ?_
    exact rfl
   simp only [List.drop_succ_cons, List.drop_zero]
   refine late_nil ?_
   (try simp only [Act.put, List.setIfInBounds_toArray, List.set_cons_zero, List.set_cons_succ])
   have hw2 := hw.trans (hu.mono hz)
   clear a1 a2 a3 a4 a5 a6 a7 a8 hb hb2 hu
   cases q
   ·have hof : o = false := by rw [← HO.out]; exact sameA_no HQ.out n hkn
    subst hof
    go_wp2
    go_ret
    exact ⟨rfl, hw2⟩
   ·go_wp2
    go_roundw
    case rel => exact ⟨k + 1, by omega, by go_num, by rw [sameA, HS.out, HQ.out]; rfl, hw2⟩
    case measure => simp [intOf]; omega
  ·obtain rfl : k = n := by omega
   have hot : o = true := by rw [← HO.out]; exact HS.out
   subst hot
   go_wp2
   go_ret
   exact ⟨rfl, hw⟩
theorem NumsX.at_ {X : Nat → Prop} {w : World} {b off n : Nat} {Z : List Int} (h : NumsX X w (some ⟨b, off, none⟩) n Z) {i : Nat} (hi : i < n) : b < w.heap.size ∧ ∃ s B m c, w.cell? ⟨b, off + i * 2, none⟩ = some (.bool s) ∧ w.cell? ⟨b, off + i * 2 + 1, none⟩ = some (.slice B m c) ∧ NumAt w (.agg #[.bool s, .slice B m c]) (zAt Z i) := by
 obtain ⟨b', off', e, hlt, _, hc⟩ := h.row (by omega)
 cases e
 obtain ⟨s, B, m, c, e1, e2, _, h1⟩ := hc i hi
 exact ⟨hlt, s, B, m, c, e1, e2, h1⟩
set_option maxRecDepth 100000 in
set_option maxHeartbeats 4000000 in
theorem law05_nums {w : World} {X : Nat → Prop} {A B : Option Addr} {n : Nat} {Z : List Int} (c c2 : Nat) (h : NumsX X w A n Z) (hI : IntsAt w B n Z) (hn : n ≤ 1000) :
  Calls Tryz.prog 32 #[.slice A n c, .slice B n c2] w fun r w' => r = .returned (.bool true) ∧ Below w.heap.size w w' := by
 have H1 := Lib.hid h
 have H2 := Lib.hid hI
 have hni : (n : Int) ≤ 1000 := by omega
 have hself : ((n : Int) != (n : Int)) = false := by simp
 clear h hI
 go_enter Tryz.func32, Tryz.ntmps32
 go_wp2
 have hw := Below.refl w.heap.size w
 go_loopw [13] (fun i wr => ∃ k : Nat, k ≤ n ∧ i = .int .i64 k ∧ Below w.heap.size w wr) (fun i _ => n - (intOf i).toNat)
 case atStart => exact ⟨0, by omega, rfl, hw⟩
 case round =>
  clear hw
  obtain ⟨k, hk, rfl, hw⟩ := hrel
  have hz := hw.size
  by_cases hkn : k < n
  ·have hkni : (k : Int) < (n : Int) := by omega
   obtain ⟨b, off, hA, _⟩ := H1.out.row (by omega)
   obtain ⟨b2, off2, hA2, _⟩ := H2.out.row (by omega)
   subst hA
   subst hA2
   obtain ⟨hb, s1, B1, n1, d1, a1, a2, hr⟩ := (H1.out.below hw).at_ hkn
   obtain ⟨b', off', e', hb2, hc2⟩ := (H2.out.below hw).row (by omega)
   cases e'
   have a3 := hc2 k hkn
   have hz3 := H2.out.ok k (by rw [H2.out.len]; exact hkn)
   have e3 : zAt Z k = iAt Z k := rfl
   rw [e3] at hr
   obtain ⟨z, hzz⟩ : ∃ z, iAt Z k = z := ⟨_, rfl⟩
   rw [hzz] at hr a3 hz3
   have HZ := Lib.hid (And.intro hz3.1 (And.intro hz3.2 (show fits z = true from fits_small (by omega))))
   have HR := Lib.hid hr
   clear hr hz3 hzz hc2
   go_wp2
   refine region_gen (T := []) [.make 8 [] (numCB [] z), .need 9 [8]] 11 0 40 (fun _ _ => True) (fun _ _ _ _ _ => trivial) trivial (by kernel_rfl) (by kernel_rfl) (by rfl) ?_
   unfold genWalk
   apply Exists.intro
   apply And.intro
   ·apply Piece.mk
    ·intro f v hv hr hne
     simp only [List.take_succ_cons, List.take_zero, List.drop_zero, Nat.reduceSub]
     have f1 := fun x : Later [] wr v => (x.cell b (off + k * 2) hb (by simp)).trans a1
     have f2 := fun x : Later [] wr v => (x.cell b (off + k * 2 + 1) hb (by simp)).trans a2
     have f3 := fun x : Later [] wr v => (x.cell b2 (off2 + k) hb2 (by simp)).trans a3
     repeat (go_big_quiet_step (fail))
     refine wpQuiet_nil ?_
     exact rfl
    ·intro f; kernel_rfl
    ·intro f f' hf; kernel_rfl
   simp only [List.take_succ_cons, List.take_zero, List.drop_succ_cons, List.drop_zero, Nat.reduceAdd, oneOp]
   refine ⟨fun f => ⟨rfl, fun u hu _ => ?_⟩, ?_⟩
   ·refine make_call (f := 78) (args := #[.int .i64 z]) (by (try simp only [Act.put, List.setIfInBounds_toArray, List.set_cons_zero, List.set_cons_succ]); (try simp only [newB_val, numB_val, ownB_val, numCB_val]); go_simp) ?_
    have q := ref1_Of (w := u) z HZ.out.1 HZ.out.2.1
    refine q.mono ?_
    rintro e wx ⟨⟨b, C, rfl, q1, q2, q3⟩, hbx⟩
    exact ⟨(b, C), rfl, q2, q3, hbx, by simp, q1⟩
   unfold genWalk
   apply Exists.intro
   apply And.intro
   ·apply Piece.mk
    ·intro f v hv hr hne
     simp only [List.take_zero, List.drop_succ_cons, List.drop_zero, Nat.reduceSub]
     (try simp only [Act.put, List.setIfInBounds_toArray, List.set_cons_zero, List.set_cons_succ])
     (try simp only [numCB_val])
     repeat (go_big_quiet_step (fail))
     refine wpQuiet_nil ?_
     exact rfl
    ·intro f; kernel_rfl
    ·intro f f' hf; simp
   unfold genWalk
   apply Exists.intro
   apply And.intro
   ·apply Piece.mk
    ·intro f v hv hr hne
     simp only [List.take_succ_cons, List.take_zero, List.drop_succ_cons, List.drop_zero, Nat.reduceSub]
     (try simp only [Act.put, List.setIfInBounds_toArray, List.set_cons_zero, List.set_cons_succ])
     (try simp only [newB_val, numB_val, ownB_val, numCB_val])
     have h8 : NumC v (f 8).1 (f 8).2 z := (hr 8 (by simp)).2
     have k8 := fun x : Later [] wr v => (h8.below x.g).at_ HZ.out.2.2
     have L1 := fun x : Later [] wr v => NumAt.keeps HR.out x.h
     repeat (go_big_quiet_step ((go_at_call 77; with_reducible exact lateB (num_sameR (L1 _) (k8 _)))))
     refine wpQuiet_nil ?_
     exact rfl
    ·intro f; kernel_rfl
    ·intro f f' hf; first | (simp; done) | (simp [hf 8 (by simp)])
   intro f u' hup hph hmade hdist
   refine effc_nil ?_
   simp only
   (try simp only [Act.put, List.setIfInBounds_toArray, List.set_cons_zero, List.set_cons_succ])
   (try simp only [newB_val, numB_val, ownB_val, numCB_val])
   clear hmade hdist hph
   have hw2 : Below w.heap.size w u' := Upd.below hw hup (by simp)
   generalize numC z (f 8).1 (f 8).2 = y8 at *
   clear f hup a1 a2 a3 hb hb2
   go_wp2
   go_roundw
   case rel => exact ⟨k + 1, by omega, by go_num, hw2⟩
   case measure => simp [intOf]; omega
  ·obtain rfl : k = n := by omega
   go_wp2
   go_ret
   exact ⟨rfl, hw⟩
end Go.Proofs.YtflgngjocgiojaaGreat
namespace Go.Proofs.YtflgngjocgiojaaGreat

def sumF (f : Nat → Int) : Nat → Int
 | 0 => 0
 | n + 1 => sumF f n + f n
theorem sumF_eq {f g : Nat → Int} : ∀ {n : Nat}, (∀ i, i < n → f i = g i) → sumF f n = sumF g n
 | 0, _ => rfl
 | n + 1, h => by rw [sumF, sumF, sumF_eq (fun i hi => h i (by omega)), h n (by omega)]
theorem sumF_zero {f : Nat → Int} : ∀ {n : Nat}, (∀ i, i < n → f i = 0) → sumF f n = 0
 | 0, _ => rfl
 | n + 1, h => by rw [sumF, sumF_zero (fun i hi => h i (by omega)), h n (by omega)]; rfl
theorem sumF_add (f g : Nat → Int) : ∀ n, sumF (fun i => f i + g i) n = sumF f n + sumF g n
 | 0 => rfl
 | n + 1 => by rw [sumF, sumF, sumF, sumF_add f g n]; omega
theorem sumF_mul (c : Int) (f : Nat → Int) : ∀ n, sumF (fun i => c * f i) n = c * sumF f n
 | 0 => by simp [sumF]
 | n + 1 => by rw [sumF, sumF, sumF_mul c f n, Int.mul_add]
theorem sumF_neg (f : Nat → Int) : ∀ n, sumF (fun i => -f i) n = -sumF f n
 | 0 => rfl
 | n + 1 => by rw [sumF, sumF, sumF_neg f n]; omega
theorem sumF_swap (f : Nat → Nat → Int) (m : Nat) : ∀ n, sumF (fun i => sumF (f i) m) n = sumF (fun k => sumF (fun i => f i k) n) m
 | 0 => by rw [sumF]; exact (sumF_zero (fun _ _ => rfl)).symm
 | n + 1 => by
  rw [sumF, sumF_swap f m n, ← sumF_add]
  rfl
def skip (i a : Nat) : Nat := if a < i then a else a + 1
theorem sumF_skip (f : Nat → Int) : ∀ {n i : Nat}, i ≤ n → sumF (fun k => f (skip i k)) n + f i = sumF f (n + 1)
 | 0, i, h => by
  obtain rfl : i = 0 := by omega
  simp [sumF]
 | n + 1, i, h => by
  rw [sumF, sumF]
  by_cases e : i = n + 1
  ·subst e
   rw [show skip (n + 1) n = n by unfold skip; rw [if_pos (by omega)]]
   have : sumF (fun k => f (skip (n + 1) k)) n = sumF f n := sumF_eq fun k hk => by unfold skip; rw [if_pos (by omega)]
   rw [this]; rfl
  ·rw [show skip i n = n + 1 by unfold skip; rw [if_neg (by omega)]]
   have := sumF_skip f (n := n) (i := i) (by omega)
   omega
/-- 1 or -1. -/
def sg1 (k : Nat) : Int := if k % 2 = 0 then 1 else -1
theorem sg1_succ (k : Nat) : sg1 (k + 1) = -sg1 k := by
 unfold sg1
 by_cases h : k % 2 = 0
 ·rw [if_pos h, if_neg (by omega)]
 ·rw [if_neg h, if_pos (by omega)]; rfl
theorem sg1_mul (a b : Nat) : sg1 a * sg1 b = sg1 (a + b) := by
 unfold sg1
 by_cases h1 : a % 2 = 0
 ·by_cases h2 : b % 2 = 0
  ·rw [if_pos h1, if_pos h2, if_pos (by omega)]; rfl
  ·rw [if_pos h1, if_neg h2, if_neg (by omega)]; rfl
 ·by_cases h2 : b % 2 = 0
  ·rw [if_neg h1, if_pos h2, if_neg (by omega)]; rfl
  ·rw [if_neg h1, if_neg h2, if_pos (by omega)]; rfl
theorem sg1_two (k : Nat) : sg1 (k + k) = 1 := by unfold sg1; rw [if_pos (by omega)]
theorem sg1_abs (k : Nat) : (sg1 k).natAbs = 1 := by unfold sg1; split <;> rfl
/-- The determinant of the first n rows and columns. -/
def det : Nat → (Nat → Nat → Int) → Int
 | 0, _ => 1
 | n + 1, M => sumF (fun i => sg1 (i + n) * M i n * det n (fun a b => M (skip i a) b)) (n + 1)
theorem det_eq : ∀ {n : Nat} {M N : Nat → Nat → Int}, (∀ a b, a < n → b < n → M a b = N a b) → det n M = det n N
 | 0, _, _, _ => rfl
 | n + 1, M, N, h => by
  rw [det, det]
  refine sumF_eq fun i hi => ?_
  rw [h i n hi (by omega), det_eq (N := fun a b => N (skip i a) b) fun a b ha hb => h _ _ (by unfold skip; split <;> omega) (by omega)]
/-- Columns j and j + 1 change places. -/
def swp (j : Nat) (M : Nat → Nat → Int) : Nat → Nat → Int := fun a b => M a (if b = j then j + 1 else if b = j + 1 then j else b)
def eps (i l : Nat) : Int := if l < i then sg1 (i + l + 1) else if i < l then sg1 (i + l) else 0
theorem eps_neg (i l : Nat) : eps l i = -eps i l := by
 unfold eps
 rcases Nat.lt_trichotomy i l with h | h | h
 ·rw [if_pos h, if_neg (by omega), if_pos h, Nat.add_comm l i, sg1_succ]
 ·subst h; rw [if_neg (by omega), if_neg (by omega)]; rfl
 ·rw [if_neg (by omega), if_pos h, if_pos h, Nat.add_comm l i, sg1_succ]; omega
/-- Without the rows i and l. -/
def two (i l a : Nat) : Nat := if i < l then skip l (skip i a) else skip i (skip l a)
theorem two_comm (i l a : Nat) (h : i ≠ l) : two i l a = two l i a := by
 unfold two
 by_cases h1 : i < l
 ·rw [if_pos h1, if_neg (by omega)]
 ·rw [if_neg h1, if_pos (by omega)]
theorem two_skip (i k a : Nat) : skip i (skip k a) = two i (skip i k) a := by
 unfold two skip
 repeat' split
 all_goals omega
theorem det_two (n : Nat) (M : Nat → Nat → Int) :
  det (n + 2) M = sumF (fun i => sumF (fun l => eps i l * M i (n + 1) * M l n * det n (fun a b => M (two i l a) b)) (n + 2)) (n + 2) := by
 rw [det]
 refine sumF_eq fun i hi => ?_
 have h0 : eps i i * M i (n + 1) * M i n * det n (fun a b => M (two i i a) b) = 0 := by
  rw [show eps i i = 0 by unfold eps; rw [if_neg (by omega), if_neg (by omega)]]
  simp
 have h1 := sumF_skip (fun l => eps i l * M i (n + 1) * M l n * det n (fun a b => M (two i l a) b)) (n := n + 1) (i := i) (by omega)
 rw [← h1, h0, Int.add_zero, det, ← sumF_mul]
 refine sumF_eq fun k hk => ?_
 have h2 : det n (fun a b => (fun a b => M (skip i a) b) (skip k a) b) = det n (fun a b => M (two i (skip i k) a) b) := det_eq fun a b _ _ => by rw [← two_skip]
 rw [h2]
 have h3 : eps i (skip i k) = sg1 (i + (n + 1)) * sg1 (k + n) := by
  have e : sg1 (i + (n + 1)) * sg1 (k + n) = sg1 (i + k + 1) := by
   rw [sg1_mul]
   unfold sg1
   by_cases h : (i + k + 1) % 2 = 0
   ·rw [if_pos h, if_pos (by omega)]
   ·rw [if_neg h, if_neg (by omega)]
  rw [e]
  unfold eps skip
  by_cases h : k < i
  ·rw [if_pos h, if_pos h]
  ·rw [if_neg h, if_neg (by omega), if_pos (by omega)]; rfl
 rw [h3]
 simp only [Int.mul_assoc, Int.mul_left_comm, Int.mul_comm]
theorem det_swp : ∀ {n j : Nat} {M : Nat → Nat → Int}, j + 1 ≤ n → det (n + 1) (swp j M) = -det (n + 1) M
 | 0, j, M, h => by omega
 | n + 1, j, M, h => by
  by_cases e : j + 1 = n + 1
  ·obtain rfl : j = n := by omega
   rw [det_two, det_two, ← sumF_neg, sumF_swap]
   refine sumF_eq fun i hi => ?_
   rw [← sumF_neg]
   refine sumF_eq fun l hl => ?_
   by_cases hil : i = l
   ·subst hil
    rw [show eps i i = 0 by unfold eps; rw [if_neg (by omega), if_neg (by omega)]]
    simp
   ·have h1 : swp j M l (j + 1) = M l j := by unfold swp; rw [if_neg (by omega), if_pos rfl]
    have h2 : swp j M i j = M i (j + 1) := by unfold swp; rw [if_pos rfl]
    have h3 : det j (fun a b => swp j M (two l i a) b) = det j (fun a b => M (two i l a) b) := det_eq fun a b _ hb => by
     unfold swp
     rw [if_neg (by omega), if_neg (by omega), two_comm l i a (fun h => hil h.symm)]
    rw [h1, h2, h3, eps_neg i l]
    simp only [Int.neg_mul, Int.mul_neg, Int.mul_assoc, Int.mul_left_comm, Int.mul_comm]
  ·rw [det, det, ← sumF_neg]
   refine sumF_eq fun i hi => ?_
   have h1 : swp j M i (n + 1) = M i (n + 1) := by unfold swp; rw [if_neg (by omega), if_neg (by omega)]
   have h2 : det (n + 1) (fun a b => swp j M (skip i a) b) = -det (n + 1) (fun a b => M (skip i a) b) := det_swp (n := n) (j := j) (M := fun a b => M (skip i a) b) (by omega)
   rw [h1, h2, Int.mul_neg]
/-- Two equal columns, one of them the last. -/
theorem det_same : ∀ (d : Nat) {n j : Nat} {M : Nat → Nat → Int}, j + 1 + d = n → (∀ a, M a j = M a n) → det (n + 1) M = 0
 | 0, n, j, M, h, hc => by
  subst h
  have h1 := det_swp (n := j + 1 + 0) (j := j) (M := M) (Nat.le_refl _)
  have h2 : det (j + 1 + 0 + 1) (swp j M) = det (j + 1 + 0 + 1) M := det_eq fun a b _ _ => by
   unfold swp
   by_cases e : b = j
   ·subst e; rw [if_pos rfl]; exact (hc a).symm
   ·rw [if_neg e]
    by_cases e2 : b = j + 1
    ·subst e2; rw [if_pos rfl]; exact hc a
    ·rw [if_neg e2]
  rw [h2] at h1
  omega
 | d + 1, n, j, M, h, hc => by
  have h1 := det_swp (n := n) (j := j) (M := M) (by omega)
  have h2 := det_same d (n := n) (j := j + 1) (M := swp j M) (by omega) (fun a => by
   unfold swp
   rw [if_neg (by omega), if_pos rfl, if_neg (by omega), if_neg (by omega)]
   exact hc a)
  rw [h2] at h1
  omega
theorem det_same' {n j : Nat} {M : Nat → Nat → Int} (hj : j < n) (hc : ∀ a, M a j = M a n) : det (n + 1) M = 0 := det_same (n - j - 1) (by omega) hc
def fac : Nat → Nat
 | 0 => 1
 | n + 1 => (n + 1) * fac n
theorem sumF_abs {f : Nat → Int} {B : Nat} : ∀ {n : Nat}, (∀ i, i < n → (f i).natAbs ≤ B) → (sumF f n).natAbs ≤ n * B
 | 0, _ => by simp [sumF]
 | n + 1, h => by
  rw [sumF]
  have h1 := sumF_abs (n := n) (fun i hi => h i (by omega))
  have h2 := h n (by omega)
  have h3 := Int.natAbs_add_le (sumF f n) (f n)
  rw [Nat.succ_mul]
  omega
theorem det_abs {B : Nat} : ∀ {n : Nat} {M : Nat → Nat → Int}, (∀ a b, a < n → b < n → (M a b).natAbs ≤ B) → (det n M).natAbs ≤ fac n * B ^ n
 | 0, _, _ => by simp [det, fac]
 | n + 1, M, h => by
  rw [det]
  have := sumF_abs (f := fun i => sg1 (i + n) * M i n * det n (fun a b => M (skip i a) b)) (B := B * (fac n * B ^ n)) (n := n + 1) (fun i hi => by
   rw [Int.natAbs_mul, Int.natAbs_mul, sg1_abs, Nat.one_mul]
   exact Nat.mul_le_mul (h i n hi (by omega)) (det_abs fun a b ha hb => h _ _ (by unfold skip; split <;> omega) (by omega)))
  refine Nat.le_trans this (Nat.le_of_eq ?_)
  rw [fac, Nat.pow_succ]
  simp only [Nat.mul_assoc, Nat.mul_left_comm, Nat.mul_comm]
end Go.Proofs.YtflgngjocgiojaaGreat
namespace Go.Proofs.YtflgngjocgiojaaGreat

/-- The rows O 0 .. O (a - 1) and r, the columns cs 0 .. cs (a - 1) and j. -/
def minV (a : Nat) (O : Nat → Nat → Int) (cs : Nat → Nat) (r : Nat → Int) (j : Nat) : Int := det (a + 1) (fun i b => (if i < a then O i else r) (if b < a then cs b else j))
def minD (a : Nat) (O : Nat → Nat → Int) (cs : Nat → Nat) : Int := det a (fun i b => O i (cs b))
theorem minV_comb (a : Nat) (O : Nat → Nat → Int) (cs : Nat → Nat) (r : Nat → Int) : ∃ γ : Nat → Int, ∀ j, minV a O cs r j = minD a O cs * r j + sumF (fun i => γ i * O i j) a := by
 refine ⟨fun i => sg1 (i + a) * det a (fun x b => (if skip i x < a then O (skip i x) else r) (cs b)), fun j => ?_⟩
 unfold minV
 rw [det, sumF, Int.add_comm]
 congr 1
 ·simp only [if_neg (Nat.lt_irrefl a)]
  have h1 : det a (fun x b => (if skip a x < a then O (skip a x) else r) (if b < a then cs b else j)) = minD a O cs := det_eq fun x b hx hb => by
   have e : skip a x = x := by unfold skip; rw [if_pos hx]
   rw [e, if_pos hx, if_pos hb]
  rw [h1, sg1_two, Int.one_mul, Int.mul_comm]
 ·refine sumF_eq fun i hi => ?_
  simp only [if_pos hi, if_neg (Nat.lt_irrefl a)]
  have h1 : det a (fun x b => (if skip i x < a then O (skip i x) else r) (if b < a then cs b else j)) = det a (fun x b => (if skip i x < a then O (skip i x) else r) (cs b)) := det_eq fun x b _ hb => by rw [if_pos hb]
  rw [h1]
  simp only [Int.mul_assoc, Int.mul_comm]
theorem minV_zero {a : Nat} {O : Nat → Nat → Int} {cs : Nat → Nat} {r : Nat → Int} {t : Nat} (h : t < a) : minV a O cs r (cs t) = 0 := by
 unfold minV
 refine det_same' (j := t) h fun x => ?_
 rw [if_pos h, if_neg (Nat.lt_irrefl a)]
theorem minV_self (a : Nat) (O : Nat → Nat → Int) (cs : Nat → Nat) : minV a O cs (O a) (cs a) = minD (a + 1) O cs := by
 unfold minV minD
 refine det_eq fun i b hi hb => ?_
 by_cases h1 : i < a
 ·by_cases h2 : b < a
  ·rw [if_pos h1, if_pos h2]
  ·rw [if_pos h1, if_neg h2, show b = a by omega]
 ·by_cases h2 : b < a
  ·rw [if_neg h1, if_pos h2, show i = a by omega]
  ·rw [if_neg h1, if_neg h2, show i = a by omega, show b = a by omega]
/-- Rows whose leading minors are not 0 are independent on these columns. -/
theorem indep {O : Nat → Nat → Int} {cs : Nat → Nat} : ∀ {a : Nat}, (∀ t, t ≤ a → minD t O cs ≠ 0) → ∀ δ : Nat → Int, (∀ t, t < a → sumF (fun i => δ i * O i (cs t)) a = 0) → ∀ i, i < a → δ i = 0
 | 0, _, _, _, i, hi => by omega
 | a + 1, hd, δ, hz, i, hi => by
  obtain ⟨γ, hγ⟩ := minV_comb a O cs (O a)
  have key : ∀ j, sumF (fun i => (minD a O cs * δ i - δ a * γ i) * O i j) a = minD a O cs * sumF (fun i => δ i * O i j) (a + 1) - δ a * minV a O cs (O a) j := fun j => by
   have h1 : sumF (fun i => (minD a O cs * δ i - δ a * γ i) * O i j) a = minD a O cs * sumF (fun i => δ i * O i j) a - δ a * sumF (fun i => γ i * O i j) a := by
    rw [← sumF_mul, ← sumF_mul, Int.sub_eq_add_neg, ← sumF_neg, ← sumF_add]
    refine sumF_eq fun i _ => ?_
    grind
   rw [h1, hγ j, sumF]
   grind
  have ih := indep (a := a) (fun t ht => hd t (by omega)) (fun i => minD a O cs * δ i - δ a * γ i) (fun t ht => by
   rw [key, hz t (by omega), minV_zero ht]
   simp)
  have h2 := key (cs a)
  rw [hz a (by omega), minV_self, sumF_zero (fun i hi => by
   have := ih i hi
   rw [this, Int.zero_mul])] at h2
  have h3 : δ a * minD (a + 1) O cs = 0 := by omega
  have ha : δ a = 0 := by
   rcases Int.mul_eq_zero.1 h3 with h | h
   ·exact h
   ·exact absurd h (hd (a + 1) (Nat.le_refl _))
  by_cases e : i = a
  ·subst e; exact ha
  ·have h4 := ih i (by omega)
   rw [ha, Int.zero_mul, Int.sub_zero] at h4
   rcases Int.mul_eq_zero.1 h4 with h | h
   ·exact absurd h (hd a (by omega))
   ·exact h
/-- The step. -/
theorem bareiss {O : Nat → Nat → Int} {cs : Nat → Nat} {a : Nat} (hd : ∀ t, t ≤ a + 1 → minD t O cs ≠ 0) (r : Nat → Int) (j : Nat) :
  minD (a + 1) O cs * minV a O cs r j - minV a O cs r (cs a) * minV a O cs (O a) j = minD a O cs * minV (a + 1) O cs r j := by
 obtain ⟨γr, hr⟩ := minV_comb a O cs r
 obtain ⟨γk, hk⟩ := minV_comb a O cs (O a)
 obtain ⟨β, hβ⟩ := minV_comb (a + 1) O cs r
 have key : ∀ j, minD (a + 1) O cs * minV a O cs r j - minV a O cs r (cs a) * minV a O cs (O a) j - minD a O cs * minV (a + 1) O cs r j =
   sumF (fun i => (if i < a then minD (a + 1) O cs * γr i - minV a O cs r (cs a) * γk i - minD a O cs * β i else -(minV a O cs r (cs a) * minD a O cs) - minD a O cs * β a) * O i j) (a + 1) := fun j => by
  have h1 : sumF (fun i => (if i < a then minD (a + 1) O cs * γr i - minV a O cs r (cs a) * γk i - minD a O cs * β i else -(minV a O cs r (cs a) * minD a O cs) - minD a O cs * β a) * O i j) a =
    minD (a + 1) O cs * sumF (fun i => γr i * O i j) a + (-(minV a O cs r (cs a)) * sumF (fun i => γk i * O i j) a + (-(minD a O cs)) * sumF (fun i => β i * O i j) a) := by
   rw [← sumF_mul, ← sumF_mul, ← sumF_mul, ← sumF_add, ← sumF_add]
   refine sumF_eq fun i hi => ?_
   rw [if_pos hi]
   grind
  rw [sumF, h1, if_neg (Nat.lt_irrefl a), hr j, hk j, hβ j, sumF]
  grind
 have hz := indep (a := a + 1) hd _ (fun t ht => by
  rw [← key]
  by_cases e : t = a
  ·subst e
   rw [minV_self, minV_zero (a := t + 1) (t := t) (by omega)]
   grind
  ·rw [minV_zero (a := a) (t := t) (by omega), minV_zero (a := a) (t := t) (by omega), minV_zero (a := a + 1) (t := t) (by omega)]
   simp)
 have h2 := key j
 rw [sumF_zero (fun i hi => by rw [hz i hi, Int.zero_mul])] at h2
 omega
end Go.Proofs.YtflgngjocgiojaaGreat
