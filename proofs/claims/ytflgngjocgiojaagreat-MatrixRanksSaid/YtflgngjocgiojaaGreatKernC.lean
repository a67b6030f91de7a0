/- Plain: Kernel's vector is sent to 0 by every row. -/
import Derived.Test.YtflgngjocgiojaaGreatRefI
import Derived.Test.YtflgngjocgiojaaGreatMatN
import Derived.Test.YtflgngjocgiojaaGreatRankC
import Derived.Test.YtflgngjocgiojaaGreatMatL
import Derived.Test.YtflgngjocgiojaaGreatStep
namespace Go.Proofs.YtflgngjocgiojaaGreat
open Go.RowKit

theorem num_sameR {w : World} {v1 v2 : Value} {z : Int} (h1 : NumAt w v1 z) (h2 : NumAt w v2 z) : Calls Tryz.prog 77 #[v1, v2] w fun r w' => r = .returned (.bool true) ∧ Below w.heap.size w w' := by
 have q := num_sameQ h1 h2
 rw [decide_eq_true rfl] at q
 exact q
def sameA (P Q : Nat → QI) : Nat → Bool
 | 0 => true
 | k + 1 => sameA P Q k && (decide ((P k).1 = (Q k).1) && decide ((P k).2 = (Q k).2))
theorem sameA_no {P Q : Nat → QI} {k : Nat} (h : (decide ((P k).1 = (Q k).1) && decide ((P k).2 = (Q k).2)) = false) : ∀ n, k < n → sameA P Q n = false
 | 0, hn => absurd hn (Nat.not_lt_zero k)
 | n + 1, hn => by
  rw [sameA]
  by_cases e : k = n
  ·subst e; rw [h, Bool.and_false]
  ·rw [sameA_no h n (by omega), Bool.false_and]
theorem sameA_eq {P Q : Nat → QI} : ∀ n, (∀ k, k < n → P k = Q k) → sameA P Q n = true
 | 0, _ => rfl
 | n + 1, h => by rw [sameA, sameA_eq n (fun k hk => h k (by omega)), h n (by omega)]; simp
theorem RatAt.keeps {w u : World} {v : Value} {p q : Int} (h : RatAt w v p q) (hk : Keeps [] w u) : RatAt u v p q := by
 obtain ⟨s1, A1, n1, c1, s2, A2, n2, c2, e, h1, h2⟩ := h
 exact ⟨s1, A1, n1, c1, s2, A2, n2, c2, e, h1.keeps hk, h2.keeps hk⟩
set_option maxRecDepth 100000 in
set_option maxHeartbeats 4000000 in
theorem ref3_SameAll {w : World} {A1 A2 : Option Addr} {n : Nat} {P Q : Nat → QI} (c1 c2 : Nat) (h1 : RatsA w A1 n P) (h2 : RatsA w A2 n Q) (hn : n ≤ 1000) :
  Calls Tryz.prog 18 #[.slice A1 n c1, .slice A2 n c2] w fun r w' => r = .returned (.bool (sameA P Q n)) ∧ Below w.heap.size w w' := by
 obtain ⟨o, ho⟩ : ∃ o, sameA P Q n = o := ⟨_, rfl⟩
 rw [ho]
 have HO := Lib.hid ho
 have H1 := Lib.hid h1
 have H2 := Lib.hid h2
 have hni : (n : Int) ≤ 1000 := by omega
 have hself : ((n : Int) != (n : Int)) = false := by simp
 clear ho h1 h2
 go_enter Tryz.func18, Tryz.ntmps18
 go_wp2
 have hw := Below.refl w.heap.size w
 go_loopw [5] (fun i wr => ∃ k : Nat, k ≤ n ∧ i = .int .i64 k ∧ sameA P Q k = true ∧ Below w.heap.size w wr) (fun i _ => n - (intOf i).toNat)
 case atStart => exact ⟨0, by omega, rfl, rfl, hw⟩
 case round =>
  clear hw
  obtain ⟨k, hk, rfl, hs, hw⟩ := hrel
  have HS := Lib.hid hs
  have hz := hw.size
  clear hs
  by_cases hkn : k < n
  ·have hkni : (k : Int) < (n : Int) := by omega
   obtain ⟨b, off, hA, _⟩ := H1.out (by omega)
   obtain ⟨b2, off2, hA2, _⟩ := H2.out (by omega)
   subst hA
   subst hA2
   obtain ⟨hb, s1, B1, n1, d1, s2, B2, n2, d2, a1, a2, a3, a4, hr⟩ := (H1.out.below hw).at_ hkn
   obtain ⟨hb2, s3, B3, n3, d3, s4, B4, n4, d4, a5, a6, a7, a8, hr2⟩ := (H2.out.below hw).at_ hkn
   obtain ⟨q, hq⟩ : ∃ q, (decide ((P k).1 = (Q k).1) && decide ((P k).2 = (Q k).2)) = q := ⟨_, rfl⟩
   have HQ := Lib.hid hq
   have HR := Lib.hid hr
   have HR2 := Lib.hid hr2
   clear hq hr hr2
   go_wp2
   refine region_late 10 [] (by kernel_rfl) (by kernel_rfl) (by rfl) ?_
   apply Exists.intro
   refine ⟨fun v hv hne => ?_, fun u hu => ?_⟩
   ·simp only [List.take_succ_cons, List.take_zero]
    have f1 := fun x : Later [] wr v => (x.cell b (off + k * 4) hb (by simp)).trans a1
    have f2 := fun x : Later [] wr v => (x.cell b (off + k * 4 + 1) hb (by simp)).trans a2
    have f3 := fun x : Later [] wr v => (x.cell b (off + k * 4 + 2) hb (by simp)).trans a3
    have f4 := fun x : Later [] wr v => (x.cell b (off + k * 4 + 3) hb (by simp)).trans a4
    have f5 := fun x : Later [] wr v => (x.cell b2 (off2 + k * 4) hb2 (by simp)).trans a5
    have f6 := fun x : Later [] wr v => (x.cell b2 (off2 + k * 4 + 1) hb2 (by simp)).trans a6
    have f7 := fun x : Later [] wr v => (x.cell b2 (off2 + k * 4 + 2) hb2 (by simp)).trans a7
    have f8 := fun x : Later [] wr v => (x.cell b2 (off2 + k * 4 + 3) hb2 (by simp)).trans a8
    have L1 := fun x : Later [] wr v => RatAt.keeps HR.out x.h
    have L2 := fun x : Later [] wr v => RatAt.keeps HR2.out x.h
    repeat (go_big_quiet_step ((go_at_call 29; with_reducible exact lateB (callv (ref3_Same (L1 _) (L2 _)) (congrArg Value.bool HQ.out)))))
    refine wpQuiet_nil ?_
    exact rfl
   simp only [List.drop_succ_cons, List.drop_zero]
   refine late_nil ?_
   (try simp only [Act.put, List.setIfInBounds_toArray, List.set_cons_zero, List.set_cons_succ])
   have hw2 := hw.trans (hu.mono hz)
   clear a1 a2 a3 a4 a5 a6 a7 a8 hb hb2 hu
   cases q
   ·have hof : o = false := by rw [← HO.out]; exact sameA_no HQ.out n hkn
    subst hof
    go_wp2
    go_ret
    exact ⟨rfl, hw2⟩
   ·go_wp2
    go_roundw
    case rel => exact ⟨k + 1, by omega, by go_num, by rw [sameA, HS.out, HQ.out]; rfl, hw2⟩
    case measure => simp [intOf]; omega
  ·obtain rfl : k = n := by omega
   have hot : o = true := by rw [← HO.out]; exact HS.out
   subst hot
   go_wp2
   go_ret
   exact ⟨rfl, hw⟩
theorem NumsX.at_ {X : Nat → Prop} {w : World} {b off n : Nat} {Z : List Int} (h : NumsX X w (some ⟨b, off, none⟩) n Z) {i : Nat} (hi : i < n) : b < w.heap.size ∧ ∃ s B m c, w.cell? ⟨b, off + i * 2, none⟩ = some (.bool s) ∧ w.cell? ⟨b, off + i * 2 + 1, none⟩ = some (.slice B m c) ∧ NumAt w (.agg #[.bool s, .slice B m c]) (zAt Z i) := by
 obtain ⟨b', off', e, hlt, _, hc⟩ := h.row (by omega)
 cases e
 obtain ⟨s, B, m, c, e1, e2, _, h1⟩ := hc i hi
 exact ⟨hlt, s, B, m, c, e1, e2, h1⟩
set_option maxRecDepth 100000 in
set_option maxHeartbeats 4000000 in
theorem law05_nums {w : World} {X : Nat → Prop} {A B : Option Addr} {n : Nat} {Z : List Int} (c c2 : Nat) (h : NumsX X w A n Z) (hI : IntsAt w B n Z) (hn : n ≤ 1000) :
  Calls Tryz.prog 32 #[.slice A n c, .slice B n c2] w fun r w' => r = .returned (.bool true) ∧ Below w.heap.size w w' := by
 have H1 := Lib.hid h
 have H2 := Lib.hid hI
 have hni : (n : Int) ≤ 1000 := by omega
 have hself : ((n : Int) != (n : Int)) = false := by simp
 clear h hI
 go_enter Tryz.func32, Tryz.ntmps32
 go_wp2
 have hw := Below.refl w.heap.size w
 go_loopw [13] (fun i wr => ∃ k : Nat, k ≤ n ∧ i = .int .i64 k ∧ Below w.heap.size w wr) (fun i _ => n - (intOf i).toNat)
 case atStart => exact ⟨0, by omega, rfl, hw⟩
 case round =>
  clear hw
  obtain ⟨k, hk, rfl, hw⟩ := hrel
  have hz := hw.size
  by_cases hkn : k < n
  ·have hkni : (k : Int) < (n : Int) := by omega
   obtain ⟨b, off, hA, _⟩ := H1.out.row (by omega)
   obtain ⟨b2, off2, hA2, _⟩ := H2.out.row (by omega)
   subst hA
   subst hA2
   obtain ⟨hb, s1, B1, n1, d1, a1, a2, hr⟩ := (H1.out.below hw).at_ hkn
   obtain ⟨b', off', e', hb2, hc2⟩ := (H2.out.below hw).row (by omega)
   cases e'
   have a3 := hc2 k hkn
   have hz3 := H2.out.ok k (by rw [H2.out.len]; exact hkn)
   have e3 : zAt Z k = iAt Z k := rfl
   rw [e3] at hr
   obtain ⟨z, hzz⟩ : ∃ z, iAt Z k = z := ⟨_, rfl⟩
   rw [hzz] at hr a3 hz3
   have HZ := Lib.hid (And.intro hz3.1 (And.intro hz3.2 (show fits z = true from fits_small (by omega))))
   have HR := Lib.hid hr
   clear hr hz3 hzz hc2
   go_wp2
   refine region_gen (T := []) [.make 8 [] (numCB [] z), .need 9 [8]] 11 0 40 (fun _ _ => True) (fun _ _ _ _ _ => trivial) trivial (by kernel_rfl) (by kernel_rfl) (by rfl) ?_
   unfold genWalk
   apply Exists.intro
   apply And.intro
   ·apply Piece.mk
    ·intro f v hv hr hne
     simp only [List.take_succ_cons, List.take_zero, List.drop_zero, Nat.reduceSub]
     have f1 := fun x : Later [] wr v => (x.cell b (off + k * 2) hb (by simp)).trans a1
     have f2 := fun x : Later [] wr v => (x.cell b (off + k * 2 + 1) hb (by simp)).trans a2
     have f3 := fun x : Later [] wr v => (x.cell b2 (off2 + k) hb2 (by simp)).trans a3
     repeat (go_big_quiet_step (fail))
     refine wpQuiet_nil ?_
     exact rfl
    ·intro f; kernel_rfl
    ·intro f f' hf; kernel_rfl
   simp only [List.take_succ_cons, List.take_zero, List.drop_succ_cons, List.drop_zero, Nat.reduceAdd, oneOp]
   refine ⟨fun f => ⟨rfl, fun u hu _ => ?_⟩, ?_⟩
   ·refine make_call (f := 78) (args := #[.int .i64 z]) (by (try simp only [Act.put, List.setIfInBounds_toArray, List.set_cons_zero, List.set_cons_succ]); (try simp only [newB_val, numB_val, ownB_val, numCB_val]); go_simp) ?_
    have q := ref1_Of (w := u) z HZ.out.1 HZ.out.2.1
    refine q.mono ?_
    rintro e wx ⟨⟨b, C, rfl, q1, q2, q3⟩, hbx⟩
    exact ⟨(b, C), rfl, q2, q3, hbx, by simp, q1⟩
   unfold genWalk
   apply Exists.intro
   apply And.intro
   ·apply Piece.mk
    ·intro f v hv hr hne
     simp only [List.take_zero, List.drop_succ_cons, List.drop_zero, Nat.reduceSub]
     (try simp only [Act.put, List.setIfInBounds_toArray, List.set_cons_zero, List.set_cons_succ])
     (try simp only [numCB_val])
     repeat (go_big_quiet_step (fail))
     refine wpQuiet_nil ?_
     exact rfl
    ·intro f; kernel_rfl
    ·intro f f' hf; simp
   unfold genWalk
   apply Exists.intro
   apply And.intro
   ·apply Piece.mk
    ·intro f v hv hr hne
     simp only [List.take_succ_cons, List.take_zero, List.drop_succ_cons, List.drop_zero, Nat.reduceSub]
     (try simp only [Act.put, List.setIfInBounds_toArray, List.set_cons_zero, List.set_cons_succ])
     (try simp only [newB_val, numB_val, ownB_val, numCB_val])
     have h8 : NumC v (f 8).1 (f 8).2 z := (hr 8 (by simp)).2
     have k8 := fun x : Later [] wr v => (h8.below x.g).at_ HZ.out.2.2
     have L1 := fun x : Later [] wr v => NumAt.keeps HR.out x.h
     repeat (go_big_quiet_step ((go_at_call 77; with_reducible exact lateB (num_sameR (L1 _) (k8 _)))))
     refine wpQuiet_nil ?_
     exact rfl
    ·intro f; kernel_rfl
    ·intro f f' hf; first | (simp; done) | (simp [hf 8 (by simp)])
   intro f u' hup hph hmade hdist
   refine effc_nil ?_
   simp only
   (try simp only [Act.put, List.setIfInBounds_toArray, List.set_cons_zero, List.set_cons_succ])
   (try simp only [newB_val, numB_val, ownB_val, numCB_val])
   clear hmade hdist hph
   have hw2 : Below w.heap.size w u' := Upd.below hw hup (by simp)
   generalize numC z (f 8).1 (f 8).2 = y8 at *
   clear f hup a1 a2 a3 hb hb2
   go_wp2
   go_roundw
   case rel => exact ⟨k + 1, by omega, by go_num, hw2⟩
   case measure => simp [intOf]; omega
  ·obtain rfl : k = n := by omega
   go_wp2
   go_ret
   exact ⟨rfl, hw⟩
end Go.Proofs.YtflgngjocgiojaaGreat
namespace Go.Proofs.YtflgngjocgiojaaGreat

theorem fac_mono {n m : Nat} (h : n ≤ m) : fac n ≤ fac m := by
  induction m with
  | zero => obtain rfl : n = 0 := by omega
            exact Nat.le_refl _
  | succ m ih =>
    by_cases e : n = m + 1
    · subst e; exact Nat.le_refl _
    · have h1 := ih (by omega)
      have h2 := Nat.le_mul_of_pos_left (fac m) (show 0 < m + 1 by omega)
      rw [fac]; omega
theorem minV_abs {a : Nat} {O : Nat → Nat → Int} {cs : Nat → Nat} {r : Nat → Int} {j wd B : Nat} (hO : ∀ i, i < a → ∀ c, c < wd → (O i c).natAbs ≤ B) (hr : ∀ c, c < wd → (r c).natAbs ≤ B) (hc : ∀ b, b < a → cs b < wd) (hj : j < wd) : (minV a O cs r j).natAbs ≤ fac (a + 1) * B ^ (a + 1) := by
  unfold minV
  refine det_abs fun i b hi hb => ?_
  have h1 : (if b < a then cs b else j) < wd := by
    split
    · rename_i h; exact hc b h
    · exact hj
  by_cases h2 : i < a
  · rw [if_pos h2]; exact hO i h2 _ h1
  · rw [if_neg h2]; exact hr _ h1
theorem small_top : fac 9 * 2147483648 ^ 9 < 2 ^ 300 := by decide +kernel
theorem minV_small {a : Nat} {O : Nat → Nat → Int} {cs : Nat → Nat} {r : Nat → Int} {j wd : Nat} (ha : a ≤ 8) (hO : ∀ i, i < a → ∀ c, c < wd → (O i c).natAbs ≤ 2147483648) (hr : ∀ c, c < wd → (r c).natAbs ≤ 2147483648) (hc : ∀ b, b < a → cs b < wd) (hj : j < wd) : (minV a O cs r j).natAbs < 2 ^ 300 := by
  have h1 := minV_abs hO hr hc hj
  have h2 := fac_mono (show a + 1 ≤ 9 by omega)
  have h3 := Nat.pow_le_pow_right (n := 2147483648) (by omega) (show a + 1 ≤ 9 by omega)
  have h4 := Nat.mul_le_mul h2 h3
  exact Nat.lt_of_le_of_lt (Nat.le_trans h1 h4) small_top
theorem p_300 : 2 ^ 300 < 2 ^ 1000 := by decide +kernel
theorem sm_300 {z : Int} (h : z.natAbs < 2 ^ 300) : Sm z := Nat.lt_trans h p_300
/-- Entries that are permitted. -/
def Ent (L : List (List Int)) (wd : Nat) : Prop := ∀ i, i < L.length → ∀ j, j < wd → (zAt (rAt L i) j).natAbs ≤ 2147483648
theorem InvB.small {L0 : List (List Int)} {wd : Nat} {s : BS} {c : Nat} {π cs : Nat → Nat} (h : InvB L0 wd s c π cs) (he : Ent L0 wd) (hc : c ≤ wd) (ha : s.a ≤ 8) : ∀ i, i < L0.length → ∀ j, j < wd → (zAt (rAt s.L i) j).natAbs < 2 ^ 300 := fun i hi j hj => by
  have hO : ∀ a, a ≤ s.a → ∀ i, i < a → ∀ c, c < wd → (rowF L0 (π i) c).natAbs ≤ 2147483648 := fun a h1 i h2 c h3 => he _ (h.perm i (by have := h.a_le; omega)) c h3
  by_cases h1 : i < s.a
  · rw [h.high i h1 j hj]
    exact minV_small (by omega) (hO i (by omega)) (fun c hc => he _ (h.perm i hi) c hc) (fun b hb => by have := h.col b (by omega); omega) hj
  · rw [h.low i (by omega) hi j hj]
    exact minV_small ha (hO s.a (Nat.le_refl _)) (fun c hc => he _ (h.perm i hi) c hc) (fun b hb => by have := h.col b hb; omega) hj
theorem fine_of {L0 : List (List Int)} {k wd : Nat} (hw : Wide L0 wd) (hk : k ≤ wd) (hk8 : k ≤ 8) (he : Ent L0 wd) : FineL L0 k wd := fun c hc i hi j hj => by
  obtain ⟨π, cs, h⟩ := InvB.run hw c (by omega)
  have ha := runB_a ⟨L0, 1, 0⟩ c
  simp only at ha
  rw [h.len] at hi
  exact sm_300 (h.small he (by omega) (by omega) i hi j hj)
theorem large_abs {n : Int} (h : largeI n = false) : n.natAbs ≤ 2147483648 := by
  unfold largeI at h
  simp at h
  omega
theorem ent_sys {M : List (List Int)} (h : matCheck M = 0) : Ent (sysL M [] M.length) (cols M) := fun i hi j hj => by
  obtain ⟨_, _, h3, h4⟩ := matCheck_ok h
  rw [sysL_len] at hi
  rw [rAt_sysL M [] hi, sysR_nil]
  exact large_abs (h4 i hi j hj)
theorem rank_fine {M : List (List Int)} (h : matCheck M = 0) : FineL (sysL M [] M.length) (cols M) (cols M) := by
  obtain ⟨_, h2, h3, _⟩ := matCheck_ok h
  exact fine_of (wide_sys h3) (Nat.le_refl _) h2 (ent_sys h)
theorem ent_sys1 {M : List (List Int)} {b : List Int} (h : matCheck M = 0) (hb : b.length = M.length) (hl : anyF (fun k => largeI (iAt b k)) b.length = false) : Ent (sysL M b M.length) (cols M + 1) := fun i hi j hj => by
  obtain ⟨_, _, h3, h4⟩ := matCheck_ok h
  rw [sysL_len] at hi
  rw [rAt_sysL M b hi]
  unfold sysR zAt
  rw [if_pos (by omega), List.getD_eq_getElem?_getD]
  have h5 := h3 i hi
  by_cases e : j < cols M
  · rw [List.getElem?_append_left (by omega), ← List.getD_eq_getElem?_getD]
    exact large_abs (h4 i hi j e)
  · rw [List.getElem?_append_right (by omega), h5, show j - cols M = 0 by omega]
    exact large_abs (anyF_none hl (k := i) (by omega))
theorem solve_fine {M : List (List Int)} {b : List Int} (h : matCheck M = 0) (hc : cols M = M.length) (hb : b.length = M.length) (hl : anyF (fun k => largeI (iAt b k)) b.length = false) : FineL (sysL M b M.length) (cols M) (M.length + 1) := by
  obtain ⟨_, h2, h3, _⟩ := matCheck_ok h
  rw [show M.length + 1 = cols M + 1 by omega]
  exact fine_of (wide_sys1 h3 hb) (by omega) h2 (ent_sys1 h hb hl)
end Go.Proofs.YtflgngjocgiojaaGreat
namespace Go.Proofs.YtflgngjocgiojaaGreat

def gamC (a : Nat) (O : Nat → Nat → Int) (cs : Nat → Nat) (r : Nat → Int) (i : Nat) : Int := sg1 (i + a) * det a (fun x b => (if skip i x < a then O (skip i x) else r) (cs b))
theorem minV_exp (a : Nat) (O : Nat → Nat → Int) (cs : Nat → Nat) (r : Nat → Int) (j : Nat) : minV a O cs r j = minD a O cs * r j + sumF (fun i => gamC a O cs r i * O i j) a := by
 unfold minV
 rw [det, sumF, Int.add_comm]
 congr 1
 ·simp only [if_neg (Nat.lt_irrefl a)]
  have h1 : det a (fun x b => (if skip a x < a then O (skip a x) else r) (if b < a then cs b else j)) = minD a O cs := det_eq fun x b hx hb => by
   have e : skip a x = x := by unfold skip; rw [if_pos hx]
   rw [e, if_pos hx, if_pos hb]
  rw [h1, sg1_two, Int.one_mul, Int.mul_comm]
 ·refine sumF_eq fun i hi => ?_
  simp only [if_pos hi, if_neg (Nat.lt_irrefl a)]
  have h1 : det a (fun x b => (if skip i x < a then O (skip i x) else r) (if b < a then cs b else j)) = det a (fun x b => (if skip i x < a then O (skip i x) else r) (cs b)) := det_eq fun x b _ hb => by rw [if_pos hb]
  rw [h1]
  unfold gamC
  simp only [Int.mul_assoc, Int.mul_comm]
theorem gamC_abs {a : Nat} {O : Nat → Nat → Int} {cs : Nat → Nat} {r : Nat → Int} {i B : Nat} (hO : ∀ i, i < a → ∀ b, b < a → (O i (cs b)).natAbs ≤ B) (hr : ∀ b, b < a → (r (cs b)).natAbs ≤ B) : (gamC a O cs r i).natAbs ≤ fac a * B ^ a := by
 unfold gamC
 rw [Int.natAbs_mul, sg1_abs, Nat.one_mul]
 refine det_abs fun x b _ hb => ?_
 split
 ·rename_i h; exact hO _ h b hb
 ·exact hr b hb
theorem minD_abs {a : Nat} {O : Nat → Nat → Int} {cs : Nat → Nat} {B : Nat} (hO : ∀ i, i < a → ∀ b, b < a → (O i (cs b)).natAbs ≤ B) : (minD a O cs).natAbs ≤ fac a * B ^ a := det_abs fun i b hi hb => hO i hi b hb
/-- Columns are independent where rows are. -/
theorem transp_ne {O : Nat → Nat → Int} {f : Nat} (hd : ∀ t, t ≤ f → minD t O id ≠ 0) : ∀ t, t ≤ f → minD t (fun c i => O i c) id ≠ 0
 | 0, _ => by show (1 : Int) ≠ 0; omega
 | t + 1, h => fun e0 => by
  have ih := transp_ne hd t (by omega)
  have hrel : ∀ j, j < t + 1 → minD t (fun c i => O i c) id * O j t = -sumF (fun c => gamC t (fun c i => O i c) id (fun i => O i t) c * O j c) t := fun j hj => by
   have h1 := minV_exp t (fun c i => O i c) id (fun i => O i t) j
   have h2 : minV t (fun c i => O i c) id (fun i => O i t) j = 0 := by
    by_cases e : j = t
    ·subst e
     have := minV_self j (fun c i => O i c) id
     rw [e0] at this
     exact this
    ·exact minV_zero (cs := id) (t := j) (by omega)
   rw [h2] at h1
   omega
  have h3 : minD t (fun c i => O i c) id * minV t O id (O t) t = -sumF (fun c => gamC t (fun c i => O i c) id (fun i => O i t) c * minV t O id (O t) c) t := by
   have e1 : ∀ c, minV t O id (O t) c = minD t O id * O t c + sumF (fun i => gamC t O id (O t) i * O i c) t := fun c => minV_exp t O id (O t) c
   have e2 : minD t (fun c i => O i c) id * sumF (fun i => gamC t O id (O t) i * O i t) t = -sumF (fun c => gamC t (fun c i => O i c) id (fun i => O i t) c * sumF (fun i => gamC t O id (O t) i * O i c) t) t := by
    rw [← sumF_mul]
    have e3 : sumF (fun i => minD t (fun c i => O i c) id * (gamC t O id (O t) i * O i t)) t = sumF (fun i => -sumF (fun c => gamC t (fun c i => O i c) id (fun i => O i t) c * (gamC t O id (O t) i * O i c)) t) t := sumF_eq fun i hi => by
     have h4 := hrel i (by omega)
     have h5 : gamC t O id (O t) i * sumF (fun c => gamC t (fun c i => O i c) id (fun i => O i t) c * O i c) t = sumF (fun c => gamC t (fun c i => O i c) id (fun i => O i t) c * (gamC t O id (O t) i * O i c)) t := by
      rw [← sumF_mul]
      exact sumF_eq fun c _ => by grind
     rw [← h5]
     grind
    rw [e3, sumF_neg, sumF_swap]
    congr 1
    refine sumF_eq fun c _ => ?_
    rw [sumF_mul]
   rw [e1 t, Int.mul_add, e2]
   have h4 := hrel t (by omega)
   have e5 : sumF (fun c => gamC t (fun c i => O i c) id (fun i => O i t) c * minV t O id (O t) c) t = minD t O id * sumF (fun c => gamC t (fun c i => O i c) id (fun i => O i t) c * O t c) t + sumF (fun c => gamC t (fun c i => O i c) id (fun i => O i t) c * sumF (fun i => gamC t O id (O t) i * O i c) t) t := by
    rw [← sumF_mul, ← sumF_add]
    refine sumF_eq fun c _ => ?_
    rw [e1 c]
    grind
   rw [e5]
   grind
  rw [sumF_zero (fun c hc => by rw [show minV t O id (O t) c = 0 from minV_zero (cs := id) (t := c) hc, Int.mul_zero])] at h3
  have h6 := minV_self t O id
  rw [show minV t O id (O t) (id t) = minV t O id (O t) t from rfl] at h6
  rw [h6] at h3
  rcases Int.mul_eq_zero.1 (show minD t (fun c i => O i c) id * minD (t + 1) O id = 0 by omega) with h7 | h7
  ·exact ih h7
  ·exact hd (t + 1) h h7
/-- The numerators of the solution for the column l. -/
def cramN (f : Nat) (O : Nat → Nat → Int) (l c : Nat) : Int := -gamC f (fun c i => O i c) id (fun i => O i l) c
def cramD (f : Nat) (O : Nat → Nat → Int) : Int := minD f (fun c i => O i c) id
theorem cram_row {f : Nat} {O : Nat → Nat → Int} {l i : Nat} (hi : i < f) : sumF (fun c => cramN f O l c * O i c) f = cramD f O * O i l := by
 have h1 := minV_exp f (fun c i => O i c) id (fun i => O i l) i
 rw [show minV f (fun c i => O i c) id (fun i => O i l) i = 0 from minV_zero (cs := id) (t := i) hi] at h1
 have h2 : sumF (fun c => cramN f O l c * O i c) f = -sumF (fun c => gamC f (fun c i => O i c) id (fun i => O i l) c * O i c) f := by
  rw [← sumF_neg]
  exact sumF_eq fun c _ => by unfold cramN; grind
 rw [h2]
 unfold cramD
 omega
/-- The same for the rows that are eliminated. -/
theorem cram_minV {f : Nat} {O : Nat → Nat → Int} {cs : Nat → Nat} {l k : Nat} (hk : k < f) : sumF (fun c => cramN f O l c * minV k O cs (O k) c) f = cramD f O * minV k O cs (O k) l := by
 have e1 : ∀ j, minV k O cs (O k) j = minD k O cs * O k j + sumF (fun i => gamC k O cs (O k) i * O i j) k := fun j => minV_exp k O cs (O k) j
 have h1 : sumF (fun c => cramN f O l c * minV k O cs (O k) c) f = minD k O cs * sumF (fun c => cramN f O l c * O k c) f + sumF (fun c => sumF (fun i => gamC k O cs (O k) i * (cramN f O l c * O i c)) k) f := by
  rw [← sumF_mul, ← sumF_add]
  refine sumF_eq fun c _ => ?_
  rw [e1 c, Int.mul_add, ← sumF_mul]
  congr 1
  ·grind
  ·exact sumF_eq fun i _ => by grind
 rw [h1, cram_row hk, sumF_swap, e1 l]
 have h2 : sumF (fun i => sumF (fun c => gamC k O cs (O k) i * (cramN f O l c * O i c)) f) k = sumF (fun i => cramD f O * (gamC k O cs (O k) i * O i l)) k := sumF_eq fun i hi => by
  rw [sumF_mul, cram_row (by omega)]
  grind
 rw [h2, sumF_mul]
 grind
end Go.Proofs.YtflgngjocgiojaaGreat
namespace Go.Proofs.YtflgngjocgiojaaGreat

theorem sumF_split (f : Nat → Int) (m : Nat) : ∀ n, sumF f (m + n) = sumF f m + sumF (fun i => f (m + i)) n
 | 0 => by simp [sumF]
 | n + 1 => by rw [← Nat.add_assoc, sumF, sumF_split f m n, sumF, Int.add_assoc]
theorem pow_small {n : Nat} (h : n ≤ 9) {z : Nat} (hz : z ≤ fac n * 2147483648 ^ n) : z < 2 ^ 300 := by
 have h2 := fac_mono h
 have h3 := Nat.pow_le_pow_right (n := 2147483648) (by omega) h
 exact Nat.lt_of_le_of_lt (Nat.le_trans hz (Nat.mul_le_mul h2 h3)) small_top
theorem top_600 : 2 ^ 300 * 2 ^ 300 + 8 * (2 ^ 300 * 2 ^ 300) < 2 ^ 1000 := by decide +kernel
theorem mul_300 {a b : Int} (ha : a.natAbs < 2 ^ 300) (hb : b.natAbs < 2 ^ 300) : (a * b).natAbs ≤ 2 ^ 300 * 2 ^ 300 := by
 rw [Int.natAbs_mul]
 revert ha hb
 generalize 2 ^ 300 = X
 intro ha hb
 exact Nat.mul_le_mul (Nat.le_of_lt ha) (Nat.le_of_lt hb)
/-- The right side times the denominator, less j terms. -/
def remS (U : Nat → Int) (N : Nat → Int) (D : Int) (k last j : Nat) : Int := U last * D - sumF (fun i => U (k + 1 + i) * N (k + 1 + i)) j
theorem remS_sm {U N : Nat → Int} {D : Int} {k last j : Nat} (hj : j ≤ 8) (hU : (U last).natAbs < 2 ^ 300) (hD : D.natAbs < 2 ^ 300) (h : ∀ i, i < j → (U (k + 1 + i)).natAbs < 2 ^ 300 ∧ (N (k + 1 + i)).natAbs < 2 ^ 300) : Sm (remS U N D k last j) := by
 have h1 := mul_300 hU hD
 have h2 := sumF_abs (f := fun i => U (k + 1 + i) * N (k + 1 + i)) (B := 2 ^ 300 * 2 ^ 300) (n := j) (fun i hi => mul_300 (h i hi).1 (h i hi).2)
 have h3 := Nat.mul_le_mul_right (2 ^ 300 * 2 ^ 300) hj
 have h4 := Int.natAbs_sub_le (U last * D) (sumF (fun i => U (k + 1 + i) * N (k + 1 + i)) j)
 have h5 := top_600
 unfold Sm remS
 generalize 2 ^ 300 * 2 ^ 300 = X at *
 omega
theorem sum_toQ {R : List Int} {N : Nat → Int} {D : Int} (hD : D ≠ 0) (k last : Nat) : ∀ j, sumQ R (fun c => toQ (N c) D) k last j = toQ (remS (zAt R) N D k last j) D
 | 0 => by
  show (zAt R last, (1 : Int)) = _
  rw [← toQ_one]
  refine toQ_eq (by omega) hD ?_
  unfold remS
  rw [sumF]
  grind
 | j + 1 => by
  rw [sumQ, sum_toQ hD k last j, ← toQ_one (zAt R (k + 1 + j)), mul_toQ (by omega) hD, sub_toQ hD (by omega)]
  refine toQ_eq (Int.mul_ne_zero hD (by omega)) hD ?_
  unfold remS
  rw [sumF]
  grind
/-- Rows that minors make, the first f columns leading: the triangular system. -/
theorem back_ok {L : List (List Int)} {O : Nat → Nat → Int} {cs : Nat → Nat} {f last wd : Nat} (hf : f ≤ 8) (hfw : f ≤ wd) (hl : last < wd) (hcs : ∀ t, t < f → cs t = t) (hnz : ∀ t, t ≤ f → minD t O cs ≠ 0)
  (hU : ∀ k, k < f → ∀ j, j < wd → zAt (rAt L k) j = minV k O cs (O k) j) (hB : ∀ i, i < f → ∀ c, c < wd → (O i c).natAbs ≤ 2147483648) :
  BackQ L (fun k => toQ (cramN f O last k) (cramD f O)) f last ∧ cramD f O ≠ 0 ∧ (∀ k, (cramN f O last k).natAbs < 2 ^ 300) ∧ (cramD f O).natAbs < 2 ^ 300 := by
 have hid : ∀ t, t ≤ f → minD t O id ≠ 0 := fun t ht => by
  have e : minD t O id = minD t O cs := minD_eq (fun _ _ => rfl) (fun b hb => (hcs b (by omega)).symm)
  rw [e]
  exact hnz t ht
 have hD : cramD f O ≠ 0 := transp_ne hid f (Nat.le_refl _)
 have hDs : (cramD f O).natAbs < 2 ^ 300 := pow_small (show f ≤ 9 by omega) (minD_abs fun i hi b hb => hB b hb i (by omega))
 have hNs : ∀ k, (cramN f O last k).natAbs < 2 ^ 300 := fun k => by
  unfold cramN
  rw [Int.natAbs_neg]
  exact pow_small (show f ≤ 9 by omega) (gamC_abs (fun i hi b hb => hB b hb i (by omega)) (fun b hb => hB b hb last hl))
 have hUs : ∀ k, k < f → ∀ j, j < wd → (zAt (rAt L k) j).natAbs < 2 ^ 300 := fun k hk j hj => by
  rw [hU k hk j hj]
  exact minV_small (by omega) (fun i hi c hc => hB i (by omega) c hc) (hB k hk) (fun b hb => by rw [hcs b (by omega)]; omega) hj
 have hlead : ∀ k, k < f → zAt (rAt L k) k ≠ 0 := fun k hk => by
  rw [hU k hk k (by omega)]
  have h1 := minV_self k O cs
  rw [hcs k hk] at h1
  rw [h1]
  exact hnz (k + 1) (by omega)
 have hlow : ∀ k, k < f → ∀ j, j < k → zAt (rAt L k) j = 0 := fun k hk j hj => by
  rw [hU k hk j (by omega)]
  have h1 := minV_zero (a := k) (O := O) (cs := cs) (r := O k) (t := j) hj
  rw [hcs j (by omega)] at h1
  exact h1
 have hrem : ∀ k, k < f → remS (zAt (rAt L k)) (cramN f O last) (cramD f O) k last (f - 1 - k) = zAt (rAt L k) k * cramN f O last k := fun k hk => by
  have h1 := cram_minV (f := f) (O := O) (cs := cs) (l := last) hk
  have h2 : sumF (fun c => cramN f O last c * minV k O cs (O k) c) f = sumF (fun c => cramN f O last c * zAt (rAt L k) c) f := sumF_eq fun c hc => by rw [hU k hk c (by omega)]
  rw [h2, ← hU k hk last hl] at h1
  have h3 := sumF_split (fun c => cramN f O last c * zAt (rAt L k) c) (k + 1) (f - 1 - k)
  rw [show k + 1 + (f - 1 - k) = f by omega, h1, sumF, sumF_zero (fun i hi => by rw [hlow k hk i hi, Int.mul_zero])] at h3
  have h4 : sumF (fun i => zAt (rAt L k) (k + 1 + i) * cramN f O last (k + 1 + i)) (f - 1 - k) = sumF (fun i => cramN f O last (k + 1 + i) * zAt (rAt L k) (k + 1 + i)) (f - 1 - k) := sumF_eq fun i _ => Int.mul_comm _ _
  unfold remS
  rw [h4]
  grind
 refine ⟨⟨fun k hk => ?_, hlead, fun k hk => ⟨sm_300 (hUs k hk last hl), fun c hc => sm_300 (hUs k hk c (by omega))⟩, fun k hk j hj => ?_, fun k hk j hj => ?_, fun k hk => ?_⟩, hD, hNs, hDs⟩
 ·rw [sum_toQ hD, div_toQ hD (hlead k hk), hrem k hk]
  refine toQ_eq hD (Int.mul_ne_zero hD (hlead k hk)) ?_
  grind
 ·rw [sum_toQ hD]
  exact toQ_sm hD (remS_sm (by omega) (hUs k hk last hl) hDs fun i hi => ⟨hUs k hk _ (by omega), hNs _⟩) (sm_300 hDs)
 ·rw [← toQ_one (zAt (rAt L k) (k + 1 + j)), mul_toQ (by omega) hD]
  have h1 := mul_300 (hUs k hk (k + 1 + j) (by omega)) (hNs (k + 1 + j))
  have h5 := top_600
  refine toQ_sm (Int.mul_ne_zero (by omega) hD) ?_ (by rw [Int.one_mul]; exact sm_300 hDs)
  unfold Sm
  generalize 2 ^ 300 * 2 ^ 300 = X at *
  omega
 ·exact toQ_sm hD (sm_300 (hNs k)) (sm_300 hDs)
end Go.Proofs.YtflgngjocgiojaaGreat
namespace Go.Proofs.YtflgngjocgiojaaGreat

theorem firstF_range (cs : Nat → Nat) : ∀ a, (firstF ((List.range a).map (fun t => (cs t, t))) ≤ a) ∧ (∀ t, t < firstF ((List.range a).map (fun t => (cs t, t))) → cs t = t) ∧ (firstF ((List.range a).map (fun t => (cs t, t))) < a → cs (firstF ((List.range a).map (fun t => (cs t, t)))) ≠ firstF ((List.range a).map (fun t => (cs t, t))))
 | 0 => ⟨Nat.le_refl _, fun t h => absurd h (Nat.not_lt_zero t), fun h => absurd h (Nat.lt_irrefl 0)⟩
 | a + 1 => by
  obtain ⟨h1, h2, h3⟩ := firstF_range cs a
  rw [List.range_succ, List.map_append]
  simp only [List.map_cons, List.map_nil]
  rw [firstF_snoc]
  obtain ⟨f, hf⟩ : ∃ f, firstF ((List.range a).map (fun t => (cs t, t))) = f := ⟨_, rfl⟩
  rw [hf] at h1 h2 h3 ⊢
  simp only
  by_cases e : cs a = a ∧ cs a = f
  ·rw [if_pos e]
   refine ⟨by omega, fun t ht => ?_, fun h => by omega⟩
   by_cases e2 : t = a
   ·subst e2; exact e.1
   ·exact h2 t (by omega)
  ·rw [if_neg e]
   refine ⟨by omega, h2, fun h => ?_⟩
   by_cases e2 : f < a
   ·exact h3 e2
   ·have : f = a := by omega
    subst this
    intro e3
    exact e ⟨e3, e3⟩
theorem ofD_dvd (n : Int) {d : Int} (h : d ≠ 0) : (ofD n d).natAbs ∣ d.natAbs := by
 have hg : 0 < Nat.gcd n.natAbs d.natAbs := Nat.gcd_pos_of_pos_right _ (by omega)
 unfold ofD
 obtain ⟨g, hgg⟩ : ∃ g, Nat.gcd n.natAbs d.natAbs = g := ⟨_, rfl⟩
 rw [hgg] at hg ⊢
 have hd : g ∣ d.natAbs := by rw [← hgg]; exact Nat.gcd_dvd_right _ _
 have key : ∀ d' : Int, d'.natAbs = d.natAbs → (d' / (g : Int)).natAbs ∣ d.natAbs := fun d' e => by
  have d2 : (g : Int) ∣ d' := Int.ofNat_dvd_left.2 (by rw [e]; exact hd)
  obtain ⟨b, hb⟩ := d2
  rw [hb, Int.mul_ediv_cancel_left _ (by omega)]
  rw [← e, hb, Int.natAbs_mul]
  exact ⟨g, Nat.mul_comm _ _⟩
 split
 ·exact key (-d) (Int.natAbs_neg d)
 ·exact key d rfl
theorem byW_dvd {Q : Nat → QI} {n D : Nat} (hq : ∀ i, i < n → 0 < (Q i).2 ∧ (Q i).2.natAbs ∣ D) : ∀ i, i ≤ n → (byW Q i).natAbs ∣ D
 | 0, _ => ⟨D, by simp [byW]⟩
 | i + 1, h => by
  have ih := byW_dvd hq i (by omega)
  obtain ⟨h1, h2⟩ := hq i (by omega)
  rw [byW]
  obtain ⟨q, hqn⟩ : ∃ q : Nat, (Q i).2 = (q : Int) := ⟨(Q i).2.natAbs, by omega⟩
  rw [hqn] at h1 h2 ⊢
  have e : (byW Q i * ((q : Int) / ((Nat.gcd (byW Q i).natAbs (Int.natAbs (q : Int)) : Nat) : Int))).natAbs = Nat.lcm (byW Q i).natAbs q := by
   rw [Int.natAbs_mul, Int.natAbs_natCast, ← Int.natCast_ediv, Int.natAbs_natCast]
   unfold Nat.lcm
   rw [Nat.mul_div_assoc _ (Nat.gcd_dvd_right _ _)]
  rw [e]
  exact Nat.lcm_dvd ih h2
theorem goodQ_pos {a : QI} (h : goodQ a.1 a.2 = true) : 0 < a.2 := (goodQ_iff.1 h).1
theorem kern_fine {M : List (List Int)} : ∃ x, FineK M x (kernF M) := by
 by_cases h : matCheck M = 0
 ·obtain ⟨hn, hk8, hw0, _⟩ := matCheck_ok h
  have hw := wide_sys hw0
  obtain ⟨π, cs, hI, hl⟩ := InvB.run2 hw (cols M) (Nat.le_refl _)
  obtain ⟨h1, h2, _⟩ := firstF_range cs (runB ⟨sysL M [] M.length, 1, 0⟩ (cols M)).a
  rw [← hl] at h1 h2
  have hf : firstF (leadsB ⟨sysL M [] M.length, 1, 0⟩ (cols M)) = kernF M := rfl
  rw [hf] at h1 h2
  refine ⟨fun k => toQ (cramN (kernF M) (fun i => rowF (sysL M [] M.length) (π i)) (kernF M) k) (cramD (kernF M) (fun i => rowF (sysL M [] M.length) (π i))), fun _ => ⟨rank_fine h, fun hfk => ?_⟩⟩
  have he := ent_sys h
  have hale := hI.a_le
  obtain ⟨hB, hD, hN, hDs⟩ := back_ok (L := (runB ⟨sysL M [] M.length, 1, 0⟩ (cols M)).L) (O := fun i => rowF (sysL M [] M.length) (π i)) (cs := cs) (f := kernF M) (last := kernF M) (wd := cols M) (by omega) (by omega) hfk h2 (fun t ht => hI.nz t (by omega)) (fun k hk j hj => hI.high k (by omega) j hj) (fun i hi c hc => he _ (hI.perm i (by omega)) c hc)
  refine ⟨hB, ?_⟩
  have hQ : ∀ i, i < kernF M → kernQ (fun k => toQ (cramN (kernF M) (fun i => rowF (sysL M [] M.length) (π i)) (kernF M) k) (cramD (kernF M) (fun i => rowF (sysL M [] M.length) (π i)))) (kernF M) i = toQ (-cramN (kernF M) (fun i => rowF (sysL M [] M.length) (π i)) (kernF M) i) (cramD (kernF M) (fun i => rowF (sysL M [] M.length) (π i))) := fun i hi => by
   unfold kernQ
   rw [if_pos hi, ← toQ_one 0, sub_toQ (by omega) hD]
   refine toQ_eq (Int.mul_ne_zero (by omega) hD) hD ?_
   grind
  have hsm : ∀ i, i < cols M → SmQ (kernQ (fun k => toQ (cramN (kernF M) (fun i => rowF (sysL M [] M.length) (π i)) (kernF M) k) (cramD (kernF M) (fun i => rowF (sysL M [] M.length) (π i)))) (kernF M) i) := fun i hi => by
   by_cases e : i < kernF M
   ·rw [hQ i e]
    exact toQ_sm hD (sm_300 (by rw [Int.natAbs_neg]; exact hN i)) (sm_300 hDs)
   ·unfold kernQ
    rw [if_neg e]
    split
    ·exact SmQ.int Sm.one
    ·exact SmQ.int sm_zero
  refine ⟨hsm, fun i hi => ?_⟩
  have hd := byW_dvd (Q := kernQ (fun k => toQ (cramN (kernF M) (fun i => rowF (sysL M [] M.length) (π i)) (kernF M) k) (cramD (kernF M) (fun i => rowF (sysL M [] M.length) (π i)))) (kernF M)) (n := cols M) (D := (cramD (kernF M) (fun i => rowF (sysL M [] M.length) (π i))).natAbs) (fun i hi => ⟨goodQ_pos (hsm i hi).1, by
   by_cases e : i < kernF M
   ·rw [hQ i e]
    exact ofD_dvd _ hD
   ·unfold kernQ
    rw [if_neg e]
    split <;> exact ⟨_, (Nat.one_mul _).symm⟩⟩) i hi
  exact sm_300 (Nat.lt_of_le_of_lt (Nat.le_of_dvd (by omega) hd) hDs)
 ·exact ⟨fun _ => (0, 1), fun h2 => absurd h2 h⟩
end Go.Proofs.YtflgngjocgiojaaGreat
namespace Go.Proofs.YtflgngjocgiojaaGreat

end Go.Proofs.YtflgngjocgiojaaGreat
namespace Go.Proofs.YtflgngjocgiojaaGreat

end Go.Proofs.YtflgngjocgiojaaGreat
