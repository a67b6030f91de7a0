/- Ratio: minus. -/
import Derived.Test.YtflgngjocgiojaaGreatRefA
namespace Go.Proofs.YtflgngjocgiojaaGreat
open Go.RowKit

set_option maxRecDepth 100000 in
set_option maxHeartbeats 4000000 in
theorem ref1_compare {w : World} {A1 A2 : Option Addr} {n1 n2 M N : Nat} (c1 c2 : Nat) (h1 : DigsAt w A1 n1 (digs M)) (h2 : DigsAt w A2 n2 (digs N)) (hm1 : n1 ≤ 2000) (hm2 : n2 ≤ 2000) :
  Calls Tryz.prog 89 #[.slice A1 n1 c1, .slice A2 n2 c2] w fun r w' => r = .returned (.int .i64 (ordI (M : Nat) (N : Nat))) ∧ Below w.heap.size w w' := by
 obtain ⟨o, ho⟩ : ∃ o, ordI (M : Nat) (N : Nat) = o := ⟨_, rfl⟩
 rw [ho]
 have hl1 := h1.len
 have hl2 := h2.len
 by_cases hne : n1 = n2
 ·subst hne
  have hmi : (n1 : Int) ≤ 2000 := by omega
  have hself : ¬ (n1 : Int) < (n1 : Int) := by omega
  have H1 := Lib.hid h1
  have H2 := Lib.hid h2
  have HO := Lib.hid ho
  have HL := Lib.hid (And.intro hl1 hl2)
  clear h1 h2 ho hl1 hl2 hm2
  go_enter Tryz.func89, Tryz.ntmps89
  go_wp2
  have hw := Below.refl w.heap.size w
  go_loopw [5] (fun i wr => ∃ k : Nat, k ≤ n1 ∧ i = .int .i64 ((k : Int) - 1) ∧ (∀ i, k ≤ i → i < n1 → dAt (digs M) i = dAt (digs N) i) ∧ Below w.heap.size w wr) (fun i _ => (intOf i + 1).toNat)
  case atStart => exact ⟨n1, Nat.le_refl _, rfl, fun i a b => by omega, hw⟩
  case round =>
   clear hw
   obtain ⟨k, hk, rfl, hall, hw⟩ := hrel
   have HA := Lib.hid hall
   clear hall
   by_cases hk0 : k = 0
   ·subst hk0
    have hneg : ((0 : Nat) : Int) - 1 = -1 := rfl
    rw [hneg]
    have ho : o = 0 := by
     have e : digs M = digs N := eq_of_dAt (by rw [HL.out.1, HL.out.2]) (fun i hi => HA.out i (Nat.zero_le _) (by rw [HL.out.1] at hi; exact hi))
     have e2 := congrArg vD e
     rw [digs_val, digs_val] at e2
     rw [← HO.out, e2, ordI_eq]
    subst ho
    go_wp2
    go_ret
    exact ⟨rfl, hw⟩
   ·obtain ⟨j, rfl⟩ : ∃ j, k = j + 1 := ⟨k - 1, by omega⟩
    have hj : ((j + 1 : Nat) : Int) - 1 = (j : Int) := by omega
    rw [hj]
    have hj0 : (0 : Int) ≤ (j : Int) := by omega
    have hjn : (j : Int) < (n1 : Int) := by omega
    obtain ⟨d, hd⟩ : ∃ d, dAt (digs M) j = d := ⟨_, rfl⟩
    obtain ⟨e, he⟩ : ∃ d, dAt (digs N) j = d := ⟨_, rfl⟩
    obtain ⟨b, off, hA, hb, a1⟩ := (H1.out.below hw).cells (show j < n1 by omega) hd
    obtain ⟨b2, off2, hA2, hb2, a2⟩ := (H2.out.below hw).cells (show j < n1 by omega) he
    subst hA
    subst hA2
    have hdg1 := (digs_dg M).at_ j
    have hdg2 := (digs_dg N).at_ j
    rw [hd] at hdg1
    rw [he] at hdg2
    have HS : Hid (d ≠ e → ordI (d : Nat) (e : Nat) = o) := Lib.hid (fun hne => by
     rw [← HO.out, ← digs_val M, ← digs_val N, digs_val M, digs_val N]
     have q := vD_ord (digs_dg M) (digs_dg N) (by rw [HL.out.1, HL.out.2]) (k := j) (by rw [HL.out.1]; omega) (by rw [hd, he]; exact hne) (fun i a b => HA.out i (by omega) (by rw [HL.out.1] at b; exact b))
     rw [hd, he, digs_val, digs_val] at q
     exact q)
    have HE : Hid (d = e → ∀ i, j ≤ i → i < n1 → dAt (digs M) i = dAt (digs N) i) := Lib.hid (fun heq i a b => by
     rcases Nat.eq_or_lt_of_le a with h | h
     ·rw [← h, hd, he, heq]
     ·exact HA.out i (by omega) b)
    clear hd he HA hk0 hj
    go_wp2
    by_cases hlt : d < e
    ·have hlti : (d : Int) < (e : Int) := by omega
     refine region_late 9 [] (by kernel_rfl) (by kernel_rfl) (by rfl) ?_
     apply Exists.intro
     refine ⟨fun v hv hne => ?_, fun u hu => ?_⟩
     ·simp only [List.take_succ_cons, List.take_zero]
      have f1 := fun x : Later [] wr v => (x.cell b (off + j) hb (by simp)).trans a1
      have f2 := fun x : Later [] wr v => (x.cell b2 (off2 + j) hb2 (by simp)).trans a2
      repeat (go_big_quiet_step (fail))
      refine wpQuiet_nil ?_
      exact rfl
     ·simp only [List.drop_succ_cons, List.drop_zero]
      refine late_nil ?_
      (try simp only [Act.put, List.setIfInBounds_toArray, List.set_cons_zero, List.set_cons_succ])
      have hw2 := hw.trans (hu.mono hw.size)
      have ho := HS.out (by omega)
      rw [ordI_lt hlti] at ho
      subst ho
      clear HS HE HO
      go_wp2
      go_ret
      exact ⟨rfl, hw2⟩
    ·have hlti : ¬ (d : Int) < (e : Int) := by omega
     refine region_late 9 [] (by kernel_rfl) (by kernel_rfl) (by rfl) ?_
     apply Exists.intro
     refine ⟨fun v hv hne => ?_, fun u hu => ?_⟩
     ·simp only [List.take_succ_cons, List.take_zero]
      have f1 := fun x : Later [] wr v => (x.cell b (off + j) hb (by simp)).trans a1
      have f2 := fun x : Later [] wr v => (x.cell b2 (off2 + j) hb2 (by simp)).trans a2
      repeat (go_big_quiet_step (fail))
      refine wpQuiet_nil ?_
      exact rfl
     ·simp only [List.drop_succ_cons, List.drop_zero]
      refine late_nil ?_
      (try simp only [Act.put, List.setIfInBounds_toArray, List.set_cons_zero, List.set_cons_succ])
      have hw2 := hw.trans (hu.mono hw.size)
      replace a1 := (hu.cell (p := ⟨b, off + j, none⟩) hb).trans a1
      replace a2 := (hu.cell (p := ⟨b2, off2 + j, none⟩) hb2).trans a2
      replace hb := Nat.lt_of_lt_of_le hb hu.size
      replace hb2 := Nat.lt_of_lt_of_le hb2 hu.size
      go_wp2
      by_cases hgt : e < d
      ·have hgti : (e : Int) < (d : Int) := by omega
       refine region_late 9 [] (by kernel_rfl) (by kernel_rfl) (by rfl) ?_
       apply Exists.intro
       refine ⟨fun v hv hne => ?_, fun u3 hu3 => ?_⟩
       ·simp only [List.take_succ_cons, List.take_zero]
        have f1 := fun x : Later [] u v => (x.cell b (off + j) hb (by simp)).trans a1
        have f2 := fun x : Later [] u v => (x.cell b2 (off2 + j) hb2 (by simp)).trans a2
        repeat (go_big_quiet_step (fail))
        refine wpQuiet_nil ?_
        exact rfl
       ·simp only [List.drop_succ_cons, List.drop_zero]
        refine late_nil ?_
        (try simp only [Act.put, List.setIfInBounds_toArray, List.set_cons_zero, List.set_cons_succ])
        have hw3 := hw2.trans (hu3.mono hw2.size)
        have ho := HS.out (by omega)
        rw [ordI_gt hgti] at ho
        subst ho
        clear HS HE HO
        go_wp2
        go_ret
        exact ⟨rfl, hw3⟩
      ·have hgti : ¬ (e : Int) < (d : Int) := by omega
       refine region_late 9 [] (by kernel_rfl) (by kernel_rfl) (by rfl) ?_
       apply Exists.intro
       refine ⟨fun v hv hne => ?_, fun u3 hu3 => ?_⟩
       ·simp only [List.take_succ_cons, List.take_zero]
        have f1 := fun x : Later [] u v => (x.cell b (off + j) hb (by simp)).trans a1
        have f2 := fun x : Later [] u v => (x.cell b2 (off2 + j) hb2 (by simp)).trans a2
        repeat (go_big_quiet_step (fail))
        refine wpQuiet_nil ?_
        exact rfl
       ·simp only [List.drop_succ_cons, List.drop_zero]
        refine late_nil ?_
        (try simp only [Act.put, List.setIfInBounds_toArray, List.set_cons_zero, List.set_cons_succ])
        have hw3 := hw2.trans (hu3.mono hw2.size)
        have HEE := Lib.hid (HE.out (by omega))
        clear HS HE
        go_wp2
        go_roundw
        case rel => exact ⟨j, by omega, by first | rfl | (congr 1), HEE.out, hw3⟩
        case measure => simp [intOf]
 ·have ho2 : o = if n1 < n2 then -1 else 1 := by
   have q := digs_ord (M := M) (N := N) (by rw [hl1, hl2]; exact hne)
   rw [hl1, hl2, ho] at q
   rw [← q]
   by_cases h : n1 < n2
   ·rw [if_pos h, ordI_lt (by omega)]
   ·rw [if_neg h, ordI_gt (by omega)]
  clear ho h1 h2 hl1 hl2
  by_cases h : n1 < n2
  ·have hi : (n1 : Int) < (n2 : Int) := by omega
   rw [if_pos h] at ho2
   subst ho2
   go_enter Tryz.func89, Tryz.ntmps89
   go_wp2
   go_ret
   exact ⟨rfl, Below.refl _ _⟩
  ·have hi : ¬ (n1 : Int) < (n2 : Int) := by omega
   have hi2 : (n2 : Int) < (n1 : Int) := by omega
   rw [if_neg h] at ho2
   subst ho2
   go_enter Tryz.func89, Tryz.ntmps89
   go_wp2
   go_ret
   exact ⟨rfl, Below.refl _ _⟩
theorem sameRaw {s1 s2 : Bool} {D1 D2 : List Nat} (h : ¬ (s1 = s2 ∧ D1.length = D2.length)) : decide (s1 = s2 ∧ D1 = D2) = false :=
 decide_eq_false fun ⟨a, b⟩ => h ⟨a, by rw [b]⟩
set_option maxRecDepth 100000 in
set_option maxHeartbeats 4000000 in
theorem ref1_Same {w : World} {v1 v2 : Value} {s1 s2 : Bool} {D1 D2 : List Nat} (h1 : RawAt w v1 s1 D1) (h2 : RawAt w v2 s2 D2) :
  Calls Tryz.prog 77 #[v1, v2] w fun r w' => r = .returned (.bool (decide (s1 = s2 ∧ D1 = D2))) ∧ Below w.heap.size w w' := by
 obtain ⟨A1, n1, c1, rfl, hc1, hm1, d1⟩ := h1
 obtain ⟨A2, n2, c2, rfl, hc2, hm2, d2⟩ := h2
 have hl1 := d1.len
 have hl2 := d2.len
 have hW := (((Below.refl w.heap.size w).alloc (Nat.le_refl _) (.cells #[.bool s1, .slice A1 n1 c1] 35)).alloc (by simp) (.cells #[.bool s2, .slice A2 n2 c2] 35))
 have o2 : Own ((w.alloc (.cells #[.bool s1, .slice A1 n1 c1] 35)).alloc (.cells #[.bool s2, .slice A2 n2 c2] 35)) w.heap.size #[.bool s1, .slice A1 n1 c1] := (by repeat' (first | ((refine Own.new ?_); (focus (first | rfl | omega | (simp; done) | (simp; omega)))) | assumption | refine Own.alloc ?_ _ | refine Own.drew ?_ | (refine Own.far ?_ ?_ _; rotate_left; (focus (first | rfl | omega | (simp; done) | (simp; omega))))))
 have o3 : Own ((w.alloc (.cells #[.bool s1, .slice A1 n1 c1] 35)).alloc (.cells #[.bool s2, .slice A2 n2 c2] 35)) (w.heap.size + 1) #[.bool s2, .slice A2 n2 c2] := (by repeat' (first | ((refine Own.new ?_); (focus (first | rfl | omega | (simp; done) | (simp; omega)))) | assumption | refine Own.alloc ?_ _ | refine Own.drew ?_ | (refine Own.far ?_ ?_ _; rotate_left; (focus (first | rfl | omega | (simp; done) | (simp; omega))))))
 by_cases hs : s1 = s2
 ·by_cases hn : n1 = n2
  ·subst hs
   subst hn
   have hsb : (s1 == s1) = true := by cases s1 <;> rfl
   have hnn : ((n1 : Int) == (n1 : Int)) = true := by simp
   obtain ⟨o, ho⟩ : ∃ o, decide (s1 = s1 ∧ D1 = D2) = o := ⟨_, rfl⟩
   rw [ho]
   have hnm : (n1 : Int) ≤ 9223372036854775807 := by omega
   have hnm2 : (n1 : Int) < 9223372036854775807 ∨ n1 = 9223372036854775807 := by omega
   have HL := Lib.hid (And.intro hl1 (And.intro hl2 ho))
   have H1 := Lib.hid d1
   have H2 := Lib.hid d2
   clear d1 d2 hl1 hl2 ho hnm2
   go_enter Tryz.func77, Tryz.ntmps77
   go_wp2
   generalize ((w.alloc (.cells #[.bool s1, .slice A1 n1 c1] 35)).alloc (.cells #[.bool s1, .slice A2 n1 c2] 35)) = W0 at *
   have o2z := o2.lt
   have o3z := o3.lt
   go_loopw [5] (fun i wr => ∃ k : Nat, k ≤ n1 ∧ i = .int .i64 k ∧ (∀ i, i < k → dAt D1 i = dAt D2 i) ∧ Below w.heap.size w wr ∧ Own wr w.heap.size #[.bool s1, .slice A1 n1 c1] ∧ Own wr (w.heap.size + 1) #[.bool s1, .slice A2 n1 c2]) (fun i _ => n1 - (intOf i).toNat)
   case atStart => exact ⟨0, Nat.zero_le _, rfl, fun i a => by omega, hW, o2, o3⟩
   case round =>
    clear hW o2 o3 o2z o3z
    obtain ⟨k, hk, rfl, hall, hw, o2, o3⟩ := hrel
    have HA := Lib.hid hall
    clear hall
    have o2c := o2.cell
    have o3c := o3.cell
    have o2f := o2.thaw
    have o3f := o3.thaw
    have o2z := o2.lt
    have o3z := o3.lt
    by_cases hkn : k < n1
    ·have hkni : (k : Int) < (n1 : Int) := by omega
     obtain ⟨d, hd⟩ : ∃ d, dAt D1 k = d := ⟨_, rfl⟩
     obtain ⟨e, he⟩ : ∃ d, dAt D2 k = d := ⟨_, rfl⟩
     obtain ⟨b, off, hA, hb, a1⟩ := (H1.out.below hw).cells hkn hd
     obtain ⟨b2, off2, hA2, hb2, a2⟩ := (H2.out.below hw).cells hkn he
     subst hA
     subst hA2
     have HD := Lib.hid (And.intro hd he)
     clear hd he
     go_wp2
     by_cases heq : d = e
     ·subst heq
      have hbe : ((d : Int) == (d : Int)) = true := by simp
      refine region_late 11 [] (by kernel_rfl) (by kernel_rfl) (by rfl) ?_
      apply Exists.intro
      refine ⟨fun v hv hne => ?_, fun u hu => ?_⟩
      ·simp only [List.take_succ_cons, List.take_zero]
       have f1 := fun x : Later [] wr v => (x.cell b (off + k) hb (by simp)).trans a1
       have f2 := fun x : Later [] wr v => (x.cell b2 (off2 + k) hb2 (by simp)).trans a2
       have g1 := fun x => (o2.later (v := v) (T := []) (by simp) x).cell
       have g2 := fun x => (o3.later (v := v) (T := []) (by simp) x).cell
       repeat (go_big_quiet_step (fail))
       refine wpQuiet_nil ?_
       exact rfl
      ·simp only [List.drop_succ_cons, List.drop_zero]
       refine late_nil ?_
       (try simp only [Act.put, List.setIfInBounds_toArray, List.set_cons_zero, List.set_cons_succ])
       have hw2 := hw.trans (hu.mono hw.size)
       have p2 := o2.below hu
       have p3 := o3.below hu
       clear o2 o3 o2c o3c o2f o3f
       go_wp2
       go_roundw
       case rel => exact ⟨k + 1, by omega, by go_num, fun i a => by
        rcases Nat.eq_or_lt_of_le (Nat.lt_succ_iff.1 a) with h | h
        ·rw [h, HD.out.1, HD.out.2]
        ·exact HA.out i h, hw2, p2, p3⟩
       case measure => simp [intOf]; omega
     ·have hbe : ((d : Int) == (e : Int)) = false := by simp; omega
      have hdi : ¬ (d : Int) = (e : Int) := by omega
      have hof : o = false := by
       rw [← HL.out.2.2]
       refine decide_eq_false fun ⟨_, h⟩ => heq ?_
       rw [← HD.out.1, ← HD.out.2, h]
      subst hof
      refine region_late 11 [] (by kernel_rfl) (by kernel_rfl) (by rfl) ?_
      apply Exists.intro
      refine ⟨fun v hv hne => ?_, fun u hu => ?_⟩
      ·simp only [List.take_succ_cons, List.take_zero]
       have f1 := fun x : Later [] wr v => (x.cell b (off + k) hb (by simp)).trans a1
       have f2 := fun x : Later [] wr v => (x.cell b2 (off2 + k) hb2 (by simp)).trans a2
       have g1 := fun x => (o2.later (v := v) (T := []) (by simp) x).cell
       have g2 := fun x => (o3.later (v := v) (T := []) (by simp) x).cell
       repeat (go_big_quiet_step (fail))
       refine wpQuiet_nil ?_
       exact rfl
      ·simp only [List.drop_succ_cons, List.drop_zero]
       refine late_nil ?_
       (try simp only [Act.put, List.setIfInBounds_toArray, List.set_cons_zero, List.set_cons_succ])
       have hw2 := hw.trans (hu.mono hw.size)
       go_wp2
       go_ret
       exact ⟨rfl, hw2⟩
    ·obtain rfl : k = n1 := by omega
     have hkni : ¬ (k : Int) < (k : Int) := by omega
     have hot : o = true := by
      rw [← HL.out.2.2]
      exact decide_eq_true ⟨by first | trivial | rfl, eq_of_dAt (by rw [HL.out.1, HL.out.2.1]) (fun i hi => HA.out i (by rw [HL.out.1] at hi; exact hi))⟩
     subst hot
     go_wp2
     go_ret
     exact ⟨rfl, hw⟩
  ·rw [sameRaw (by rw [hl1, hl2]; exact fun h => hn h.2)]
   subst hs
   have hni : ¬ (n1 : Int) = (n2 : Int) := by omega
   clear d1 d2 hl1 hl2
   go_enter Tryz.func77, Tryz.ntmps77
   go_wp2
   go_ret
   exact ⟨rfl, hW⟩
 ·rw [sameRaw fun h => hs h.1]
  clear d1 d2 hl1 hl2
  go_enter Tryz.func77, Tryz.ntmps77
  cases s1 <;> cases s2
  ·exact absurd rfl hs
  ·go_wp2
   go_ret
   exact ⟨rfl, hW⟩
  ·go_wp2
   go_ret
   exact ⟨rfl, hW⟩
  ·exact absurd rfl hs
set_option maxRecDepth 100000 in
set_option maxHeartbeats 4000000 in
theorem ref1_word {w : World} {A : Option Addr} {n : Nat} {D : List Nat} (c : Nat) (hv : DigsAt w A n D) (hn : n ≤ 2) :
  Calls Tryz.prog 137 #[.slice A n c] w fun r w' => r = .returned (.int .u64 (vD D : Nat)) ∧ Below w.heap.size w w' := by
 obtain ⟨o, ho⟩ : ∃ o, vD D = o := ⟨_, rfl⟩
 rw [ho]
 have hl := hv.len
 have HV := Lib.hid hv
 have HO := Lib.hid (And.intro hl ho)
 clear hv ho hl
 have hw := Below.refl w.heap.size w
 have hmi : (n : Int) ≤ 2 := by omega
 go_enter Tryz.func137, Tryz.ntmps137
 go_wp2
 go_loopw [3, 4] (fun s i wr => ∃ k : Nat, k ≤ n ∧ i = .int .i64 k ∧ s = .int .u64 (vD (D.take k) : Nat) ∧ Below w.heap.size w wr) (fun _ i _ => n - (intOf i).toNat)
 case atStart => exact ⟨0, Nat.zero_le _, rfl, rfl, hw⟩
 case round =>
  clear hw
  obtain ⟨k, hk, rfl, rfl, hw⟩ := hrel
  by_cases hkn : k < n
  ·have hkni : (k : Int) < (n : Int) := by omega
   obtain ⟨d, hd⟩ : ∃ d, dAt D k = d := ⟨_, rfl⟩
   obtain ⟨b, off, hA, hb, a1⟩ := (HV.out.below hw).cells hkn hd
   subst hA
   have hd1 : d < 4294967296 := by rw [← hd]; exact HV.out.dg.at_ k
   have hlt := vD_lt (HV.out.dg.take k)
   have hlk : (D.take k).length = k := by rw [List.length_take, HO.out.1]; omega
   rw [hlk] at hlt
   have hstep : vD (D.take (k + 1)) = vD (D.take k) + 4294967296 ^ k * d := by rw [vD_take', hd]
   have HN : ∃ s', vD (D.take (k + 1)) = s' := ⟨_, rfl⟩
   obtain ⟨s', hs'⟩ := HN
   rw [hs'] at hstep
   obtain ⟨s, hs⟩ : ∃ s, vD (D.take k) = s := ⟨_, rfl⟩
   rw [hs] at hstep hlt ⊢
   have HS := Lib.hid hs'
   clear hs hs' hd hlk
   have hk2 : k = 0 ∨ k = 1 := by omega
   rcases hk2 with rfl | rfl
   ·have h1 : s = 0 := by simpa using hlt
    subst h1
    have h2 : s' = d := by simpa using hstep
    subst h2
    clear hstep hlt
    rw [Nat.add_zero] at a1
    have hu : IntKind.u64.wrap (s' : Int) = (s' : Int) := by rw [IntKind.wrap_u64]; omega
    go_wp2
    go_roundw
    case rel => exact ⟨1, by omega, rfl, by rw [HS.out], hw⟩
    case measure => simp [intOf]; omega
   ·have h1 : s < 4294967296 := by simpa using hlt
    have h2 : s' = s + 4294967296 * d := by simpa using hstep
    have hu : IntKind.u64.wrap ((d : Int) * 4294967296) = (d : Int) * 4294967296 := by rw [IntKind.wrap_u64]; omega
    have hu2 : (s : Int) + (d : Int) * 4294967296 = (s' : Int) := by omega
    have hu3 : (s' : Int) ≤ 18446744073709551615 := by omega
    clear hstep hlt h2
    go_wp2
    go_roundw
    case rel => exact ⟨2, by omega, rfl, by rw [HS.out], hw⟩
    case measure => simp [intOf]; omega
  ·obtain rfl : k = n := by omega
   have hkni : ¬ (k : Int) < (k : Int) := by omega
   have e : vD (D.take k) = o := by rw [List.take_of_length_le (by rw [HO.out.1]; exact Nat.le_refl _), HO.out.2]
   rw [e]
   clear HV HO e
   go_wp2
   go_ret
   exact ⟨rfl, hw⟩
end Go.Proofs.YtflgngjocgiojaaGreat
namespace Go.Proofs.YtflgngjocgiojaaGreat
open Go.RowKit

/-- What a function returns that returns a number. -/
def RetV (w : World) (z : Int) (r : Ending) (w' : World) : Prop := (∃ b, r = .returned (numV z b) ∧ NumO w' b z ∧ w.heap.size ≤ b ∧ b < w'.heap.size) ∧ Below w.heap.size w w'
theorem of_val {w : World} (n : Int) (h1 : -9223372036854775808 ≤ n) (h2 : n ≤ 9223372036854775807) : Calls Tryz.prog 21 #[.int .i64 n] w (RetV w n) := num_Of n h1 h2
set_option maxRecDepth 100000 in
set_option maxHeartbeats 2000000 in
theorem ratio_zero {w : World} : Calls Tryz.prog 63 #[] w fun r w' => r = .returned zeroN ∧ Below w.heap.size w w' := by
 have hW := (Below.refl w.heap.size w).alloc (Nat.le_refl _) (.cells #[.bool false, .slice none 0 0] 35)
 have o2 : Own (w.alloc (.cells #[.bool false, .slice none 0 0] 35)) w.heap.size #[.bool false, .slice none 0 0] := (by repeat' (first | ((refine Own.new ?_); (focus (first | rfl | omega | (simp; done) | (simp; omega)))) | assumption | refine Own.alloc ?_ _ | refine Own.drew ?_ | (refine Own.far ?_ ?_ _; rotate_left; (focus (first | rfl | omega | (simp; done) | (simp; omega))))))
 have hz := hW.size
 go_enter Tryz.func63, Tryz.ntmps63
 go_wp2_with fail
 refine Calls.mono (num_Of 0 (by omega) (by omega)) ?_
 rintro e u1 ⟨⟨b, rfl, _, _, _⟩, hb⟩
 have e0 : numV 0 b = .agg #[.bool false, .slice none 0 0] := rfl
 rw [e0]
 have hw := hW.trans (hb.mono hz)
 have p2 := o2.below hb
 have p2c := p2.cell
 have p2f := p2.thaw
 have p2z := p2.lt
 clear e0 hb
 go_wp2
 refine retC (b := w.heap.size) (v := zeroN) ((p2.set 0 _).set 1 _) (fun w' hw' => by simp [results, Tryz.results63, go_sem, hw', zeroN]) rfl ⟨rfl, (hw.setCell (by simp) _).setCell (by simp) _⟩
set_option maxRecDepth 100000 in
set_option maxHeartbeats 2000000 in
theorem ratio_one {w : World} : Calls Tryz.prog 69 #[] w (RetV w 1) := by
 have hW := (Below.refl w.heap.size w).alloc (Nat.le_refl _) (.cells #[.bool false, .slice none 0 0] 35)
 have o2 : Own (w.alloc (.cells #[.bool false, .slice none 0 0] 35)) w.heap.size #[.bool false, .slice none 0 0] := (by repeat' (first | ((refine Own.new ?_); (focus (first | rfl | omega | (simp; done) | (simp; omega)))) | assumption | refine Own.alloc ?_ _ | refine Own.drew ?_ | (refine Own.far ?_ ?_ _; rotate_left; (focus (first | rfl | omega | (simp; done) | (simp; omega))))))
 have hz := hW.size
 go_enter Tryz.func69, Tryz.ntmps69
 go_wp2_with fail
 refine Calls.mono (num_Of 1 (by omega) (by omega)) ?_
 rintro e u1 ⟨⟨b, rfl, h1, h2, h3⟩, hb⟩
 have hw := hW.trans (hb.mono hz)
 have p2 := o2.below hb
 have p2c := p2.cell
 have p2f := p2.thaw
 have p2z := p2.lt
 have HB := Lib.hid (And.intro (Nat.lt_of_lt_of_le o2.lt h2) (And.intro h3 h1))
 clear hb h1 h2 h3
 obtain ⟨A9, n9, c9, hsl⟩ := slN_form 1 b
 simp only [numV]
 rw [hsl]
 have HSL := Lib.hid hsl
 clear hsl
 go_wp2
 refine retC (b := w.heap.size) (v := .agg #[.bool (sgnN 1), .slice A9 n9 c9]) ((p2.set 0 _).set 1 _) (fun w' hw' => by simp [results, Tryz.results69, go_sem, hw']) rfl ⟨⟨b, by rw [numV, HSL.out], (HB.out.2.2.far (p := ⟨w.heap.size, 0, none⟩) (by simp; have := HB.out.1; omega) _).far (p := ⟨w.heap.size, 1, none⟩) (by simp; have := HB.out.1; omega) _, by have := HB.out.1; omega, by simp; exact HB.out.2.1⟩, (hw.setCell (by simp) _).setCell (by simp) _⟩
set_option maxRecDepth 100000 in
set_option maxHeartbeats 2000000 in
theorem ratio_quotient {w : World} {v1 v2 : Value} {z1 z2 : Int} (h1 : NumAt w v1 z1) (h2 : NumAt w v2 z2) (h0 : z2 ≠ 0) : Calls Tryz.prog 65 #[v1, v2] w (RetV w (z1 / z2)) := by
 obtain ⟨z, hz⟩ : ∃ z, z1 / z2 = z := ⟨_, rfl⟩
 rw [hz]
 have G1 := Lib.hid h1
 have G2 := Lib.hid h2
 obtain ⟨r1, k1⟩ := h1.raw
 obtain ⟨r2, k2⟩ := h2.raw
 obtain ⟨A1, n1, c1, rfl, hc1, hm1, hl1, d1⟩ := h1
 obtain ⟨A2, n2, c2, rfl, hc2, hm2, hl2, d2⟩ := h2
 obtain ⟨s1, hs1⟩ : ∃ s, decide (z1 < 0) = s := ⟨_, rfl⟩
 obtain ⟨s2, hs2⟩ : ∃ s, decide (z2 < 0) = s := ⟨_, rfl⟩
 rw [hs1] at r1 k1 G1 ⊢
 rw [hs2] at r2 k2 G2 ⊢
 have H := Lib.hid (And.intro hz (And.intro hs1 hs2))
 have D1 := Lib.hid d1
 have D2 := Lib.hid d2
 have R1 := Lib.hid (And.intro r1 k1)
 have R2 := Lib.hid (And.intro r2 k2)
 clear hz hs1 hs2 d1 d2 r1 k1 r2 k2
 go_enter Tryz.func65, Tryz.ntmps65
 have hW := ((((Below.refl w.heap.size w).alloc (Nat.le_refl _) (.cells #[.bool s1, .slice A1 n1 c1] 35)).alloc (by simp) (.cells #[.bool s2, .slice A2 n2 c2] 35)).alloc (by simp; omega) (.cells #[.bool false, .slice none 0 0] 35))
 go_wp2_with fail
 have o3 : Own (((w.alloc (.cells #[.bool s1, .slice A1 n1 c1] 35)).alloc (.cells #[.bool s2, .slice A2 n2 c2] 35)).alloc (.cells #[.bool false, .slice none 0 0] 35)) w.heap.size #[.bool s1, .slice A1 n1 c1] := (by repeat' (first | ((refine Own.new ?_); (focus (first | rfl | omega | (simp; done) | (simp; omega)))) | assumption | refine Own.alloc ?_ _ | refine Own.drew ?_ | (refine Own.far ?_ ?_ _; rotate_left; (focus (first | rfl | omega | (simp; done) | (simp; omega))))))
 have o4 : Own (((w.alloc (.cells #[.bool s1, .slice A1 n1 c1] 35)).alloc (.cells #[.bool s2, .slice A2 n2 c2] 35)).alloc (.cells #[.bool false, .slice none 0 0] 35)) (w.heap.size + 1) #[.bool s2, .slice A2 n2 c2] := (by repeat' (first | ((refine Own.new ?_); (focus (first | rfl | omega | (simp; done) | (simp; omega)))) | assumption | refine Own.alloc ?_ _ | refine Own.drew ?_ | (refine Own.far ?_ ?_ _; rotate_left; (focus (first | rfl | omega | (simp; done) | (simp; omega))))))
 have o6 : Own (((w.alloc (.cells #[.bool s1, .slice A1 n1 c1] 35)).alloc (.cells #[.bool s2, .slice A2 n2 c2] 35)).alloc (.cells #[.bool false, .slice none 0 0] 35)) (w.heap.size + 1 + 1) #[.bool false, .slice none 0 0] := (by repeat' (first | ((refine Own.new ?_); (focus (first | rfl | omega | (simp; done) | (simp; omega)))) | assumption | refine Own.alloc ?_ _ | refine Own.drew ?_ | (refine Own.far ?_ ?_ _; rotate_left; (focus (first | rfl | omega | (simp; done) | (simp; omega))))))
 generalize (((w.alloc (.cells #[.bool s1, .slice A1 n1 c1] 35)).alloc (.cells #[.bool s2, .slice A2 n2 c2] 35)).alloc (.cells #[.bool false, .slice none 0 0] 35)) = W0 at *
 have q := num_Div (G1.out.below hW) (G2.out.below hW) h0
 rw [H.out.1] at q
 refine Calls.mono q ?_
 rintro e u1 ⟨⟨b, b2, rfl, g1, g2, g3, g4, g5, g6⟩, hb⟩
 obtain ⟨A9, n9, c9, hsl⟩ := slN_form z b
 obtain ⟨A0, n0, c0, hsl2⟩ := slN_form (z1 % z2) b2
 simp only [numV]
 rw [hsl, hsl2]
 obtain ⟨s9, hs9⟩ : ∃ s, sgnN (z1 % z2) = s := ⟨_, rfl⟩
 rw [hs9]
 have HSL := Lib.hid hsl
 have hk := ((Below.refl u1.heap.size u1).alloc (Nat.le_refl _) (.cells #[.bool (sgnN z), .slice A9 n9 c9] 35)).alloc (by simp) (.cells #[.bool s9, .slice A0 n0 c0] 35)
 have hbz := hb.size
 have HB := Lib.hid (And.intro (Nat.lt_of_lt_of_le o6.lt g3) (And.intro g5 (g1.below hk)))
 have hw := hW.trans ((hb.trans (hk.mono hbz)).mono hW.size)
 have p2 := (o6.below hb).below hk
 have p2c := p2.cell
 have p2f := p2.thaw
 have p2z := p2.lt
 clear hsl hsl2 hs9 g1 g2 g3 g4 g5 g6 hk hb o3 o4
 go_wp2
 refine retC (b := w.heap.size + 1 + 1) (v := .agg #[.bool (sgnN z), .slice A9 n9 c9]) ((p2.set 0 _).set 1 _) (fun w' hw' => by simp [results, Tryz.results65, go_sem, hw']) rfl ⟨⟨b, by rw [numV, HSL.out], (HB.out.2.2.far (p := ⟨w.heap.size + 1 + 1, 0, none⟩) (by simp; have := HB.out.1; omega) _).far (p := ⟨w.heap.size + 1 + 1, 1, none⟩) (by simp; have := HB.out.1; omega) _, by have := HB.out.1; omega, by have := HB.out.2.1; simp; omega⟩, (hw.setCell (by simp; omega) _).setCell (by simp; omega) _⟩
end Go.Proofs.YtflgngjocgiojaaGreat
namespace Go.Proofs.YtflgngjocgiojaaGreat
open Go.RowKit

theorem NumAt.keeps {w u : World} {v : Value} {z : Int} (h : NumAt w v z) (hk : Keeps [] w u) : NumAt u v z := by
 obtain ⟨A, n, c, e, h1, h2, h3, h4⟩ := h
 exact ⟨A, n, c, e, h1, h2, h3, h4.keeps hk⟩
set_option maxRecDepth 100000 in
set_option maxHeartbeats 2000000 in
theorem ratio_minus {w : World} {v1 : Value} {z1 : Int} (h1 : NumAt w v1 z1) : Calls Tryz.prog 64 #[v1] w (RetV w (-z1)) := by
 obtain ⟨z, hz⟩ : ∃ z, -z1 = z := ⟨_, rfl⟩
 rw [hz]
 have G1 := Lib.hid h1
 have HZ := Lib.hid hz
 obtain ⟨A1, n1, c1, rfl, hc1, hm1, hl1, d1⟩ := h1
 obtain ⟨s1, hs1⟩ : ∃ s, decide (z1 < 0) = s := ⟨_, rfl⟩
 rw [hs1] at G1 ⊢
 have HF : Hid (fits z = true) := Lib.hid (fits_le (by omega) (NumAt.fits G1.out))
 clear hz hs1 d1
 have hW := ((Below.refl w.heap.size w).alloc (Nat.le_refl _) (.cells #[.bool s1, .slice A1 n1 c1] 35)).alloc (by simp) (.cells #[.bool false, .slice none 0 0] 35)
 have o1 : Own ((w.alloc (.cells #[.bool s1, .slice A1 n1 c1] 35)).alloc (.cells #[.bool false, .slice none 0 0] 35)) w.heap.size #[.bool s1, .slice A1 n1 c1] := (by repeat' (first | ((refine Own.new ?_); (focus (first | rfl | omega | (simp; done) | (simp; omega)))) | assumption | refine Own.alloc ?_ _ | refine Own.drew ?_ | (refine Own.far ?_ ?_ _; rotate_left; (focus (first | rfl | omega | (simp; done) | (simp; omega))))))
 have o2 : Own ((w.alloc (.cells #[.bool s1, .slice A1 n1 c1] 35)).alloc (.cells #[.bool false, .slice none 0 0] 35)) (w.heap.size + 1) #[.bool false, .slice none 0 0] := (by repeat' (first | ((refine Own.new ?_); (focus (first | rfl | omega | (simp; done) | (simp; omega)))) | assumption | refine Own.alloc ?_ _ | refine Own.drew ?_ | (refine Own.far ?_ ?_ _; rotate_left; (focus (first | rfl | omega | (simp; done) | (simp; omega))))))
 go_enter Tryz.func64, Tryz.ntmps64
 go_wp2
 generalize ((w.alloc (.cells #[.bool s1, .slice A1 n1 c1] 35)).alloc (.cells #[.bool false, .slice none 0 0] 35)) = W0 at *
 have hz0 := hW.size
 have o2l := o2.lt
 refine region_gen (T := []) [.make 2 [] (numB _ z), .need 3 [2], .need 5 [], .make 6 [] (ownB [] #[.bool false, .slice none 0 0] (fun p => .pointer (some ⟨p, 0, none⟩)))] 7 0 40 (fun _ _ => True) (fun _ _ _ _ _ => trivial) trivial (by kernel_rfl) (by kernel_rfl) (by rfl) ?_
 unfold genWalk
 apply Exists.intro
 apply And.intro
 ·apply Piece.mk
  ·intro f v hv hr hne
   simp only [List.take_succ_cons, List.take_zero, List.drop_zero, Nat.reduceSub]
   have d1 := fun y => (o1.later (v := v) (T := []) (by simp) y).cell
   repeat (go_big_quiet_step ((go_at_call 63; with_reducible exact lateB ratio_zero)))
   refine wpQuiet_nil ?_
   exact rfl
  ·intro f; kernel_rfl
  ·intro f f' hf; kernel_rfl
 simp only [List.take_succ_cons, List.take_zero, List.drop_succ_cons, List.drop_zero, Nat.reduceAdd, oneOp]
 refine ⟨fun f => ⟨rfl, fun u hu _ => ?_⟩, ?_⟩
 ·refine make_call (f := 104) (args := #[zeroN, .agg #[.bool s1, .slice A1 n1 c1]]) (by (try simp only [Act.put, List.setIfInBounds_toArray, List.set_cons_zero, List.set_cons_succ]); (try simp only [newB_val, numB_val, ownB_val]); go_simp) ?_
  have q := num_Sub (w := u) (num_zero u) (G1.out.keeps (Keeps.of_below hW |>.more hu (by simp)))
  rw [Int.zero_sub, HZ.out] at q
  refine q.mono ?_
  rintro e wx ⟨⟨b, rfl, q1, q2, q3⟩, hbx⟩
  exact ⟨(b, 0), rfl, q1, q2, hbx, by simp, q3⟩
 unfold genWalk
 apply Exists.intro
 apply And.intro
 ·apply Piece.mk
  ·intro f v hv hr hne
   simp only [List.take_zero, List.drop_succ_cons, List.drop_zero, Nat.reduceSub]
   (try simp only [Act.put, List.setIfInBounds_toArray, List.set_cons_zero, List.set_cons_succ])
   (try simp only [numB_val])
   repeat (go_big_quiet_step (fail))
   refine wpQuiet_nil ?_
   exact rfl
  ·intro f; kernel_rfl
  ·intro f f' hf; simp
 unfold genWalk
 apply Exists.intro
 apply And.intro
 ·apply Piece.mk
  ·intro f v hv hr hne
   simp only [List.take_succ_cons, List.take_zero, List.drop_succ_cons, List.drop_zero, Nat.reduceSub]
   (try simp only [Act.put, List.setIfInBounds_toArray, List.set_cons_zero, List.set_cons_succ])
   (try simp only [newB_val, numB_val, ownB_val])
   repeat (go_big_quiet_step (fail))
   refine wpQuiet_nil ?_
   exact rfl
  ·intro f; kernel_rfl
  ·intro f f' hf; first | (simp; done) | (simp [hf 2 (by simp)])
 unfold genWalk
 apply Exists.intro
 apply And.intro
 ·apply Piece.mk
  ·intro f v hv hr hne
   simp only [List.take_succ_cons, List.take_zero, List.drop_succ_cons, List.drop_zero, Nat.reduceSub]
   (try simp only [Act.put, List.setIfInBounds_toArray, List.set_cons_zero, List.set_cons_succ])
   (try simp only [newB_val, numB_val, ownB_val])
   repeat (go_big_quiet_step (fail))
   refine wpQuiet_nil ?_
   exact rfl
  ·intro f; kernel_rfl
  ·intro f f' hf; simp
 simp only [List.take_succ_cons, List.take_zero, List.drop_succ_cons, List.drop_zero, Nat.reduceAdd, oneOp]
 refine ⟨fun f => ⟨rfl, fun u hu _ => ?_⟩, ?_⟩
 ·refine make_own (e := 35) (by (try simp only [Act.put, List.setIfInBounds_toArray, List.set_cons_zero, List.set_cons_succ]); (try simp only [newB_val, numB_val, ownB_val]); go_simp) (by simp)
 unfold genWalk
 apply Exists.intro
 apply And.intro
 ·apply Piece.mk
  ·intro f v hv hr hne
   simp only [List.take_zero, List.drop_succ_cons, List.drop_zero, Nat.reduceSub]
   (try simp only [Act.put, List.setIfInBounds_toArray, List.set_cons_zero, List.set_cons_succ])
   (try simp only [ownB_val])
   repeat (go_big_quiet_step (fail))
   refine wpQuiet_nil ?_
   exact rfl
  ·intro f; kernel_rfl
  ·intro f f' hf; simp
 intro f u' hup hph hmade hdist
 obtain ⟨⟨_, oN⟩, loN, hiN⟩ := hmade 2 (by omega) rfl
 obtain ⟨⟨_, o3⟩, lo3, hi3⟩ := hmade 6 (by omega) rfl
 have hne := hdist 2 6 (by omega) (by omega) rfl rfl (by omega)
 replace oN : NumO u' (f 2).1 z := oN
 replace o3 : Own u' (f 6).1 #[.bool false, .slice none 0 0] := o3
 clear hmade hdist hph
 simp only
 (try simp only [Act.put, List.setIfInBounds_toArray, List.set_cons_zero, List.set_cons_succ])
 (try simp only [newB_val, numB_val, ownB_val])
 generalize (f 2).1 = b9 at *
 generalize (f 6).1 = b3 at *
 clear f
 have hw1 : Below w.heap.size w u' := Upd.below hW hup (by simp)
 have p2 := o2.upd hup (by simp)
 have hkT := Upd.keeps (Keeps.refl _ _) hup
 obtain ⟨A9, n9, c9, hsl⟩ := slN_form z b9
 simp only [numV]
 rw [hsl]
 have HSL := Lib.hid hsl
 clear hsl o1 o2
 have o3c := o3.cell
 have o3f := o3.thaw
 refine effc_mem (by rfl) (fun K hK => ?_)
 go_simp
 refine hK _ _ ((hkT.new lo3 _).new lo3 _) (fun u1 hu1 => ?_)
 clear hK K
 have hs1 := hu1.size
 simp [World.setCell] at hs1
 have hw2 := ((hw1.setCell (p := ⟨b3, 0, none⟩) (by simp; omega) (.bool (sgnN z))).setCell (p := ⟨b3, 1, none⟩) (by simp; omega) (.slice A9 n9 c9)).trans (hu1.mono (by simp [World.setCell]; exact hw1.size))
 have k3 := ((o3.set 0 (.bool (sgnN z))).set 1 (.slice A9 n9 c9)).below hu1
 have k2 := ((p2.far (p := ⟨b3, 0, none⟩) (by simp; omega) (.bool (sgnN z))).far (p := ⟨b3, 1, none⟩) (by simp; omega) (.slice A9 n9 c9)).below hu1
 have N1 := Lib.hid (And.intro (Nat.lt_of_lt_of_le o2l loN) (And.intro (Nat.lt_of_lt_of_le hiN hs1) (((oN.far (p := ⟨b3, 0, none⟩) (by simp; omega) (.bool (sgnN z))).far (p := ⟨b3, 1, none⟩) (by simp; omega) (.slice A9 n9 c9)).below hu1)))
 have hk1 := ((hkT.new lo3 (.bool (sgnN z)) (p := ⟨b3, 0, none⟩)).new lo3 (.slice A9 n9 c9) (p := ⟨b3, 1, none⟩)).later hu1
 clear o3c o3f o3 p2 oN hkT hu1
 refine effc_mem (by rfl) (fun K hK => ?_)
 go_simp
 refine hK _ _ hk1 (fun u2 hu2 => ?_)
 clear hK K
 refine effc_nil ?_
 (try simp only [Act.put, List.setIfInBounds_toArray, List.set_cons_zero, List.set_cons_succ])
 have hw3 := hw2.trans (hu2.mono hw2.size)
 have j3 := k3.below hu2
 have j2 := k2.below hu2
 have j3c := j3.cell
 have j2c := j2.cell
 have j2f := j2.thaw
 have j2z := j2.lt
 have N2 := Lib.hid (And.intro N1.out.1 (And.intro (Nat.lt_of_lt_of_le N1.out.2.1 hu2.size) (N1.out.2.2.below hu2)))
 clear k3 k2 hk1 hu2 N1
 go_wp2
 refine retC (b := w.heap.size + 1) (v := .agg #[.bool (sgnN z), .slice A9 n9 c9]) ((j2.set 0 _).set 1 _) (fun w' hw' => by simp [results, Tryz.results64, go_sem, hw']) rfl ⟨⟨b9, by rw [numV, HSL.out], (N2.out.2.2.far (p := ⟨w.heap.size + 1, 0, none⟩) (by simp; have := N2.out.1; omega) _).far (p := ⟨w.heap.size + 1, 1, none⟩) (by simp; have := N2.out.1; omega) _, by have := N2.out.1; omega, by have := N2.out.2.1; simp; omega⟩, (hw3.setCell (by simp) _).setCell (by simp) _⟩
end Go.Proofs.YtflgngjocgiojaaGreat
