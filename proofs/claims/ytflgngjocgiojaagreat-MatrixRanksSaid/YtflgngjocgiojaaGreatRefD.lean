/- The reference's num: signed, Of, Cmp. -/
import Derived.Test.YtflgngjocgiojaaGreatRatA
import Derived.Test.YtflgngjocgiojaaGreatMatD
import Derived.Test.YtflgngjocgiojaaGreatRatH
namespace Go.Proofs.YtflgngjocgiojaaGreat
open Go.RowKit

set_option maxRecDepth 100000 in
set_option maxHeartbeats 1000000 in
theorem ref1_trim {w : World} {A : Option Addr} {n : Nat} {D : List Nat} (c : Nat) (hv : DigsAt w A n D) (hnc : n ≤ c) (hc : c ≤ 9223372036854775807) :
  Calls Tryz.prog 136 #[.slice A n c] w fun e w' => e = .returned (.slice A (trimN D n) c) ∧ Below w.heap.size w w' := by
 have HV := Lib.hid hv
 clear hv
 go_enter Tryz.func136, Tryz.ntmps136
 go_wp2
 have hw := Below.refl w.heap.size w
 have hcm : (c : Int) ≤ 9223372036854775807 := by omega
 go_loopw [3] (fun s wr => ∃ k : Nat, k ≤ n ∧ s = .int .i64 k ∧ trimN D k = trimN D n ∧ Below w.heap.size w wr) (fun s _ => (intOf s).toNat)
 case atStart => exact ⟨n, Nat.le_refl _, rfl, rfl, hw⟩
 case round =>
  clear hw
  obtain ⟨k, hk, rfl, ht, hw⟩ := hrel
  have HT := Lib.hid ht
  clear ht
  have hkm : (k : Int) ≤ 9223372036854775807 := by omega
  by_cases hk0 : k = 0
  ·subst hk0
   go_wp2
   go_ret
   exact ⟨by rw [← HT.out, trimN_zero]; rfl, hw⟩
  ·obtain ⟨j, hj⟩ : ∃ j, j + 1 = k := ⟨k - 1, by omega⟩
   have HJ := Lib.hid hj
   have hj1 : (0 : Int) < (k : Int) := by omega
   have hj2 : (k : Int) - 1 = (j : Int) := by omega
   have hj3 : (j : Int) < (n : Int) := by omega
   have hkc : (k : Int) ≤ (c : Int) := by omega
   have hkc2 : k ≤ c := by omega
   obtain ⟨d, hd⟩ : ∃ d, dAt D j = d := ⟨_, rfl⟩
   obtain ⟨b, off, hA, hb, a1⟩ := (HV.out.below hw).cells (show j < n by omega) hd
   subst hA
   by_cases h0 : d = 0
   ·subst h0
    have HT2 := Lib.hid (show trimN D j = trimN D n by rw [← HT.out, ← hj, trimN_yes hd])
    clear hd HT hj hk0
    go_wp2
    go_roundw
    case rel => exact ⟨j, by have := HJ.out; omega, rfl, HT2.out, hw⟩
    case measure => have := HJ.out; simp [intOf]; omega
   ·have hdi : ¬ (d : Int) = 0 := by omega
    have HT2 := Lib.hid (show k = trimN D n by rw [← HT.out, ← hj, trimN_no (by rw [hd]; exact h0)])
    clear hd HT h0 hj hk0
    go_wp2
    go_ret
    exact ⟨by rw [← HT2.out]; rfl, hw⟩
set_option maxRecDepth 100000 in
set_option maxHeartbeats 2000000 in
theorem ref1_Right {w : World} {v : Value} {neg : Bool} {D : List Nat} (hv : RawAt w v neg D) :
  Calls Tryz.prog 88 #[v] w fun r w' => r = .returned (.bool (rightN neg D)) ∧ Below w.heap.size w w' := by
 obtain ⟨ok, hok⟩ : ∃ z, rightN neg D = z := ⟨_, rfl⟩
 rw [hok]
 obtain ⟨A, n, c, rfl, h1, h2, h4⟩ := hv
 unfold rightN at hok
 rw [h4.len] at hok
 have hW := (Below.refl w.heap.size w).alloc (Nat.le_refl _) (.cells #[.bool neg, .slice A n c] 35)
 have HV := Lib.hid (And.intro h4 hok)
 clear h4 hok
 by_cases h0 : n = 0
 ·subst h0
  have hok := HV.out.2
  rw [if_pos rfl] at hok
  subst hok
  clear HV
  go_enter Tryz.func88, Tryz.ntmps88
  cases neg
  ·go_wp2
   go_ret
   exact ⟨rfl, hW⟩
  ·go_wp2
   go_ret
   exact ⟨rfl, hW⟩
 ·obtain ⟨p, hp⟩ : ∃ p, n - 1 = p := ⟨_, rfl⟩
  have hpi : (n : Int) - 1 = (p : Int) := by omega
  have hpl : (p : Int) < (n : Int) := by omega
  have hpc : (p : Int) < (c : Int) := by omega
  have h0i : ¬ (n : Int) = 0 := by omega
  have h0p : (0 : Int) < (n : Int) := by omega
  obtain ⟨d, hd⟩ : ∃ d, dAt D p = d := ⟨_, rfl⟩
  obtain ⟨b, off, hA, hb, a1⟩ := (HV.out.1.below hW).cells (k := p) (by omega) hd
  subst hA
  have hok := HV.out.2
  rw [if_neg h0, hp, hd] at hok
  by_cases h64 : n ≤ 64
  ·have h64i : (n : Int) ≤ (64 : Int) := by omega
   have hok2 : decide (d ≠ 0) = ok := by rw [← hok]; simp [h64]
   have HOK := Lib.hid hok2
   clear hok hok2 hd HV
   go_enter Tryz.func88, Tryz.ntmps88
   go_wp2
   go_ret
   exact ⟨by rw [← HOK.out]; exact congrArg (fun b => Ending.returned (.bool b)) (by
    rcases Nat.eq_zero_or_pos d with h | h
    ·subst h; rfl
    ·have e1 : d ≠ 0 := by omega
     have e2 : (d : Int) ≠ 0 := by omega
     rw [decide_eq_true e1]
     exact bne_iff_ne.2 e2), hW⟩
  ·have h64i : ¬ (n : Int) ≤ (64 : Int) := by omega
   have hok2 : ok = false := by rw [← hok]; simp; omega
   subst hok2
   clear hok hd HV a1
   go_enter Tryz.func88, Tryz.ntmps88
   go_wp2
   go_ret
   exact ⟨rfl, hW⟩
set_option maxRecDepth 100000 in
set_option maxHeartbeats 2000000 in
theorem ref1_digits {w : World} (m : Nat) (hm : m < 18446744073709551616) :
  Calls Tryz.prog 116 #[.int .u64 m] w fun r w' => NewD w m r w' ∧ Below w.heap.size w w' := by
 obtain ⟨lo, hlo⟩ : ∃ l, m % 4294967296 = l := ⟨_, rfl⟩
 obtain ⟨hi, hhi⟩ : ∃ l, m / 4294967296 = l := ⟨_, rfl⟩
 have hlo1 : lo < 4294967296 := by omega
 have hhi1 : hi < 4294967296 := by omega
 have hc1 : IntKind.u32.wrap (m : Int) = (lo : Int) := by rw [IntKind.wrap_u32]; omega
 have hc2 : (m : Int) / 4294967296 = (hi : Int) := by omega
 have hc3 : IntKind.u32.wrap (hi : Int) = (hi : Int) := by rw [IntKind.wrap_u32]; omega
 have HM := Lib.hid (And.intro hlo hhi)
 have hW := (Below.refl w.heap.size w).alloc (Nat.le_refl _) (.cells #[.int .u32 lo, .int .u32 hi] 97)
 have oD : OwnD (w.alloc (.cells #[.int .u32 lo, .int .u32 hi] 97)) w.heap.size [lo, hi] := Own.new (by simp)
 have hD := oD.digs (fun d hd => by
  simp at hd
  rcases hd with rfl | rfl <;> assumption)
 have HT := Lib.hid (ref1_trim 2 hD (Nat.le_refl _) (by omega))
 have HD := Lib.hid hD
 clear oD hD hlo hhi
 go_enter Tryz.func116, Tryz.ntmps116
 go_wp2_with fail
 generalize (w.alloc (.cells #[.int .u32 lo, .int .u32 hi] 97)) = W0 at *
 refine Calls.mono HT.out ?_
 rintro e w2 ⟨rfl, hb⟩
 have hw := hW.trans (hb.mono hW.size)
 have hd := HD.out.below hb
 have hlt := Nat.lt_of_lt_of_le (by obtain ⟨b, off, e, h, _⟩ := HD.out.row (by simp); cases e; exact h) hb.size
 have HH := Lib.hid (And.intro hd hlt)
 clear HT HD hb hd hlt
 go_wp2
 go_ret
 exact ⟨NewD.of HH.out.1 (by simp) (by rw [vD_cons, vD_cons, vD_nil]; have := HM.out; omega) HH.out.2, hw⟩
end Go.Proofs.YtflgngjocgiojaaGreat
namespace Go.Proofs.YtflgngjocgiojaaGreat
open Go.RowKit

set_option maxRecDepth 100000 in
set_option maxHeartbeats 4000000 in
theorem ref1_compare {w : World} {A1 A2 : Option Addr} {n1 n2 M N : Nat} (c1 c2 : Nat) (h1 : DigsAt w A1 n1 (digs M)) (h2 : DigsAt w A2 n2 (digs N)) (hm1 : n1 ≤ 2000) (hm2 : n2 ≤ 2000) :
  Calls Tryz.prog 89 #[.slice A1 n1 c1, .slice A2 n2 c2] w fun r w' => r = .returned (.int .i64 (ordI (M : Nat) (N : Nat))) ∧ Below w.heap.size w w' := by
 obtain ⟨o, ho⟩ : ∃ o, ordI (M : Nat) (N : Nat) = o := ⟨_, rfl⟩
 rw [ho]
 have hl1 := h1.len
 have hl2 := h2.len
 by_cases hne : n1 = n2
 ·subst hne
  have hmi : (n1 : Int) ≤ 2000 := by omega
  have hself : ¬ (n1 : Int) < (n1 : Int) := by omega
  have H1 := Lib.hid h1
  have H2 := Lib.hid h2
  have HO := Lib.hid ho
  have HL := Lib.hid (And.intro hl1 hl2)
  clear h1 h2 ho hl1 hl2 hm2
  go_enter Tryz.func89, Tryz.ntmps89
  go_wp2
  have hw := Below.refl w.heap.size w
  go_loopw [5] (fun i wr => ∃ k : Nat, k ≤ n1 ∧ i = .int .i64 ((k : Int) - 1) ∧ (∀ i, k ≤ i → i < n1 → dAt (digs M) i = dAt (digs N) i) ∧ Below w.heap.size w wr) (fun i _ => (intOf i + 1).toNat)
  case atStart => exact ⟨n1, Nat.le_refl _, rfl, fun i a b => by omega, hw⟩
  case round =>
   clear hw
   obtain ⟨k, hk, rfl, hall, hw⟩ := hrel
   have HA := Lib.hid hall
   clear hall
   by_cases hk0 : k = 0
   ·subst hk0
    have hneg : ((0 : Nat) : Int) - 1 = -1 := rfl
    rw [hneg]
    have ho : o = 0 := by
     have e : digs M = digs N := eq_of_dAt (by rw [HL.out.1, HL.out.2]) (fun i hi => HA.out i (Nat.zero_le _) (by rw [HL.out.1] at hi; exact hi))
     have e2 := congrArg vD e
     rw [digs_val, digs_val] at e2
     rw [← HO.out, e2, ordI_eq]
    subst ho
    go_wp2
    go_ret
    exact ⟨rfl, hw⟩
   ·obtain ⟨j, rfl⟩ : ∃ j, k = j + 1 := ⟨k - 1, by omega⟩
    have hj : ((j + 1 : Nat) : Int) - 1 = (j : Int) := by omega
    rw [hj]
    have hj0 : (0 : Int) ≤ (j : Int) := by omega
    have hjn : (j : Int) < (n1 : Int) := by omega
    obtain ⟨d, hd⟩ : ∃ d, dAt (digs M) j = d := ⟨_, rfl⟩
    obtain ⟨e, he⟩ : ∃ d, dAt (digs N) j = d := ⟨_, rfl⟩
    obtain ⟨b, off, hA, hb, a1⟩ := (H1.out.below hw).cells (show j < n1 by omega) hd
    obtain ⟨b2, off2, hA2, hb2, a2⟩ := (H2.out.below hw).cells (show j < n1 by omega) he
    subst hA
    subst hA2
    have hdg1 := (digs_dg M).at_ j
    have hdg2 := (digs_dg N).at_ j
    rw [hd] at hdg1
    rw [he] at hdg2
    have HS : Hid (d ≠ e → ordI (d : Nat) (e : Nat) = o) := Lib.hid (fun hne => by
     rw [← HO.out, ← digs_val M, ← digs_val N, digs_val M, digs_val N]
     have q := vD_ord (digs_dg M) (digs_dg N) (by rw [HL.out.1, HL.out.2]) (k := j) (by rw [HL.out.1]; omega) (by rw [hd, he]; exact hne) (fun i a b => HA.out i (by omega) (by rw [HL.out.1] at b; exact b))
     rw [hd, he, digs_val, digs_val] at q
     exact q)
    have HE : Hid (d = e → ∀ i, j ≤ i → i < n1 → dAt (digs M) i = dAt (digs N) i) := Lib.hid (fun heq i a b => by
     rcases Nat.eq_or_lt_of_le a with h | h
     ·rw [← h, hd, he, heq]
     ·exact HA.out i (by omega) b)
    clear hd he HA hk0 hj
    go_wp2
    by_cases hlt : d < e
    ·have hlti : (d : Int) < (e : Int) := by omega
     refine region_late 9 [] (by kernel_rfl) (by kernel_rfl) (by rfl) ?_
     apply Exists.intro
     refine ⟨fun v hv hne => ?_, fun u hu => ?_⟩
     ·simp only [List.take_succ_cons, List.take_zero]
      have f1 := fun x : Later [] wr v => (x.cell b (off + j) hb (by simp)).trans a1
      have f2 := fun x : Later [] wr v => (x.cell b2 (off2 + j) hb2 (by simp)).trans a2
      repeat (go_big_quiet_step (fail))
      refine wpQuiet_nil ?_
      exact rfl
     ·simp only [List.drop_succ_cons, List.drop_zero]
      refine late_nil ?_
      (try simp only [Act.put, List.setIfInBounds_toArray, List.set_cons_zero, List.set_cons_succ])
      have hw2 := hw.trans (hu.mono hw.size)
      have ho := HS.out (by omega)
      rw [ordI_lt hlti] at ho
      subst ho
      clear HS HE HO
      go_wp2
      go_ret
      exact ⟨rfl, hw2⟩
    ·have hlti : ¬ (d : Int) < (e : Int) := by omega
     refine region_late 9 [] (by kernel_rfl) (by kernel_rfl) (by rfl) ?_
     apply Exists.intro
     refine ⟨fun v hv hne => ?_, fun u hu => ?_⟩
     ·simp only [List.take_succ_cons, List.take_zero]
      have f1 := fun x : Later [] wr v => (x.cell b (off + j) hb (by simp)).trans a1
      have f2 := fun x : Later [] wr v => (x.cell b2 (off2 + j) hb2 (by simp)).trans a2
      repeat (go_big_quiet_step (fail))
      refine wpQuiet_nil ?_
      exact rfl
     ·simp only [List.drop_succ_cons, List.drop_zero]
      refine late_nil ?_
      (try simp only [Act.put, List.setIfInBounds_toArray, List.set_cons_zero, List.set_cons_succ])
      have hw2 := hw.trans (hu.mono hw.size)
      replace a1 := (hu.cell (p := ⟨b, off + j, none⟩) hb).trans a1
      replace a2 := (hu.cell (p := ⟨b2, off2 + j, none⟩) hb2).trans a2
      replace hb := Nat.lt_of_lt_of_le hb hu.size
      replace hb2 := Nat.lt_of_lt_of_le hb2 hu.size
      go_wp2
      by_cases hgt : e < d
      ·have hgti : (e : Int) < (d : Int) := by omega
       refine region_late 9 [] (by kernel_rfl) (by kernel_rfl) (by rfl) ?_
       apply Exists.intro
       refine ⟨fun v hv hne => ?_, fun u3 hu3 => ?_⟩
       ·simp only [List.take_succ_cons, List.take_zero]
        have f1 := fun x : Later [] u v => (x.cell b (off + j) hb (by simp)).trans a1
        have f2 := fun x : Later [] u v => (x.cell b2 (off2 + j) hb2 (by simp)).trans a2
        repeat (go_big_quiet_step (fail))
        refine wpQuiet_nil ?_
        exact rfl
       ·simp only [List.drop_succ_cons, List.drop_zero]
        refine late_nil ?_
        (try simp only [Act.put, List.setIfInBounds_toArray, List.set_cons_zero, List.set_cons_succ])
        have hw3 := hw2.trans (hu3.mono hw2.size)
        have ho := HS.out (by omega)
        rw [ordI_gt hgti] at ho
        subst ho
        clear HS HE HO
        go_wp2
        go_ret
        exact ⟨rfl, hw3⟩
      ·have hgti : ¬ (e : Int) < (d : Int) := by omega
       refine region_late 9 [] (by kernel_rfl) (by kernel_rfl) (by rfl) ?_
       apply Exists.intro
       refine ⟨fun v hv hne => ?_, fun u3 hu3 => ?_⟩
       ·simp only [List.take_succ_cons, List.take_zero]
        have f1 := fun x : Later [] u v => (x.cell b (off + j) hb (by simp)).trans a1
        have f2 := fun x : Later [] u v => (x.cell b2 (off2 + j) hb2 (by simp)).trans a2
        repeat (go_big_quiet_step (fail))
        refine wpQuiet_nil ?_
        exact rfl
       ·simp only [List.drop_succ_cons, List.drop_zero]
        refine late_nil ?_
        (try simp only [Act.put, List.setIfInBounds_toArray, List.set_cons_zero, List.set_cons_succ])
        have hw3 := hw2.trans (hu3.mono hw2.size)
        have HEE := Lib.hid (HE.out (by omega))
        clear HS HE
        go_wp2
        go_roundw
        case rel => exact ⟨j, by omega, by first | rfl | (congr 1), HEE.out, hw3⟩
        case measure => simp [intOf]
 ·have ho2 : o = if n1 < n2 then -1 else 1 := by
   have q := digs_ord (M := M) (N := N) (by rw [hl1, hl2]; exact hne)
   rw [hl1, hl2, ho] at q
   rw [← q]
   by_cases h : n1 < n2
   ·rw [if_pos h, ordI_lt (by omega)]
   ·rw [if_neg h, ordI_gt (by omega)]
  clear ho h1 h2 hl1 hl2
  by_cases h : n1 < n2
  ·have hi : (n1 : Int) < (n2 : Int) := by omega
   rw [if_pos h] at ho2
   subst ho2
   go_enter Tryz.func89, Tryz.ntmps89
   go_wp2
   go_ret
   exact ⟨rfl, Below.refl _ _⟩
  ·have hi : ¬ (n1 : Int) < (n2 : Int) := by omega
   have hi2 : (n2 : Int) < (n1 : Int) := by omega
   rw [if_neg h] at ho2
   subst ho2
   go_enter Tryz.func89, Tryz.ntmps89
   go_wp2
   go_ret
   exact ⟨rfl, Below.refl _ _⟩
theorem sameRaw {s1 s2 : Bool} {D1 D2 : List Nat} (h : ¬ (s1 = s2 ∧ D1.length = D2.length)) : decide (s1 = s2 ∧ D1 = D2) = false :=
 decide_eq_false fun ⟨a, b⟩ => h ⟨a, by rw [b]⟩
set_option maxRecDepth 100000 in
set_option maxHeartbeats 4000000 in
theorem ref1_Same {w : World} {v1 v2 : Value} {s1 s2 : Bool} {D1 D2 : List Nat} (h1 : RawAt w v1 s1 D1) (h2 : RawAt w v2 s2 D2) :
  Calls Tryz.prog 77 #[v1, v2] w fun r w' => r = .returned (.bool (decide (s1 = s2 ∧ D1 = D2))) ∧ Below w.heap.size w w' := by
 obtain ⟨A1, n1, c1, rfl, hc1, hm1, d1⟩ := h1
 obtain ⟨A2, n2, c2, rfl, hc2, hm2, d2⟩ := h2
 have hl1 := d1.len
 have hl2 := d2.len
 have hW := (((Below.refl w.heap.size w).alloc (Nat.le_refl _) (.cells #[.bool s1, .slice A1 n1 c1] 35)).alloc (by simp) (.cells #[.bool s2, .slice A2 n2 c2] 35))
 have o2 : Own ((w.alloc (.cells #[.bool s1, .slice A1 n1 c1] 35)).alloc (.cells #[.bool s2, .slice A2 n2 c2] 35)) w.heap.size #[.bool s1, .slice A1 n1 c1] := (by repeat' (first | ((refine Own.new ?_); (focus (first | rfl | omega | (simp; done) | (simp; omega)))) | assumption | refine Own.alloc ?_ _ | refine Own.drew ?_ | (refine Own.far ?_ ?_ _; rotate_left; (focus (first | rfl | omega | (simp; done) | (simp; omega))))))
 have o3 : Own ((w.alloc (.cells #[.bool s1, .slice A1 n1 c1] 35)).alloc (.cells #[.bool s2, .slice A2 n2 c2] 35)) (w.heap.size + 1) #[.bool s2, .slice A2 n2 c2] := (by repeat' (first | ((refine Own.new ?_); (focus (first | rfl | omega | (simp; done) | (simp; omega)))) | assumption | refine Own.alloc ?_ _ | refine Own.drew ?_ | (refine Own.far ?_ ?_ _; rotate_left; (focus (first | rfl | omega | (simp; done) | (simp; omega))))))
 by_cases hs : s1 = s2
 ·by_cases hn : n1 = n2
  ·subst hs
   subst hn
   have hsb : (s1 == s1) = true := by cases s1 <;> rfl
   have hnn : ((n1 : Int) == (n1 : Int)) = true := by simp
   obtain ⟨o, ho⟩ : ∃ o, decide (s1 = s1 ∧ D1 = D2) = o := ⟨_, rfl⟩
   rw [ho]
   have hnm : (n1 : Int) ≤ 9223372036854775807 := by omega
   have hnm2 : (n1 : Int) < 9223372036854775807 ∨ n1 = 9223372036854775807 := by omega
   have HL := Lib.hid (And.intro hl1 (And.intro hl2 ho))
   have H1 := Lib.hid d1
   have H2 := Lib.hid d2
   clear d1 d2 hl1 hl2 ho hnm2
   go_enter Tryz.func77, Tryz.ntmps77
   go_wp2
   generalize ((w.alloc (.cells #[.bool s1, .slice A1 n1 c1] 35)).alloc (.cells #[.bool s1, .slice A2 n1 c2] 35)) = W0 at *
   have o2z := o2.lt
   have o3z := o3.lt
   go_loopw [5] (fun i wr => ∃ k : Nat, k ≤ n1 ∧ i = .int .i64 k ∧ (∀ i, i < k → dAt D1 i = dAt D2 i) ∧ Below w.heap.size w wr ∧ Own wr w.heap.size #[.bool s1, .slice A1 n1 c1] ∧ Own wr (w.heap.size + 1) #[.bool s1, .slice A2 n1 c2]) (fun i _ => n1 - (intOf i).toNat)
   case atStart => exact ⟨0, Nat.zero_le _, rfl, fun i a => by omega, hW, o2, o3⟩
   case round =>
    clear hW o2 o3 o2z o3z
    obtain ⟨k, hk, rfl, hall, hw, o2, o3⟩ := hrel
    have HA := Lib.hid hall
    clear hall
    have o2c := o2.cell
    have o3c := o3.cell
    have o2f := o2.thaw
    have o3f := o3.thaw
    have o2z := o2.lt
    have o3z := o3.lt
    by_cases hkn : k < n1
    ·have hkni : (k : Int) < (n1 : Int) := by omega
     obtain ⟨d, hd⟩ : ∃ d, dAt D1 k = d := ⟨_, rfl⟩
     obtain ⟨e, he⟩ : ∃ d, dAt D2 k = d := ⟨_, rfl⟩
     obtain ⟨b, off, hA, hb, a1⟩ := (H1.out.below hw).cells hkn hd
     obtain ⟨b2, off2, hA2, hb2, a2⟩ := (H2.out.below hw).cells hkn he
     subst hA
     subst hA2
     have HD := Lib.hid (And.intro hd he)
     clear hd he
     go_wp2
     by_cases heq : d = e
     ·subst heq
      have hbe : ((d : Int) == (d : Int)) = true := by simp
      refine region_late 11 [] (by kernel_rfl) (by kernel_rfl) (by rfl) ?_
      apply Exists.intro
      refine ⟨fun v hv hne => ?_, fun u hu => ?_⟩
      ·simp only [List.take_succ_cons, List.take_zero]
       have f1 := fun x : Later [] wr v => (x.cell b (off + k) hb (by simp)).trans a1
       have f2 := fun x : Later [] wr v => (x.cell b2 (off2 + k) hb2 (by simp)).trans a2
       have g1 := fun x => (o2.later (v := v) (T := []) (by simp) x).cell
       have g2 := fun x => (o3.later (v := v) (T := []) (by simp) x).cell
       repeat (go_big_quiet_step (fail))
       refine wpQuiet_nil ?_
       exact rfl
      ·simp only [List.drop_succ_cons, List.drop_zero]
       refine late_nil ?_
       (try simp only [Act.put, List.setIfInBounds_toArray, List.set_cons_zero, List.set_cons_succ])
       have hw2 := hw.trans (hu.mono hw.size)
       have p2 := o2.below hu
       have p3 := o3.below hu
       clear o2 o3 o2c o3c o2f o3f
       go_wp2
       go_roundw
       case rel => exact ⟨k + 1, by omega, by go_num, fun i a => by
        rcases Nat.eq_or_lt_of_le (Nat.lt_succ_iff.1 a) with h | h
        ·rw [h, HD.out.1, HD.out.2]
        ·exact HA.out i h, hw2, p2, p3⟩
       case measure => simp [intOf]; omega
     ·have hbe : ((d : Int) == (e : Int)) = false := by simp; omega
      have hdi : ¬ (d : Int) = (e : Int) := by omega
      have hof : o = false := by
       rw [← HL.out.2.2]
       refine decide_eq_false fun ⟨_, h⟩ => heq ?_
       rw [← HD.out.1, ← HD.out.2, h]
      subst hof
      refine region_late 11 [] (by kernel_rfl) (by kernel_rfl) (by rfl) ?_
      apply Exists.intro
      refine ⟨fun v hv hne => ?_, fun u hu => ?_⟩
      ·simp only [List.take_succ_cons, List.take_zero]
       have f1 := fun x : Later [] wr v => (x.cell b (off + k) hb (by simp)).trans a1
       have f2 := fun x : Later [] wr v => (x.cell b2 (off2 + k) hb2 (by simp)).trans a2
       have g1 := fun x => (o2.later (v := v) (T := []) (by simp) x).cell
       have g2 := fun x => (o3.later (v := v) (T := []) (by simp) x).cell
       repeat (go_big_quiet_step (fail))
       refine wpQuiet_nil ?_
       exact rfl
      ·simp only [List.drop_succ_cons, List.drop_zero]
       refine late_nil ?_
       (try simp only [Act.put, List.setIfInBounds_toArray, List.set_cons_zero, List.set_cons_succ])
       have hw2 := hw.trans (hu.mono hw.size)
       go_wp2
       go_ret
       exact ⟨rfl, hw2⟩
    ·obtain rfl : k = n1 := by omega
     have hkni : ¬ (k : Int) < (k : Int) := by omega
     have hot : o = true := by
      rw [← HL.out.2.2]
      exact decide_eq_true ⟨by first | trivial | rfl, eq_of_dAt (by rw [HL.out.1, HL.out.2.1]) (fun i hi => HA.out i (by rw [HL.out.1] at hi; exact hi))⟩
     subst hot
     go_wp2
     go_ret
     exact ⟨rfl, hw⟩
  ·rw [sameRaw (by rw [hl1, hl2]; exact fun h => hn h.2)]
   subst hs
   have hni : ¬ (n1 : Int) = (n2 : Int) := by omega
   clear d1 d2 hl1 hl2
   go_enter Tryz.func77, Tryz.ntmps77
   go_wp2
   go_ret
   exact ⟨rfl, hW⟩
 ·rw [sameRaw fun h => hs h.1]
  clear d1 d2 hl1 hl2
  go_enter Tryz.func77, Tryz.ntmps77
  cases s1 <;> cases s2
  ·exact absurd rfl hs
  ·go_wp2
   go_ret
   exact ⟨rfl, hW⟩
  ·go_wp2
   go_ret
   exact ⟨rfl, hW⟩
  ·exact absurd rfl hs
set_option maxRecDepth 100000 in
set_option maxHeartbeats 4000000 in
theorem ref1_word {w : World} {A : Option Addr} {n : Nat} {D : List Nat} (c : Nat) (hv : DigsAt w A n D) (hn : n ≤ 2) :
  Calls Tryz.prog 137 #[.slice A n c] w fun r w' => r = .returned (.int .u64 (vD D : Nat)) ∧ Below w.heap.size w w' := by
 obtain ⟨o, ho⟩ : ∃ o, vD D = o := ⟨_, rfl⟩
 rw [ho]
 have hl := hv.len
 have HV := Lib.hid hv
 have HO := Lib.hid (And.intro hl ho)
 clear hv ho hl
 have hw := Below.refl w.heap.size w
 have hmi : (n : Int) ≤ 2 := by omega
 go_enter Tryz.func137, Tryz.ntmps137
 go_wp2
 go_loopw [3, 4] (fun s i wr => ∃ k : Nat, k ≤ n ∧ i = .int .i64 k ∧ s = .int .u64 (vD (D.take k) : Nat) ∧ Below w.heap.size w wr) (fun _ i _ => n - (intOf i).toNat)
 case atStart => exact ⟨0, Nat.zero_le _, rfl, rfl, hw⟩
 case round =>
  clear hw
  obtain ⟨k, hk, rfl, rfl, hw⟩ := hrel
  by_cases hkn : k < n
  ·have hkni : (k : Int) < (n : Int) := by omega
   obtain ⟨d, hd⟩ : ∃ d, dAt D k = d := ⟨_, rfl⟩
   obtain ⟨b, off, hA, hb, a1⟩ := (HV.out.below hw).cells hkn hd
   subst hA
   have hd1 : d < 4294967296 := by rw [← hd]; exact HV.out.dg.at_ k
   have hlt := vD_lt (HV.out.dg.take k)
   have hlk : (D.take k).length = k := by rw [List.length_take, HO.out.1]; omega
   rw [hlk] at hlt
   have hstep : vD (D.take (k + 1)) = vD (D.take k) + 4294967296 ^ k * d := by rw [vD_take', hd]
   have HN : ∃ s', vD (D.take (k + 1)) = s' := ⟨_, rfl⟩
   obtain ⟨s', hs'⟩ := HN
   rw [hs'] at hstep
   obtain ⟨s, hs⟩ : ∃ s, vD (D.take k) = s := ⟨_, rfl⟩
   rw [hs] at hstep hlt ⊢
   have HS := Lib.hid hs'
   clear hs hs' hd hlk
   have hk2 : k = 0 ∨ k = 1 := by omega
   rcases hk2 with rfl | rfl
   ·have h1 : s = 0 := by simpa using hlt
    subst h1
    have h2 : s' = d := by simpa using hstep
    subst h2
    clear hstep hlt
    rw [Nat.add_zero] at a1
    have hu : IntKind.u64.wrap (s' : Int) = (s' : Int) := by rw [IntKind.wrap_u64]; omega
    go_wp2
    go_roundw
    case rel => exact ⟨1, by omega, rfl, by rw [HS.out], hw⟩
    case measure => simp [intOf]; omega
   ·have h1 : s < 4294967296 := by simpa using hlt
    have h2 : s' = s + 4294967296 * d := by simpa using hstep
    have hu : IntKind.u64.wrap ((d : Int) * 4294967296) = (d : Int) * 4294967296 := by rw [IntKind.wrap_u64]; omega
    have hu2 : (s : Int) + (d : Int) * 4294967296 = (s' : Int) := by omega
    have hu3 : (s' : Int) ≤ 18446744073709551615 := by omega
    clear hstep hlt h2
    go_wp2
    go_roundw
    case rel => exact ⟨2, by omega, rfl, by rw [HS.out], hw⟩
    case measure => simp [intOf]; omega
  ·obtain rfl : k = n := by omega
   have hkni : ¬ (k : Int) < (k : Int) := by omega
   have e : vD (D.take k) = o := by rw [List.take_of_length_le (by rw [HO.out.1]; exact Nat.le_refl _), HO.out.2]
   rw [e]
   clear HV HO e
   go_wp2
   go_ret
   exact ⟨rfl, hw⟩
end Go.Proofs.YtflgngjocgiojaaGreat
namespace Go.Proofs.YtflgngjocgiojaaGreat
open Go.RowKit

/-- A number of the reference: value z, its digits in block b with capacity C; zero, where it does not fit. -/
def slC (z : Int) (b C : Nat) : Value := if fits z = true ∧ z ≠ 0 then .slice (some ⟨b, 0, none⟩) (digs z.natAbs).length C else .slice none 0 0
def numC (z : Int) (b C : Nat) : Value := .agg #[.bool (sgnN z), slC z b C]
def NumC (w : World) (b C : Nat) (z : Int) : Prop := fits z = true → z ≠ 0 → (digs z.natAbs).length ≤ C ∧ C ≤ 9223372036854775807 ∧ DigsAt w (some ⟨b, 0, none⟩) (digs z.natAbs).length (digs z.natAbs)
theorem slC_form (z : Int) (b C : Nat) : ∃ A n c, slC z b C = .slice A n c := by
 unfold slC
 split
 ·exact ⟨_, _, _, rfl⟩
 ·exact ⟨_, _, _, rfl⟩
theorem slC_addr {z : Int} {b C n c : Nat} {a : Addr} (h : slC z b C = .slice (some a) n c) : a = ⟨b, 0, none⟩ := by
 unfold slC at h
 split at h
 ·injection h with h; injection h with h; exact h.symm
 ·injection h with h; cases h
theorem slC_zero (b C : Nat) : slC 0 b C = .slice none 0 0 := by unfold slC; rw [if_neg (by simp)]
theorem numC_zero (b C : Nat) : numC 0 b C = zeroN := by unfold numC; rw [slC_zero]; rfl
theorem numC_no {z : Int} (b C : Nat) (h : fits z = false) : numC z b C = zeroN := by
 unfold numC sgnN slC zeroN
 rw [if_neg (by rw [h]; simp), h]
 rfl
theorem numC_yes {z : Int} (b C : Nat) (h : fits z = true) (h0 : z ≠ 0) : numC z b C = .agg #[.bool (decide (z < 0)), .slice (some ⟨b, 0, none⟩) (digs z.natAbs).length C] := by
 unfold numC sgnN slC
 rw [if_pos ⟨h, h0⟩, h]
 rfl
theorem NumC.at_ {w : World} {b C : Nat} {z : Int} (h : NumC w b C z) (hf : fits z = true) : NumAt w (numC z b C) z := by
 by_cases h0 : z = 0
 ·subst h0
  rw [numC_zero]
  exact num_zero w
 ·rw [numC_yes b C hf h0]
  have hl : (digs z.natAbs).length ≤ 64 := of_decide_eq_true hf
  obtain ⟨h1, h2, h3⟩ := h hf h0
  exact ⟨_, _, _, rfl, h1, h2, hl, h3⟩
theorem NumC.below {w w' : World} {b C : Nat} {z : Int} (h : NumC w b C z) (hb : Below w.heap.size w w') : NumC w' b C z := fun h1 h2 => ⟨(h h1 h2).1, (h h1 h2).2.1, (h h1 h2).2.2.below hb⟩
theorem NumC.far {w : World} {b C : Nat} {z : Int} (h : NumC w b C z) {p : Addr} (hp : b ≠ p.block) (x : Value) : NumC (w.setCell p x) b C z := fun h1 h2 => ⟨(h h1 h2).1, (h h1 h2).2.1, (h h1 h2).2.2.same (by simp [World.setCell]) fun a e => by
 cases e
 exact Below.heap_setCell _ _ _ b hp⟩
theorem NumC.upd {T : List Nat} {w u : World} {b C : Nat} {z : Int} (h : NumC w b C z) (hT : b ∉ T) (k : Upd T w u) : NumC u b C z := fun h1 h2 => by
 obtain ⟨h3, h4, h5⟩ := h h1 h2
 refine ⟨h3, h4, h5.len, h5.dg, fun hp => ?_⟩
 obtain ⟨b', off, e, hlt, hc⟩ := h5.row hp
 cases e
 exact ⟨_, _, rfl, Nat.lt_of_lt_of_le hlt k.size, fun i hi => (World.cell?_of_block (a := ⟨_, 0 + i, none⟩) (k.block _ hlt hT)).trans (hc i hi)⟩
theorem add_off (b off j : Nat) : (⟨b, off, none⟩ : Addr).add j = ⟨b, off + j, none⟩ := by
 unfold Addr.add
 by_cases h : j = 0
 ·rw [if_pos h, h]; rfl
 ·rw [if_neg h]
/-- A function of the reference has returned a number, and whether it fits. -/
def RetM (w : World) (z : Int) (r : Ending) (w' : World) : Prop := (∃ b C, r = .returned (.tuple #[numC z b C, .bool (fits z)]) ∧ NumC w' b C z ∧ w.heap.size ≤ b ∧ b < w'.heap.size) ∧ Below w.heap.size w w'
/-- A function of the reference has returned a number. -/
def RetX (w : World) (z : Int) (r : Ending) (w' : World) : Prop := (∃ b C, r = .returned (numC z b C) ∧ NumC w' b C z ∧ w.heap.size ≤ b ∧ b < w'.heap.size) ∧ Below w.heap.size w w'
theorem refD_at {D : List Nat} {i : Nat} (h : i < D.length) : (D.map fun d => Value.int .u32 ((d : Nat) : Int))[i]? = some (.int .u32 (dAt D i : Nat)) := by
 rw [List.getElem?_map, List.getElem?_eq_getElem h, dAt_in h]; rfl
theorem own_grown {w w' : World} {b : Nat} {cs : Array Value} {row : Option Nat} (h : Own w b cs) (hg : w.grownBy w' row) (hr : ∀ r, row = some r → r ≠ b) : Own w' b cs :=
 h.of_block (hg.block b h.lt (fun e => hr b e.symm rfl))
set_option maxRecDepth 100000 in
set_option maxHeartbeats 4000000 in
theorem ref1_signed {w : World} {A : Option Addr} {n : Nat} {D : List Nat} {z : Int} {neg : Bool} (c : Nat) (hv : DigsAt w A n D) (hnc : n ≤ c) (hc : c ≤ 9223372036854775807) (e : sg neg (vD D) = z) :
  Calls Tryz.prog 115 #[.bool neg, .slice A n c] w (RetM w z) := by
 unfold RetM
 obtain ⟨i0, hi, hz0, hz1, hz2⟩ := infoU_parts
 obtain ⟨ok, hok⟩ : ∃ o, fits z = o := ⟨_, rfl⟩
 rw [hok]
 have HZ := Lib.hid (And.intro e hok)
 clear e
 have HV := Lib.hid hv
 clear hok hv
 have hW := (Below.refl w.heap.size w).alloc (Nat.le_refl _) (.cells #[.bool false, .slice none 0 0] 35)
 have o0 : Own (w.alloc (.cells #[.bool false, .slice none 0 0] 35)) w.heap.size #[.bool false, .slice none 0 0] := Own.new rfl
 go_enter Tryz.func115, Tryz.ntmps115
 go_wp2_with fail
 have HT := Lib.hid (ref1_trim c (HV.out.below hW) hnc hc)
 refine Calls.mono HT.out ?_
 rintro e w2 ⟨rfl, hb2⟩
 have hw2 := hW.trans (hb2.mono hW.size)
 have ht := trim_sl (HV.out.below hw2) hnc hc
 have o1 := o0.below hb2
 have htl := trim_len HV.out.dg HV.out.len
 clear HT o0
 generalize trimN D n = N at *
 have hNc : N ≤ c := by
  obtain ⟨A', n', c', e, h1, _⟩ := ht
  cases e
  exact h1
 have hdg : DigsAt w2 A N (digs (vD D)) := by
  obtain ⟨A', n', c', e, _, _, h2⟩ := ht
  cases e
  exact h2
 have hok2 : ok = decide (N ≤ 64) := by rw [← HZ.out.2, ← HZ.out.1, fits, sg_abs, htl]
 have HT := Lib.hid (And.intro htl hdg)
 have HOK := Lib.hid hok2
 clear ht htl hdg hok2 hb2 hW
 have o1c := o1.cell
 have o1f := o1.thaw
 have o1z := o1.lt
 by_cases h64 : 64 < N
 ·have h64i : (64 : Int) < (N : Int) := by omega
  have hof : ok = false := by rw [HOK.out]; exact decide_eq_false (by omega)
  subst hof
  go_wp2
  refine retC (b := w.heap.size) (v := .tuple #[zeroN, .bool false]) ((o1.set 0 _).set 1 _) (fun w' hw' => by simp [results, Tryz.results115, go_sem, hw', zeroN]) rfl ⟨⟨w.heap.size, 0, by rw [numC_no _ _ HZ.out.2], fun h => by (rw [HZ.out.2] at h; cases h), Nat.le_refl _, by simp [World.setCell]; omega⟩, (hw2.setCell (Nat.le_refl _) _).setCell (Nat.le_refl _) _⟩
 ·have hot : ok = true := by rw [HOK.out]; exact decide_eq_true (by omega)
  subst hot
  have h64j : ¬ (64 : Int) < (N : Int) := by omega
  by_cases h0 : N = 0
  ·subst h0
   have e0 : vD D = 0 := digs_nil.1 (List.eq_nil_of_length_eq_zero HT.out.1.symm)
   have e1 : z = 0 := by
    rw [← HZ.out.1, e0]
    unfold sg
    split <;> rfl
   subst e1
   go_wp2
   refine retC (b := w.heap.size) (v := .tuple #[zeroN, .bool true]) ((o1.set 0 _).set 1 _) (fun w' hw' => by simp [results, Tryz.results115, go_sem, hw', zeroN]) rfl ⟨⟨w.heap.size, 0, by rw [numC_zero], fun _ h => absurd rfl h, Nat.le_refl _, by simp [World.setCell]; omega⟩, (hw2.setCell (Nat.le_refl _) _).setCell (Nat.le_refl _) _⟩
  ·have h0i : ¬ (N : Int) = 0 := by omega
   obtain ⟨b, off, rfl, hbb, hcell⟩ := HT.out.2.row (by omega)
   have hs2 := hw2.size
   have hrow0 : (w2.alloc (.cells #[] 97)).ownsRow w2.heap.size 97 1 (.slice (some ⟨w2.heap.size, 0, none⟩) 0 0) 0 [] := by
    have q := World.ownsRow_lit (base := w2.heap.size) (e := 97) (size := 1) w2 #[] 0 (by simp) (by unfold maxLen; omega) (by simp)
    simpa using q
   have HROW := Lib.hid hrow0
   have HC := Lib.hid hcell
   clear hrow0 hcell
   go_wp2_with (at_builtin; go_loud (refine wpList_append_lies _ rfl _ _ _ (by rfl) w2.heap.size 97 i0 (.int .u32 0) 1 4 Tryz.underlying33 hi hz0 hz1 hz2 rfl (by omega) _ 0 [] (by rfl) HROW.out ⟨b, off, none⟩ N c ((digs (vD D)).map fun d => Value.int .u32 ((d : Nat) : Int)) (by rfl) (by rw [List.length_map, ← HT.out.1, Nat.mul_one]) ?c1 ?c2 (by omega) ?c3 ?c4 ?c5 (w2.heap.size + 1) (by simp) ?_))
   case c1 =>
    intro j u hu
    have hj : j < (digs (vD D)).length := by
     apply Classical.byContradiction
     intro h
     rw [List.getElem?_eq_none (by rw [List.length_map]; omega)] at hu
     cases hu
    rw [refD_at hj] at hu
    cases hu
    have q := HC.out j (by rw [HT.out.1]; exact hj)
    rw [add_off b off j]
    exact (World.cell?_of_block (w := w2) (a := ⟨b, off + j, none⟩) (((Below.refl w2.heap.size w2).alloc (Nat.le_refl _) (.cells #[] 97)).block b hbb)).trans q
   case c2 =>
    intro u hu
    obtain ⟨d, _, rfl⟩ := List.mem_map.1 hu
    rfl
   case c3 => unfold maxLen; omega
   case c4 => omega
   case c5 => simp
   intro g cp w3 ho3 hg3 hat3 hlt3
   have hob : ∀ r, (Value.slice (some ⟨w2.heap.size, 0, none⟩) 0 0).ownBlock = some r → w2.heap.size ≤ r := fun r h => ownBlock_ge HROW.out h
   have hB3 := Below.grown (hw2.alloc hs2 (.cells #[] 97)) hg3 (by simp; omega) (fun r h => by have := hob r h; omega)
   have o3 : Own w3 w.heap.size #[.bool false, .slice none 0 0] := own_grown (o1.alloc _) hg3 (fun r h => by have := hob r h; omega)
   have hgz : w.heap.size < g := by
    rcases hat3 with h | h
    ·have := hob _ h; omega
    ·omega
   have e6 : 0 < vD D := by
    apply Classical.byContradiction
    intro h
    apply h0
    rw [HT.out.1, show vD D = 0 by omega]
    rfl
   have e7 : decide (z < 0) = neg := by rw [← HZ.out.1, sg_neg _ _ e6]
   have e8 : z.natAbs = vD D := by rw [← HZ.out.1, sg_abs]
   have hdg3 : N ≤ cp ∧ cp ≤ 9223372036854775807 ∧ DigsAt w3 (some ⟨g, 0, none⟩) N (digs (vD D)) := by
    have ho3' : w3.ownsRow w2.heap.size 97 1 (.slice (some ⟨g, 0, none⟩) N cp) N ((digs (vD D)).map fun d => Value.int .u32 ((d : Nat) : Int)) := by simpa using ho3
    obtain ⟨_, _, q1, q2, q3⟩ := ownsRow_cell ho3' (by omega)
    unfold maxLen at q2
    refine ⟨q1, q2, HT.out.1.symm, digs_dg _, fun _ => ⟨g, 0, rfl, hlt3, fun i hi => ?_⟩⟩
    rw [Nat.zero_add, q3 i (by omega)]
    exact refD_at (D := digs (vD D)) (i := i) (by rw [← HT.out.1]; exact hi)
   have HE := Lib.hid (And.intro e6 (And.intro e7 e8))
   clear e6 e7 e8
   have o3c := o3.cell
   have o3f := o3.thaw
   have o3z := o3.lt
   have HN := Lib.hid hdg3
   have HB := Lib.hid hB3
   clear ho3 hg3 hat3 hob hdg3 hB3 o1 o1c o1f HROW HC
   go_wp2
   refine retC (b := w.heap.size) (v := .tuple #[.agg #[.bool neg, .slice (some ⟨g, 0, none⟩) N cp], .bool true]) ((o3.set 0 _).set 1 _) (fun w' hw' => by simp [results, Tryz.results115, go_sem, hw']) rfl ⟨⟨g, cp, ?_, fun _ _ => ?_, by omega, by simp [World.setCell]; omega⟩, (HB.out.setCell (Nat.le_refl _) _).setCell (Nat.le_refl _) _⟩
   ·rw [numC_yes g cp HZ.out.2 (by have := HE.out; omega), HE.out.2.1, HE.out.2.2, ← HT.out.1]
   ·rw [HE.out.2.2, ← HT.out.1]
    exact ⟨HN.out.1, HN.out.2.1, HN.out.2.2.same (by simp [World.setCell]) fun a e => by
     cases e
     exact (Below.heap_setCell _ _ _ g (by simp; omega)).trans (Below.heap_setCell _ _ _ g (by simp; omega))⟩
end Go.Proofs.YtflgngjocgiojaaGreat
