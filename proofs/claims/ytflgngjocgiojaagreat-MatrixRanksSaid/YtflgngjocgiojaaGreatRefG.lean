/- The reference's ratio: whole, Int, over, sameNum, Same, SameAll. -/
import Derived.Test.YtflgngjocgiojaaGreatRefF
import Derived.Test.YtflgngjocgiojaaGreatMatM
namespace Go.Proofs.YtflgngjocgiojaaGreat
open Go.RowKit

/-- A function of the reference has returned a ratio. -/
def RetY (w : World) (p q : Int) (r : Ending) (w' : World) : Prop := (∃ s1 A1 n1 c1 s2 A2 n2 c2, r = .returned (.agg #[.bool s1, .slice A1 n1 c1, .bool s2, .slice A2 n2 c2]) ∧ RatX (fun b => w.heap.size ≤ b) w' s1 A1 n1 c1 s2 A2 n2 c2 p q) ∧ Below w.heap.size w w'
theorem ratX_ref {W : World} {p q : Int} {b1 C1 b2 C2 : Nat} {X : Nat → Prop} (h1 : NumC W b1 C1 p) (h2 : NumC W b2 C2 q) (f1 : fits p = true) (f2 : fits q = true) (l1 : b1 < W.heap.size) (l2 : b2 < W.heap.size) (x1 : X b1) (x2 : X b2) {A1 A2 : Option Addr} {n1 c1 n2 c2 : Nat} (e1 : slC p b1 C1 = .slice A1 n1 c1) (e2 : slC q b2 C2 = .slice A2 n2 c2) :
  RatX X W (sgnN p) A1 n1 c1 (sgnN q) A2 n2 c2 p q := by
 have g1 := h1.at_ f1
 have g2 := h2.at_ f2
 unfold numC at g1 g2
 rw [e1] at g1
 rw [e2] at g2
 refine ⟨fun b off e => ?_, fun b off e => ?_, g1, g2⟩
 ·subst e
  have := slC_addr e1
  injection this with e1 e2
  subst e1
  exact ⟨l1, x1⟩
 ·subst e
  have := slC_addr e2
  injection this with e1 e2
  subst e1
  exact ⟨l2, x2⟩
theorem fits1 : fits 1 = true := fits_small (by decide)
set_option maxRecDepth 100000 in
set_option maxHeartbeats 2000000 in
theorem ref3_whole {w : World} (n : Int) (h1 : -9223372036854775808 ≤ n) (h2 : n ≤ 9223372036854775807) : Calls Tryz.prog 43 #[.int .i64 n] w (RetX w n) := by
 have hW := (Below.refl w.heap.size w).alloc (Nat.le_refl _) (.cells #[.bool false, .slice none 0 0] 35)
 have o2 : Own (w.alloc (.cells #[.bool false, .slice none 0 0] 35)) w.heap.size #[.bool false, .slice none 0 0] := Own.new rfl
 have hn := Lib.hid (And.intro h1 h2)
 clear h1 h2
 go_enter Tryz.func43, Tryz.ntmps43
 go_wp2_with fail
 generalize (w.alloc (.cells #[.bool false, .slice none 0 0] 35)) = W0 at *
 refine Calls.mono (ref1_Of n hn.out.1 hn.out.2) ?_
 rintro e u6 ⟨⟨b, C, rfl, g1, g2, g3⟩, hb⟩
 obtain ⟨A9, n9, c9, hsl⟩ := slC_form n b C
 simp only [numC]
 rw [hsl]
 have hw5 := hW.trans (hb.mono hW.size)
 have p3 := o2.below hb
 have N3 := Lib.hid (And.intro g1 (And.intro hsl (show w.heap.size < b by have := o2.lt; omega)))
 have p3c := p3.cell
 have p3f := p3.thaw
 have p3z := p3.lt
 clear hsl g1 g2 hb hW o2
 go_wp2
 refine retC (b := w.heap.size) (v := .agg #[.bool (sgnN n), .slice A9 n9 c9]) ((p3.set 0 _).set 1 _) (fun w' hw' => by simp [results, Tryz.results43, go_sem, hw']) rfl (endX (Nat.le_refl _) rfl N3.out.2.1 hw5 N3.out.1 N3.out.2.2 g3)
theorem whole_zero {w : World} : Calls Tryz.prog 43 #[.int .i64 0] w fun r w' => r = .returned zeroN ∧ Below w.heap.size w w' :=
 (ref3_whole (w := w) 0 (by omega) (by omega)).mono fun e w' ⟨⟨b, C, e1, _⟩, hb⟩ => ⟨by rw [e1, numC_zero], hb⟩
set_option maxRecDepth 100000 in
set_option maxHeartbeats 2000000 in
theorem ref3_Int {w : World} (n : Int) (h1 : -9223372036854775808 ≤ n) (h2 : n ≤ 9223372036854775807) : Calls Tryz.prog 30 #[.int .i64 n] w (RetY w n 1) := by
 have hW := (Below.refl w.heap.size w).alloc (Nat.le_refl _) (.cells #[.bool false, .slice none 0 0, .bool false, .slice none 0 0] 37)
 have o4 : Own (w.alloc (.cells #[.bool false, .slice none 0 0, .bool false, .slice none 0 0] 37)) w.heap.size #[.bool false, .slice none 0 0, .bool false, .slice none 0 0] := (by repeat' (first | ((refine Own.new ?_); (focus (first | rfl | omega | (simp; done) | (simp; omega)))) | assumption | refine Own.alloc ?_ _ | refine Own.drew ?_ | (refine Own.far ?_ ?_ _; rotate_left; (focus (first | rfl | omega | (simp; done) | (simp; omega))))))
 have hz := hW.size
 have hn := Lib.hid (And.intro h1 (And.intro h2 (show fits n = true from fits_small (by omega))))
 clear h1 h2
 go_enter Tryz.func30, Tryz.ntmps30
 go_wp2_with fail
 generalize (w.alloc (.cells #[.bool false, .slice none 0 0, .bool false, .slice none 0 0] 37)) = W0 at *
 refine Calls.mono (ref3_whole n hn.out.1 hn.out.2.1) ?_
 rintro e u1 ⟨⟨b1, C1, rfl, oN, loN, hiN⟩, hb1⟩
 have hw1 := hW.trans (hb1.mono hz)
 have hz1 := hw1.size
 have p4 := o4.below hb1
 have l1 := Nat.lt_of_lt_of_le o4.lt loN
 clear hb1 o4
 go_wp2_with fail
 refine Calls.mono (ref3_whole 1 (by omega) (by omega)) ?_
 rintro e u2 ⟨⟨b2, C2, rfl, oM, loM, hiM⟩, hb2⟩
 have hwu := hw1.trans (hb2.mono hz1)
 have q4 := p4.below hb2
 have l2 := Nat.lt_of_lt_of_le p4.lt loM
 have l3 := hb2.size
 have HN := Lib.hid (And.intro (oN.below hb2) oM)
 have q4c := q4.cell
 have q4f := q4.thaw
 have q4z := q4.lt
 obtain ⟨A7, n7, c7, hs7⟩ := slC_form n b1 C1
 obtain ⟨A8, n8, c8, hs8⟩ := slC_form 1 b2 C2
 simp only [numC]
 rw [hs7, hs8]
 have HSL := Lib.hid (And.intro hs7 hs8)
 clear hs7 hs8 oN oM hb2 p4
 go_wp2
 refine retC (b := w.heap.size) (v := .agg #[.bool (sgnN n), .slice A7 n7 c7, .bool (sgnN 1), .slice A8 n8 c8]) (((((q4.set 0 (.bool (sgnN n))).set 1 (.slice A7 n7 c7)).set 2 (.bool (sgnN 1))).set 3 (.slice A8 n8 c8))) (fun w' hw' => by simp [results, Tryz.results30, go_sem, hw']) rfl ⟨⟨_, _, _, _, _, _, _, _, rfl, ratX_ref (((((HN.out.1).far (p := ⟨w.heap.size, 0, none⟩) (by simp; omega) (.bool (sgnN n))).far (p := ⟨w.heap.size, 1, none⟩) (by simp; omega) (.slice A7 n7 c7)).far (p := ⟨w.heap.size, 2, none⟩) (by simp; omega) (.bool (sgnN 1))).far (p := ⟨w.heap.size, 3, none⟩) (by simp; omega) (.slice A8 n8 c8)) (((((HN.out.2).far (p := ⟨w.heap.size, 0, none⟩) (by simp; omega) (.bool (sgnN n))).far (p := ⟨w.heap.size, 1, none⟩) (by simp; omega) (.slice A7 n7 c7)).far (p := ⟨w.heap.size, 2, none⟩) (by simp; omega) (.bool (sgnN 1))).far (p := ⟨w.heap.size, 3, none⟩) (by simp; omega) (.slice A8 n8 c8)) hn.out.2.2 fits1 (by simp; omega) (by simp; omega) (by show _ ≤ _; omega) (by show _ ≤ _; omega) HSL.out.1 HSL.out.2⟩, ((((hwu.setCell (p := ⟨w.heap.size, 0, none⟩) (by simp) (.bool (sgnN n))).setCell (p := ⟨w.heap.size, 1, none⟩) (by simp) (.slice A7 n7 c7)).setCell (p := ⟨w.heap.size, 2, none⟩) (by simp) (.bool (sgnN 1))).setCell (p := ⟨w.heap.size, 3, none⟩) (by simp) (.slice A8 n8 c8))⟩
set_option maxRecDepth 100000 in
set_option maxHeartbeats 2000000 in
theorem ref3_over {w : World} {v1 v2 : Value} {z1 z2 : Int} (h1 : NumAt w v1 z1) (h2 : NumAt w v2 z2) (e1 : easyD z1.natAbs) (e2 : easyD z2.natAbs) (h0 : 0 < z2) (hd : z2 ∣ z1) : Calls Tryz.prog 91 #[v1, v2] w (RetX w (z1 / z2)) := by
 obtain ⟨z, hz⟩ : ∃ z, z1 / z2 = z := ⟨_, rfl⟩
 rw [hz]
 have HE := Lib.hid (And.intro hz (And.intro e1 (And.intro e2 (And.intro h0 hd))))
 clear hz e1 e2 h0 hd
 have G1 := Lib.hid h1
 have G2 := Lib.hid h2
 obtain ⟨A1, n1, c1, rfl, hc1, hm1, hl1, d1⟩ := h1
 obtain ⟨A2, n2, c2, rfl, hc2, hm2, hl2, d2⟩ := h2
 generalize decide (z1 < 0) = s1 at *
 generalize decide (z2 < 0) = s2 at *
 clear d1 d2
 have hW := ((((Below.refl w.heap.size w).alloc (Nat.le_refl _) (.cells #[.bool s1, .slice A1 n1 c1] 35)).alloc (by simp; try omega) (.cells #[.bool s2, .slice A2 n2 c2] 35)).alloc (by simp; try omega) (.cells #[.bool false, .slice none 0 0] 35))
 have o2 : Own (((w.alloc (.cells #[.bool s1, .slice A1 n1 c1] 35)).alloc (.cells #[.bool s2, .slice A2 n2 c2] 35)).alloc (.cells #[.bool false, .slice none 0 0] 35)) (w.heap.size + 1 + 1) #[.bool false, .slice none 0 0] := (by repeat' (first | ((refine Own.new ?_); (focus (first | rfl | omega | (simp; done) | (simp; omega)))) | assumption | refine Own.alloc ?_ _ | refine Own.drew ?_ | (refine Own.far ?_ ?_ _; rotate_left; (focus (first | rfl | omega | (simp; done) | (simp; omega))))))
 go_enter Tryz.func91, Tryz.ntmps91
 go_wp2_with fail
 generalize (((w.alloc (.cells #[.bool s1, .slice A1 n1 c1] 35)).alloc (.cells #[.bool s2, .slice A2 n2 c2] 35)).alloc (.cells #[.bool false, .slice none 0 0] 35)) = W0 at *
 have q := ref1_Div (G1.out.below hW) (G2.out.below hW) HE.out.2.1 HE.out.2.2.1 HE.out.2.2.2.1 HE.out.2.2.2.2
 rw [HE.out.1] at q
 refine Calls.mono q ?_
 clear q
 rintro e u1 ⟨⟨b, C, rfl, g1, g2, g3⟩, hb⟩
 obtain ⟨A9, n9, c9, hsl⟩ := slC_form z b C
 simp only [numC, zeroN]
 rw [hsl]
 have hk : Below u1.heap.size u1 ((u1.alloc (.cells #[.bool (sgnN z), .slice A9 n9 c9] 35)).alloc (.cells #[.bool false, .slice none 0 0] 35)) := ((Below.refl u1.heap.size u1).alloc (Nat.le_refl _) _).alloc (by simp) _
 have hw1 := hW.trans (hb.mono hW.size)
 have hw2 := hw1.trans (hk.mono hw1.size)
 have p3 := (o2.below hb).below hk
 have N3 := Lib.hid (And.intro (g1.below hk) (And.intro hsl (show w.heap.size + 1 + 1 < b by have := o2.lt; omega)))
 have hz3 := Nat.lt_of_lt_of_le g3 hk.size
 have p3c := p3.cell
 have p3f := p3.thaw
 have p3z := p3.lt
 have p9 : Own ((u1.alloc (.cells #[.bool (sgnN z), .slice A9 n9 c9] 35)).alloc (.cells #[.bool false, .slice none 0 0] 35)) u1.heap.size #[.bool (sgnN z), .slice A9 n9 c9] := (by repeat' (first | ((refine Own.new ?_); (focus (first | rfl | omega | (simp; done) | (simp; omega)))) | assumption | refine Own.alloc ?_ _ | refine Own.drew ?_ | (refine Own.far ?_ ?_ _; rotate_left; (focus (first | rfl | omega | (simp; done) | (simp; omega))))))
 have p9c := p9.cell
 clear g1 g2 hb hk hW o2 hsl hw1 p9
 go_wp2
 refine retC (b := w.heap.size + 1 + 1) (v := .agg #[.bool (sgnN z), .slice A9 n9 c9]) ((p3.set 0 _).set 1 _) (fun w' hw' => by simp [results, Tryz.results91, go_sem, hw']) rfl (endX (by omega) rfl N3.out.2.1 hw2 N3.out.1 N3.out.2.2 hz3)
set_option maxRecDepth 100000 in
set_option maxHeartbeats 4000000 in
theorem ref3_sameNum {w : World} {v1 v2 : Value} {s1 s2 : Bool} {D1 D2 : List Nat} (h1 : RawAt w v1 s1 D1) (h2 : RawAt w v2 s2 D2) :
  Calls Tryz.prog 76 #[v1, v2] w fun r w' => r = .returned (.bool (decide (s1 = s2 ∧ D1 = D2))) ∧ Below w.heap.size w w' := by
 obtain ⟨A1, n1, c1, rfl, hc1, hm1, d1⟩ := h1
 obtain ⟨A2, n2, c2, rfl, hc2, hm2, d2⟩ := h2
 have hl1 := d1.len
 have hl2 := d2.len
 have hW := (((Below.refl w.heap.size w).alloc (Nat.le_refl _) (.cells #[.bool s1, .slice A1 n1 c1] 35)).alloc (by simp) (.cells #[.bool s2, .slice A2 n2 c2] 35))
 have o2 : Own ((w.alloc (.cells #[.bool s1, .slice A1 n1 c1] 35)).alloc (.cells #[.bool s2, .slice A2 n2 c2] 35)) w.heap.size #[.bool s1, .slice A1 n1 c1] := (by repeat' (first | ((refine Own.new ?_); (focus (first | rfl | omega | (simp; done) | (simp; omega)))) | assumption | refine Own.alloc ?_ _ | refine Own.drew ?_ | (refine Own.far ?_ ?_ _; rotate_left; (focus (first | rfl | omega | (simp; done) | (simp; omega))))))
 have o3 : Own ((w.alloc (.cells #[.bool s1, .slice A1 n1 c1] 35)).alloc (.cells #[.bool s2, .slice A2 n2 c2] 35)) (w.heap.size + 1) #[.bool s2, .slice A2 n2 c2] := (by repeat' (first | ((refine Own.new ?_); (focus (first | rfl | omega | (simp; done) | (simp; omega)))) | assumption | refine Own.alloc ?_ _ | refine Own.drew ?_ | (refine Own.far ?_ ?_ _; rotate_left; (focus (first | rfl | omega | (simp; done) | (simp; omega))))))
 by_cases hs : s1 = s2
 ·by_cases hn : n1 = n2
  ·subst hs
   subst hn
   have hsb : (s1 == s1) = true := by cases s1 <;> rfl
   have hnn : ((n1 : Int) == (n1 : Int)) = true := by simp
   obtain ⟨o, ho⟩ : ∃ o, decide (s1 = s1 ∧ D1 = D2) = o := ⟨_, rfl⟩
   rw [ho]
   have hnm : (n1 : Int) ≤ 9223372036854775807 := by omega
   have hnm2 : (n1 : Int) < 9223372036854775807 ∨ n1 = 9223372036854775807 := by omega
   have HL := Lib.hid (And.intro hl1 (And.intro hl2 ho))
   have H1 := Lib.hid d1
   have H2 := Lib.hid d2
   clear d1 d2 hl1 hl2 ho hnm2
   go_enter Tryz.func76, Tryz.ntmps76
   go_wp2
   generalize ((w.alloc (.cells #[.bool s1, .slice A1 n1 c1] 35)).alloc (.cells #[.bool s1, .slice A2 n1 c2] 35)) = W0 at *
   have o2z := o2.lt
   have o3z := o3.lt
   go_loopw [5] (fun i wr => ∃ k : Nat, k ≤ n1 ∧ i = .int .i64 k ∧ (∀ i, i < k → dAt D1 i = dAt D2 i) ∧ Below w.heap.size w wr ∧ Own wr w.heap.size #[.bool s1, .slice A1 n1 c1] ∧ Own wr (w.heap.size + 1) #[.bool s1, .slice A2 n1 c2]) (fun i _ => n1 - (intOf i).toNat)
   case atStart => exact ⟨0, Nat.zero_le _, rfl, fun i a => by omega, hW, o2, o3⟩
   case round =>
    clear hW o2 o3 o2z o3z
    obtain ⟨k, hk, rfl, hall, hw, o2, o3⟩ := hrel
    have HA := Lib.hid hall
    clear hall
    have o2c := o2.cell
    have o3c := o3.cell
    have o2f := o2.thaw
    have o3f := o3.thaw
    have o2z := o2.lt
    have o3z := o3.lt
    by_cases hkn : k < n1
    ·have hkni : (k : Int) < (n1 : Int) := by omega
     obtain ⟨d, hd⟩ : ∃ d, dAt D1 k = d := ⟨_, rfl⟩
     obtain ⟨e, he⟩ : ∃ d, dAt D2 k = d := ⟨_, rfl⟩
     obtain ⟨b, off, hA, hb, a1⟩ := (H1.out.below hw).cells hkn hd
     obtain ⟨b2, off2, hA2, hb2, a2⟩ := (H2.out.below hw).cells hkn he
     subst hA
     subst hA2
     have HD := Lib.hid (And.intro hd he)
     clear hd he
     go_wp2
     by_cases heq : d = e
     ·subst heq
      have hbe : ((d : Int) == (d : Int)) = true := by simp
      refine region_late 11 [] (by kernel_rfl) (by kernel_rfl) (by rfl) ?_
      apply Exists.intro
      refine ⟨fun v hv hne => ?_, fun u hu => ?_⟩
      ·simp only [List.take_succ_cons, List.take_zero]
       have f1 := fun x : Later [] wr v => (x.cell b (off + k) hb (by simp)).trans a1
       have f2 := fun x : Later [] wr v => (x.cell b2 (off2 + k) hb2 (by simp)).trans a2
       have g1 := fun x => (o2.later (v := v) (T := []) (by simp) x).cell
       have g2 := fun x => (o3.later (v := v) (T := []) (by simp) x).cell
       repeat (go_big_quiet_step (fail))
       refine wpQuiet_nil ?_
       exact rfl
      ·simp only [List.drop_succ_cons, List.drop_zero]
       refine late_nil ?_
       (try simp only [Act.put, List.setIfInBounds_toArray, List.set_cons_zero, List.set_cons_succ])
       have hw2 := hw.trans (hu.mono hw.size)
       have p2 := o2.below hu
       have p3 := o3.below hu
       clear o2 o3 o2c o3c o2f o3f
       go_wp2
       go_roundw
       case rel => exact ⟨k + 1, by omega, by go_num, fun i a => by
        rcases Nat.eq_or_lt_of_le (Nat.lt_succ_iff.1 a) with h | h
        ·rw [h, HD.out.1, HD.out.2]
        ·exact HA.out i h, hw2, p2, p3⟩
       case measure => simp [intOf]; omega
     ·have hbe : ((d : Int) == (e : Int)) = false := by simp; omega
      have hdi : ¬ (d : Int) = (e : Int) := by omega
      have hof : o = false := by
       rw [← HL.out.2.2]
       refine decide_eq_false fun ⟨_, h⟩ => heq ?_
       rw [← HD.out.1, ← HD.out.2, h]
      subst hof
      refine region_late 11 [] (by kernel_rfl) (by kernel_rfl) (by rfl) ?_
      apply Exists.intro
      refine ⟨fun v hv hne => ?_, fun u hu => ?_⟩
      ·simp only [List.take_succ_cons, List.take_zero]
       have f1 := fun x : Later [] wr v => (x.cell b (off + k) hb (by simp)).trans a1
       have f2 := fun x : Later [] wr v => (x.cell b2 (off2 + k) hb2 (by simp)).trans a2
       have g1 := fun x => (o2.later (v := v) (T := []) (by simp) x).cell
       have g2 := fun x => (o3.later (v := v) (T := []) (by simp) x).cell
       repeat (go_big_quiet_step (fail))
       refine wpQuiet_nil ?_
       exact rfl
      ·simp only [List.drop_succ_cons, List.drop_zero]
       refine late_nil ?_
       (try simp only [Act.put, List.setIfInBounds_toArray, List.set_cons_zero, List.set_cons_succ])
       have hw2 := hw.trans (hu.mono hw.size)
       go_wp2
       go_ret
       exact ⟨rfl, hw2⟩
    ·obtain rfl : k = n1 := by omega
     have hkni : ¬ (k : Int) < (k : Int) := by omega
     have hot : o = true := by
      rw [← HL.out.2.2]
      exact decide_eq_true ⟨by first | trivial | rfl, eq_of_dAt (by rw [HL.out.1, HL.out.2.1]) (fun i hi => HA.out i (by rw [HL.out.1] at hi; exact hi))⟩
     subst hot
     go_wp2
     go_ret
     exact ⟨rfl, hw⟩
  ·rw [sameRaw (by rw [hl1, hl2]; exact fun h => hn h.2)]
   subst hs
   have hni : ¬ (n1 : Int) = (n2 : Int) := by omega
   clear d1 d2 hl1 hl2
   go_enter Tryz.func76, Tryz.ntmps76
   go_wp2
   go_ret
   exact ⟨rfl, hW⟩
 ·rw [sameRaw fun h => hs h.1]
  clear d1 d2 hl1 hl2
  go_enter Tryz.func76, Tryz.ntmps76
  cases s1 <;> cases s2
  ·exact absurd rfl hs
  ·go_wp2
   go_ret
   exact ⟨rfl, hW⟩
  ·go_wp2
   go_ret
   exact ⟨rfl, hW⟩
  ·exact absurd rfl hs
theorem num_sameV {w : World} {v1 v2 : Value} {z1 z2 : Int} (h1 : NumAt w v1 z1) (h2 : NumAt w v2 z2) : Calls Tryz.prog 76 #[v1, v2] w fun r w' => r = .returned (.bool (decide (z1 = z2))) ∧ Below w.heap.size w w' := by
 have q := ref3_sameNum h1.raw.1 h2.raw.1
 have e : decide (decide (z1 < 0) = decide (z2 < 0) ∧ digs z1.natAbs = digs z2.natAbs) = decide (z1 = z2) := by
  refine decide_eq_decide.2 ⟨fun ⟨a, b⟩ => ?_, fun h => by rw [h]; exact ⟨rfl, rfl⟩⟩
  have b2 := congrArg vD b
  rw [digs_val, digs_val] at b2
  have a2 : (z1 < 0) ↔ (z2 < 0) := decide_eq_decide.1 a
  omega
 rw [e] at q
 exact q
theorem num_sameQ {w : World} {v1 v2 : Value} {z1 z2 : Int} (h1 : NumAt w v1 z1) (h2 : NumAt w v2 z2) : Calls Tryz.prog 77 #[v1, v2] w fun r w' => r = .returned (.bool (decide (z1 = z2))) ∧ Below w.heap.size w w' := by
 have q := ref1_Same h1.raw.1 h2.raw.1
 have e : decide (decide (z1 < 0) = decide (z2 < 0) ∧ digs z1.natAbs = digs z2.natAbs) = decide (z1 = z2) := by
  refine decide_eq_decide.2 ⟨fun ⟨a, b⟩ => ?_, fun h => by rw [h]; exact ⟨rfl, rfl⟩⟩
  have b2 := congrArg vD b
  rw [digs_val, digs_val] at b2
  have a2 : (z1 < 0) ↔ (z2 < 0) := decide_eq_decide.1 a
  omega
 rw [e] at q
 exact q
set_option maxRecDepth 100000 in
set_option maxHeartbeats 4000000 in
theorem ref3_Same {w : World} {v1 v2 : Value} {p q p' q' : Int} (h1 : RatAt w v1 p q) (h2 : RatAt w v2 p' q') : Calls Tryz.prog 29 #[v1, v2] w fun r w' => r = .returned (.bool (decide (p = p') && decide (q = q'))) ∧ Below w.heap.size w w' := by
 obtain ⟨s1, A1, n1, c1, s2, A2, n2, c2, rfl, g1, g2⟩ := h1
 obtain ⟨s3, A3, n3, c3, s4, A4, n4, c4, rfl, g3, g4⟩ := h2
 obtain ⟨a, ha⟩ : ∃ a, decide (p = p') = a := ⟨_, rfl⟩
 obtain ⟨b, hb⟩ : ∃ a, decide (q = q') = a := ⟨_, rfl⟩
 rw [ha, hb]
 have G1 := Lib.hid g1
 have G2 := Lib.hid g2
 have G3 := Lib.hid g3
 have G4 := Lib.hid g4
 have HA := Lib.hid (And.intro ha hb)
 clear g1 g2 g3 g4 ha hb
 have hW := ((Below.refl w.heap.size w).alloc (Nat.le_refl _) (.cells #[.bool s1, .slice A1 n1 c1, .bool s2, .slice A2 n2 c2] 37)).alloc (by simp) (.cells #[.bool s3, .slice A3 n3 c3, .bool s4, .slice A4 n4 c4] 37)
 have o1 : Own ((w.alloc (.cells #[.bool s1, .slice A1 n1 c1, .bool s2, .slice A2 n2 c2] 37)).alloc (.cells #[.bool s3, .slice A3 n3 c3, .bool s4, .slice A4 n4 c4] 37)) w.heap.size #[.bool s1, .slice A1 n1 c1, .bool s2, .slice A2 n2 c2] := (by repeat' (first | ((refine Own.new ?_); (focus (first | rfl | omega | (simp; done) | (simp; omega)))) | assumption | refine Own.alloc ?_ _ | refine Own.drew ?_ | (refine Own.far ?_ ?_ _; rotate_left; (focus (first | rfl | omega | (simp; done) | (simp; omega))))))
 have o2 : Own ((w.alloc (.cells #[.bool s1, .slice A1 n1 c1, .bool s2, .slice A2 n2 c2] 37)).alloc (.cells #[.bool s3, .slice A3 n3 c3, .bool s4, .slice A4 n4 c4] 37)) (w.heap.size + 1) #[.bool s3, .slice A3 n3 c3, .bool s4, .slice A4 n4 c4] := (by repeat' (first | ((refine Own.new ?_); (focus (first | rfl | omega | (simp; done) | (simp; omega)))) | assumption | refine Own.alloc ?_ _ | refine Own.drew ?_ | (refine Own.far ?_ ?_ _; rotate_left; (focus (first | rfl | omega | (simp; done) | (simp; omega))))))
 go_enter Tryz.func29, Tryz.ntmps29
 go_wp2_with fail
 generalize ((w.alloc (.cells #[.bool s1, .slice A1 n1 c1, .bool s2, .slice A2 n2 c2] 37)).alloc (.cells #[.bool s3, .slice A3 n3 c3, .bool s4, .slice A4 n4 c4] 37)) = W0 at *
 have x := num_sameV (G1.out.below hW) (G3.out.below hW)
 rw [HA.out.1] at x
 refine Calls.mono x ?_
 clear x
 rintro e u1 ⟨rfl, hb⟩
 have hw1 := hW.trans (hb.mono hW.size)
 have p1 := o1.below hb
 have p2 := o2.below hb
 have p1c := p1.cell
 have p2c := p2.cell
 clear hb o1 o2 hW
 cases a
 ·go_wp2
  go_ret
  exact ⟨rfl, hw1⟩
 ·go_wp2_with fail
  have x := num_sameV (G2.out.below hw1) (G4.out.below hw1)
  rw [HA.out.2] at x
  refine Calls.mono x ?_
  clear x
  rintro e u2 ⟨rfl, hb⟩
  have hw2 := hw1.trans (hb.mono hw1.size)
  go_wp2
  go_ret
  exact ⟨rfl, hw2⟩
theorem RatsA.at_ {w : World} {b off n : Nat} {Q : Nat → QI} (h : RatsA w (some ⟨b, off, none⟩) n Q) {i : Nat} (hi : i < n) : b < w.heap.size ∧ ∃ s1 A1 n1 c1 s2 A2 n2 c2, w.cell? ⟨b, off + i * 4, none⟩ = some (.bool s1) ∧ w.cell? ⟨b, off + i * 4 + 1, none⟩ = some (.slice A1 n1 c1) ∧ w.cell? ⟨b, off + i * 4 + 2, none⟩ = some (.bool s2) ∧ w.cell? ⟨b, off + i * 4 + 3, none⟩ = some (.slice A2 n2 c2) ∧ RatAt w (.agg #[.bool s1, .slice A1 n1 c1, .bool s2, .slice A2 n2 c2]) (Q i).1 (Q i).2 := by
 obtain ⟨b', off', e, hlt, hc⟩ := h (by omega)
 cases e
 obtain ⟨s1, A1, n1, c1, s2, A2, n2, c2, e1, e2, e3, e4, h1, h2⟩ := hc i hi
 exact ⟨hlt, s1, A1, n1, c1, s2, A2, n2, c2, e1, e2, e3, e4, _, _, _, _, _, _, _, _, rfl, h1, h2⟩
end Go.Proofs.YtflgngjocgiojaaGreat
