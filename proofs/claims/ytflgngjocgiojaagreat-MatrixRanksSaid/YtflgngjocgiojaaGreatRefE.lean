/- The reference's num: Of, Cmp, Right. -/
import Derived.Test.YtflgngjocgiojaaGreatRefD
namespace Go.Proofs.YtflgngjocgiojaaGreat
open Go.RowKit

theorem ref_right {w : World} {v : Value} {z : Int} (h : NumAt w v z) : Calls Tryz.prog 88 #[v] w fun r w' => r = .returned (.bool true) ∧ Below w.heap.size w w' := by
 have q := ref1_Right h.raw.1
 rw [h.raw.2] at q
 exact q
/-- The end: the number is stored in the block of the result. -/
theorem endX {w W : World} {z : Int} {s : Bool} {A : Option Addr} {n c b C B : Nat} (hB : w.heap.size ≤ B) (e1 : sgnN z = s) (e2 : slC z b C = .slice A n c) (hb : Below w.heap.size w W) (hn : NumC W b C z) (h1 : B < b) (h2 : b < W.heap.size) :
  RetX w z (.returned (.agg #[.bool s, .slice A n c])) ((W.setCell ⟨B, 0, none⟩ (.bool s)).setCell ⟨B, 1, none⟩ (.slice A n c)) :=
 ⟨⟨b, C, by rw [numC, e1, e2], (hn.far (p := ⟨B, 0, none⟩) (by simp; omega) _).far (p := ⟨B, 1, none⟩) (by simp; omega) _, by omega, by simp [World.setCell]; exact h2⟩, (hb.setCell hB _).setCell hB _⟩
set_option maxRecDepth 100000 in
set_option maxHeartbeats 2000000 in
theorem ref1_Of {w : World} (n : Int) (h1 : -9223372036854775808 ≤ n) (h2 : n ≤ 9223372036854775807) : Calls Tryz.prog 78 #[.int .i64 n] w (RetX w n) := by
 obtain ⟨m, hm⟩ : ∃ m, n.natAbs = m := ⟨_, rfl⟩
 have hmb : m < 18446744073709551616 := by omega
 have HM := Lib.hid hm
 have HF : Hid (fits n = true) := Lib.hid (fits_small (by omega))
 have hW := (Below.refl w.heap.size w).alloc (Nat.le_refl _) (.cells #[.bool false, .slice none 0 0] 35)
 have o2 : Own (w.alloc (.cells #[.bool false, .slice none 0 0] 35)) w.heap.size #[.bool false, .slice none 0 0] := Own.new rfl
 by_cases hn : n < 0
 ·obtain ⟨x, hx⟩ : ∃ x, 18446744073709551616 - m = x := ⟨_, rfl⟩
  have hc4 : IntKind.u64.wrap n = (x : Int) := by rw [IntKind.wrap_u64]; omega
  have hc5 : IntKind.u64.wrap (-(x : Int)) = (m : Int) := by rw [IntKind.wrap_u64]; omega
  clear hm hx
  go_enter Tryz.func78, Tryz.ntmps78
  go_wp2_with fail
  have hz0 := hW.size
  generalize (w.alloc (.cells #[.bool false, .slice none 0 0] 35)) = W0 at *
  refine Calls.mono (ref1_digits m hmb) ?_
  rintro e w2 ⟨⟨C, rfl, g1, g2, g3, g4⟩, hb2⟩
  have hw2 := hW.trans (hb2.mono hz0)
  have p2 := o2.below hb2
  have HG := Lib.hid g3
  clear g3 hb2 o2 hW
  go_wp2_with fail
  have q := ref1_signed (neg := true) (z := n) C HG.out g1 (by omega) (by rw [digs_val]; have e := HM.out; unfold sg; simp; omega)
  unfold RetM at q
  rw [HF.out] at q
  refine Calls.mono q ?_
  clear q
  rintro e u6 ⟨⟨b, C2, rfl, hb1, hb2, hb3⟩, hb4⟩
  obtain ⟨A9, n9, c9, hsl⟩ := slC_form n b C2
  simp only [numC]
  rw [hsl]
  have hk := (Below.refl u6.heap.size u6).alloc (Nat.le_refl _) (.cells #[.bool (sgnN n), .slice A9 n9 c9] 35)
  have hw6 := hw2.trans (hb4.mono hw2.size)
  have hw7 := hw6.trans (hk.mono hw6.size)
  have p3 := (p2.below hb4).below hk
  have N3 := Lib.hid (And.intro (hb1.below hk) (And.intro hsl (show w.heap.size < b by have := p2.lt; omega)))
  have hz6 : b < (u6.alloc (.cells #[.bool (sgnN n), .slice A9 n9 c9] 35)).heap.size := by simp; omega
  have p3c := p3.cell
  have p3f := p3.thaw
  have p3z := p3.lt
  clear hsl hb1 hb2 hb3 hb4 hk hw6 p2
  go_wp2
  refine retC (b := w.heap.size) (v := .agg #[.bool (sgnN n), .slice A9 n9 c9]) ((p3.set 0 _).set 1 _) (fun w' hw' => by simp [results, Tryz.results78, go_sem, hw']) rfl (endX (Nat.le_refl _) rfl N3.out.2.1 hw7 N3.out.1 N3.out.2.2 hz6)
 ·have hc4 : IntKind.u64.wrap n = (m : Int) := by rw [IntKind.wrap_u64]; omega
  clear hm
  go_enter Tryz.func78, Tryz.ntmps78
  go_wp2_with fail
  have hz0 := hW.size
  generalize (w.alloc (.cells #[.bool false, .slice none 0 0] 35)) = W0 at *
  refine Calls.mono (ref1_digits m hmb) ?_
  rintro e w2 ⟨⟨C, rfl, g1, g2, g3, g4⟩, hb2⟩
  have hw2 := hW.trans (hb2.mono hz0)
  have p2 := o2.below hb2
  have HG := Lib.hid g3
  clear g3 hb2 o2 hW
  go_wp2_with fail
  have q := ref1_signed (neg := false) (z := n) C HG.out g1 (by omega) (by rw [digs_val]; have e := HM.out; unfold sg; simp; omega)
  unfold RetM at q
  rw [HF.out] at q
  refine Calls.mono q ?_
  clear q
  rintro e u6 ⟨⟨b, C2, rfl, hb1, hb2, hb3⟩, hb4⟩
  obtain ⟨A9, n9, c9, hsl⟩ := slC_form n b C2
  simp only [numC]
  rw [hsl]
  have hk := (Below.refl u6.heap.size u6).alloc (Nat.le_refl _) (.cells #[.bool (sgnN n), .slice A9 n9 c9] 35)
  have hw6 := hw2.trans (hb4.mono hw2.size)
  have hw7 := hw6.trans (hk.mono hw6.size)
  have p3 := (p2.below hb4).below hk
  have N3 := Lib.hid (And.intro (hb1.below hk) (And.intro hsl (show w.heap.size < b by have := p2.lt; omega)))
  have hz6 : b < (u6.alloc (.cells #[.bool (sgnN n), .slice A9 n9 c9] 35)).heap.size := by simp; omega
  have p3c := p3.cell
  have p3f := p3.thaw
  have p3z := p3.lt
  clear hsl hb1 hb2 hb3 hb4 hk hw6 p2
  go_wp2
  refine retC (b := w.heap.size) (v := .agg #[.bool (sgnN n), .slice A9 n9 c9]) ((p3.set 0 _).set 1 _) (fun w' hw' => by simp [results, Tryz.results78, go_sem, hw']) rfl (endX (Nat.le_refl _) rfl N3.out.2.1 hw7 N3.out.1 N3.out.2.2 hz6)
set_option maxRecDepth 100000 in
set_option maxHeartbeats 4000000 in
theorem ref1_Cmp {w : World} {v1 v2 : Value} {z1 z2 : Int} (h1 : NumAt w v1 z1) (h2 : NumAt w v2 z2) : Calls Tryz.prog 42 #[v1, v2] w fun r w' => r = .returned (.int .i64 (ordI z1 z2)) ∧ Below w.heap.size w w' := by
 have G1 := Lib.hid h1
 have G2 := Lib.hid h2
 obtain ⟨A1, n1, c1, rfl, hc1, hm1, hl1, d1⟩ := h1
 obtain ⟨A2, n2, c2, rfl, hc2, hm2, hl2, d2⟩ := h2
 obtain ⟨s1, hs1⟩ : ∃ s, decide (z1 < 0) = s := ⟨_, rfl⟩
 obtain ⟨s2, hs2⟩ : ∃ s, decide (z2 < 0) = s := ⟨_, rfl⟩
 rw [hs1] at G1 ⊢
 rw [hs2] at G2 ⊢
 obtain ⟨o, ho⟩ : ∃ o, ordI z1 z2 = o := ⟨_, rfl⟩
 rw [ho]
 have HS := Lib.hid (And.intro hs1 (And.intro hs2 ho))
 have D1 := Lib.hid d1
 have D2 := Lib.hid d2
 clear d1 d2 hs1 hs2 ho
 have hW := (((Below.refl w.heap.size w).alloc (Nat.le_refl _) (.cells #[.bool s1, .slice A1 n1 c1] 35)).alloc (by simp) (.cells #[.bool s2, .slice A2 n2 c2] 35))
 have o3 : Own ((w.alloc (.cells #[.bool s1, .slice A1 n1 c1] 35)).alloc (.cells #[.bool s2, .slice A2 n2 c2] 35)) w.heap.size #[.bool s1, .slice A1 n1 c1] := (by repeat' (first | ((refine Own.new ?_); (focus (first | rfl | omega | (simp; done) | (simp; omega)))) | assumption | refine Own.alloc ?_ _ | refine Own.drew ?_ | (refine Own.far ?_ ?_ _; rotate_left; (focus (first | rfl | omega | (simp; done) | (simp; omega))))))
 have o4 : Own ((w.alloc (.cells #[.bool s1, .slice A1 n1 c1] 35)).alloc (.cells #[.bool s2, .slice A2 n2 c2] 35)) (w.heap.size + 1) #[.bool s2, .slice A2 n2 c2] := (by repeat' (first | ((refine Own.new ?_); (focus (first | rfl | omega | (simp; done) | (simp; omega)))) | assumption | refine Own.alloc ?_ _ | refine Own.drew ?_ | (refine Own.far ?_ ?_ _; rotate_left; (focus (first | rfl | omega | (simp; done) | (simp; omega))))))
 go_enter Tryz.func42, Tryz.ntmps42
 go_wp2_with fail
 generalize ((w.alloc (.cells #[.bool s1, .slice A1 n1 c1] 35)).alloc (.cells #[.bool s2, .slice A2 n2 c2] 35)) = W0 at *
 refine Calls.mono (ref_right (G1.out.below hW)) ?_
 rintro e w1 ⟨rfl, hb1⟩
 have hw1 := hW.trans (hb1.mono hW.size)
 have p3 := o3.below hb1
 have p4 := o4.below hb1
 have p3c := p3.cell
 have p4c := p4.cell
 clear hb1 o3 o4 hW
 go_wp2_with fail
 refine Calls.mono (ref_right (G2.out.below hw1)) ?_
 rintro e w2 ⟨rfl, hb1⟩
 have hw2 := hw1.trans (hb1.mono hw1.size)
 replace p3 := p3.below hb1
 replace p4 := p4.below hb1
 replace p3c := p3.cell
 replace p4c := p4.cell
 clear hb1 hw1
 cases s1 <;> cases s2
 ·go_wp2_with fail
  have q := ref1_compare c1 c2 (D1.out.below hw2) (D2.out.below hw2) (by omega) (by omega)
  rw [ord_pp (of_decide_eq_false HS.out.1) (of_decide_eq_false HS.out.2.1), HS.out.2.2] at q
  refine Calls.mono q ?_
  clear q
  rintro e w3 ⟨rfl, hb⟩
  have hw3 := hw2.trans (hb.mono hw2.size)
  go_wp2
  go_ret
  exact ⟨rfl, hw3⟩
 ·go_wp2
  go_ret
  exact ⟨by rw [← HS.out.2.2, ordI_gt (by have := of_decide_eq_false HS.out.1; have := of_decide_eq_true HS.out.2.1; omega)]; rfl, hw2⟩
 ·go_wp2
  go_ret
  exact ⟨by rw [← HS.out.2.2, ordI_lt (by have := of_decide_eq_true HS.out.1; have := of_decide_eq_false HS.out.2.1; omega)]; rfl, hw2⟩
 ·go_wp2_with fail
  have q := ref1_compare c2 c1 (D2.out.below hw2) (D1.out.below hw2) (by omega) (by omega)
  have e : ordI (z2.natAbs : Nat) (z1.natAbs : Nat) = o := by
   rw [← HS.out.2.2]
   have e1 := of_decide_eq_true HS.out.1
   have e2 := of_decide_eq_true HS.out.2.1
   unfold ordI
   repeat' split
   all_goals omega
  rw [e] at q
  clear e
  refine Calls.mono q ?_
  clear q
  rintro e w3 ⟨rfl, hb⟩
  have hw3 := hw2.trans (hb.mono hw2.size)
  go_wp2
  go_ret
  exact ⟨rfl, hw3⟩
end Go.Proofs.YtflgngjocgiojaaGreat
