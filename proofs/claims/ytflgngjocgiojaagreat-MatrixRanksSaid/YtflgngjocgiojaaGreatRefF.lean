/- The reference's num: divide, Gcd, Div, for numbers of two digits at most. -/
import Derived.Test.YtflgngjocgiojaaGreatRefE
import Derived.Test.YtflgngjocgiojaaGreatRatA
namespace Go.Proofs.YtflgngjocgiojaaGreat
open Go.RowKit

/-- Two digits at most: for these `divide` needs no loop. -/
def easyD (M : Nat) : Prop := M < 18446744073709551616
theorem easyD.len {M : Nat} (h : easyD M) : (digs M).length ≤ 2 := digs_len.2 (by unfold easyD at h; omega)
theorem NewD.sl {w w' : World} {N : Nat} {r : Ending} (h : NewD w N r w') : ∃ v, r = .returned v ∧ SlD w' v N := by
 obtain ⟨C, rfl, h1, h2, h3, _⟩ := h
 exact ⟨_, rfl, _, _, C, rfl, h1, by omega, h3⟩
set_option maxRecDepth 100000 in
set_option maxHeartbeats 2000000 in
theorem ref1_divide {w : World} {v1 v2 : Value} {M N : Nat} (h1 : SlD w v1 M) (h2 : SlD w v2 N) (e1 : easyD M) (e2 : easyD N) (h0 : N ≠ 0) :
  Calls Tryz.prog 117 #[v1, v2] w fun r w' => (∃ x y, r = .returned (.tuple #[x, y]) ∧ SlD w' x (M / N) ∧ SlD w' y (M % N)) ∧ Below w.heap.size w w' := by
 obtain ⟨A1, n1, c1, rfl, hc1, hm1, d1⟩ := h1
 obtain ⟨A2, n2, c2, rfl, hc2, hm2, d2⟩ := h2
 have l1 : n1 ≤ 2 := by rw [← d1.len]; exact e1.len
 have l2 : n2 ≤ 2 := by rw [← d2.len]; exact e2.len
 have l1i : (n1 : Int) ≤ 2 := by omega
 have l2i : (n2 : Int) ≤ 2 := by omega
 obtain ⟨q, hq⟩ : ∃ q, M / N = q := ⟨_, rfl⟩
 obtain ⟨r, hr⟩ : ∃ r, M % N = r := ⟨_, rfl⟩
 rw [hq, hr]
 unfold easyD at e1 e2
 have hq1 : q < 18446744073709551616 := by rw [← hq]; exact Nat.lt_of_le_of_lt (Nat.div_le_self _ _) e1
 have hr1 : r < 18446744073709551616 := by rw [← hr]; exact Nat.lt_trans (Nat.mod_lt _ (by omega)) e2
 have hqi : (M : Int).tdiv (N : Int) = (q : Int) := by rw [← hq]; rfl
 have hri : (M : Int).tmod (N : Int) = (r : Int) := by rw [← hr]; rfl
 have hqe : (M : Int) / (N : Int) = (q : Int) := by rw [← hq]; rfl
 have hre : (M : Int) % (N : Int) = (r : Int) := by rw [← hr]; rfl
 have h0i : ¬ (N : Int) = 0 := by omega
 have w1 := ref1_word (w := w) c1 d1 l1
 have D1 := Lib.hid d1
 have D2 := Lib.hid d2
 have HW1 := fun W (hb : Below w.heap.size w W) => ref1_word (w := W) c1 (d1.below hb) l1
 have HW2 := fun W (hb : Below w.heap.size w W) => ref1_word (w := W) c2 (d2.below hb) l2
 rw [digs_val] at HW1 HW2
 clear d1 d2 hq hr w1
 go_enter Tryz.func117, Tryz.ntmps117
 go_wp2_with fail
 refine Calls.mono (HW1 _ (Below.refl _ _)) ?_
 rintro e w1 ⟨rfl, hb⟩
 have hw1 := hb
 clear hb
 go_wp2_with fail
 refine Calls.mono (HW2 _ hw1) ?_
 rintro e w2 ⟨rfl, hb⟩
 have hw2 := hw1.trans (hb.mono hw1.size)
 clear hb
 go_wp2_with fail
 refine Calls.mono (ref1_digits q hq1) ?_
 rintro e w3 ⟨hx, hb⟩
 obtain ⟨x, rfl, hx2⟩ := hx.sl
 have HX := Lib.hid hx2
 have hw3 := hw2.trans (hb.mono hw2.size)
 clear hb hx hx2 hw2
 go_wp2_with fail
 refine Calls.mono (HW1 _ hw3) ?_
 rintro e w4 ⟨rfl, hb⟩
 have hw4 := hw3.trans (hb.mono hw3.size)
 have HX4 := Lib.hid (HX.out.below hb)
 clear hb hw3 HX
 go_wp2_with fail
 refine Calls.mono (HW2 _ hw4) ?_
 rintro e w5 ⟨rfl, hb⟩
 have hw5 := hw4.trans (hb.mono hw4.size)
 have HX5 := Lib.hid (HX4.out.below hb)
 clear hb hw4 HX4
 go_wp2_with fail
 refine Calls.mono (ref1_digits r hr1) ?_
 rintro e w6 ⟨hy, hb⟩
 obtain ⟨y, rfl, hy2⟩ := hy.sl
 have HY := Lib.hid hy2
 have hw6 := hw5.trans (hb.mono hw5.size)
 have HX6 := Lib.hid (HX5.out.below hb)
 clear hb hy hy2 hw5 HX5
 go_wp2
 go_ret2
 exact ⟨⟨_, _, rfl, HX6.out, HY.out⟩, hw6⟩
set_option maxRecDepth 100000 in
set_option maxHeartbeats 4000000 in
theorem ref1_Gcd {w : World} {v1 v2 : Value} {z1 z2 : Int} (h1 : NumAt w v1 z1) (h2 : NumAt w v2 z2) (e1 : easyD z1.natAbs) (e2 : easyD z2.natAbs) : Calls Tryz.prog 90 #[v1, v2] w (RetM w (Nat.gcd z1.natAbs z2.natAbs : Nat)) := by
 obtain ⟨z, hz⟩ : ∃ z : Nat, Nat.gcd z1.natAbs z2.natAbs = z := ⟨_, rfl⟩
 rw [hz]
 have HE := Lib.hid (And.intro hz (And.intro e1 e2))
 clear hz e1 e2
 have G1 := Lib.hid h1
 have G2 := Lib.hid h2
 obtain ⟨A1, n1, c1, rfl, hc1, hm1, hl1, d1⟩ := h1
 obtain ⟨A2, n2, c2, rfl, hc2, hm2, hl2, d2⟩ := h2
 obtain ⟨s1, hs1⟩ : ∃ s, decide (z1 < 0) = s := ⟨_, rfl⟩
 obtain ⟨s2, hs2⟩ : ∃ s, decide (z2 < 0) = s := ⟨_, rfl⟩
 rw [hs1] at G1 ⊢
 rw [hs2] at G2 ⊢
 have HS := Lib.hid (And.intro hs1 hs2)
 have S1 : Hid (SlD w (.slice A1 n1 c1) z1.natAbs) := Lib.hid ⟨_, _, _, rfl, hc1, hm1, d1⟩
 have S2 : Hid (SlD w (.slice A2 n2 c2) z2.natAbs) := Lib.hid ⟨_, _, _, rfl, hc2, hm2, d2⟩
 have L2 := Lib.hid d2.len
 clear d1 d2 hs1 hs2
 have hW := ((((Below.refl w.heap.size w).alloc (Nat.le_refl _) (.cells #[.bool s1, .slice A1 n1 c1] 35)).alloc (by simp; try omega) (.cells #[.bool s2, .slice A2 n2 c2] 35)).alloc (by simp; try omega) (.cells #[.bool false, .slice none 0 0] 35))
 have o0 : Own (((w.alloc (.cells #[.bool s1, .slice A1 n1 c1] 35)).alloc (.cells #[.bool s2, .slice A2 n2 c2] 35)).alloc (.cells #[.bool false, .slice none 0 0] 35)) (w.heap.size) #[.bool s1, .slice A1 n1 c1] := (by repeat' (first | ((refine Own.new ?_); (focus (first | rfl | omega | (simp; done) | (simp; omega)))) | assumption | refine Own.alloc ?_ _ | refine Own.drew ?_ | (refine Own.far ?_ ?_ _; rotate_left; (focus (first | rfl | omega | (simp; done) | (simp; omega))))))
 have o1 : Own (((w.alloc (.cells #[.bool s1, .slice A1 n1 c1] 35)).alloc (.cells #[.bool s2, .slice A2 n2 c2] 35)).alloc (.cells #[.bool false, .slice none 0 0] 35)) (w.heap.size + 1) #[.bool s2, .slice A2 n2 c2] := (by repeat' (first | ((refine Own.new ?_); (focus (first | rfl | omega | (simp; done) | (simp; omega)))) | assumption | refine Own.alloc ?_ _ | refine Own.drew ?_ | (refine Own.far ?_ ?_ _; rotate_left; (focus (first | rfl | omega | (simp; done) | (simp; omega))))))
 have o2 : Own (((w.alloc (.cells #[.bool s1, .slice A1 n1 c1] 35)).alloc (.cells #[.bool s2, .slice A2 n2 c2] 35)).alloc (.cells #[.bool false, .slice none 0 0] 35)) (w.heap.size + 1 + 1) #[.bool false, .slice none 0 0] := (by repeat' (first | ((refine Own.new ?_); (focus (first | rfl | omega | (simp; done) | (simp; omega)))) | assumption | refine Own.alloc ?_ _ | refine Own.drew ?_ | (refine Own.far ?_ ?_ _; rotate_left; (focus (first | rfl | omega | (simp; done) | (simp; omega))))))
 go_enter Tryz.func90, Tryz.ntmps90
 go_wp2_with fail
 generalize (((w.alloc (.cells #[.bool s1, .slice A1 n1 c1] 35)).alloc (.cells #[.bool s2, .slice A2 n2 c2] 35)).alloc (.cells #[.bool false, .slice none 0 0] 35)) = W0 at *
 refine Calls.mono (ref_right (G1.out.below hW)) ?_
 rintro e u1 ⟨rfl, hb⟩
 have hW' := hW.trans (hb.mono hW.size)
 have o0' := o0.below hb
 have o1' := o1.below hb
 have o2' := o2.below hb
 clear hb hW o0 o1 o2
 have hW := hW'
 have o0 := o0'
 have o1 := o1'
 have o2 := o2'
 clear hW' o0' o1' o2'
 have o0c := o0.cell
 have o1c := o1.cell
 go_wp2_with fail
 refine Calls.mono (ref_right (G2.out.below hW)) ?_
 rintro e u2 ⟨rfl, hb⟩
 have hW' := hW.trans (hb.mono hW.size)
 have o0' := o0.below hb
 have o1' := o1.below hb
 have o2' := o2.below hb
 clear hb hW o0 o1 o2 o0c o1c
 have hW := hW'
 have o0 := o0'
 have o1 := o1'
 have o2 := o2'
 clear hW' o0' o1' o2'
 have o0c := o0.cell
 have o1c := o1.cell
 have T1 := Lib.hid (S1.out.below hW)
 have T2 := Lib.hid (S2.out.below hW)
 go_wp2
 have hHE := HE.out
 obtain ⟨a0, ha0⟩ : ∃ x, z1.natAbs = x := ⟨_, rfl⟩
 obtain ⟨b0, hb0⟩ : ∃ x, z2.natAbs = x := ⟨_, rfl⟩
 rw [ha0] at T1 hHE
 rw [hb0] at T2 hHE
 have HH := Lib.hid hHE
 clear hHE ha0 hb0 S1 S2 G1 G2 HS L2 HE o0c o1c o0 o1
 have hR := o2
 clear o2
 generalize Value.slice A1 n1 c1 = V1 at *
 generalize Value.slice A2 n2 c2 = V2 at *
 go_loopw [6, 7] (fun x y wr => ∃ (a b : Nat), Nat.gcd a b = z ∧ easyD a ∧ easyD b ∧ SlD wr x a ∧ SlD wr y b ∧ Below w.heap.size w wr ∧ Own wr (w.heap.size + 1 + 1) #[.bool false, .slice none 0 0]) (fun _ y wr => slVal wr y)
 case atStart => exact ⟨a0, b0, HH.out.1, HH.out.2.1, HH.out.2.2, T1.out, T2.out, hW, hR⟩
 case round =>
  clear hW hR T1 T2 HH
  obtain ⟨a, b, hg, ha, hb, hx, hy, hW, hR⟩ := hrel
  have HX := Lib.hid hx
  have HY := Lib.hid hy
  have HG := Lib.hid (And.intro hg (And.intro ha hb))
  obtain ⟨A8, n8, c8, rfl, l8, m8, d8⟩ := hy
  obtain ⟨A7, n7, c7, rfl, l7, m7, d7⟩ := hx
  have HL := Lib.hid d8.len
  have HD7 := Lib.hid d7
  have hRc := hR.cell
  clear d8 d7 hg ha hb
  rcases Nat.eq_zero_or_pos n8 with h0 | h0
  ·subst h0
   have hb0 : b = 0 := digs_nil.1 (List.eq_nil_of_length_eq_zero HL.out)
   have hza : a = z := by rw [← HG.out.1, hb0, Nat.gcd_zero_right]
   subst hza
   have HF : Hid (fits (a : Int) = true) := Lib.hid (fits_small (by have := HG.out.2.1; unfold easyD at this; omega))
   clear hb0
   go_wp2_with fail
   have q := ref1_signed (neg := false) (z := (a : Int)) c7 HD7.out l7 m7 (by rw [digs_val]; rfl)
   unfold RetM at q
   rw [HF.out] at q
   unfold RetM
   rw [HF.out]
   refine Calls.mono q ?_
   clear q
   rintro e w5 ⟨⟨b2, C2, rfl, g1, g2, g3⟩, hb⟩
   obtain ⟨A9, n9, c9, hsl⟩ := slC_form (a : Int) b2 C2
   simp only [numC]
   rw [hsl]
   have hw5 := hW.trans (hb.mono hW.size)
   have p3 := hR.below hb
   have N3 := Lib.hid (And.intro g1 (And.intro hsl (show w.heap.size + 1 + 1 < b2 by have := hR.lt; omega)))
   have p3c := p3.cell
   have p3f := p3.thaw
   have p3z := p3.lt
   clear g1 hsl hb hR hRc
   go_wp2
   refine retC (b := w.heap.size + 1 + 1) (v := .tuple #[.agg #[.bool (sgnN (a : Int)), .slice A9 n9 c9], .bool true]) ((p3.set 0 _).set 1 _) (fun w' hw' => by simp [results, Tryz.results90, go_sem, hw']) rfl ?_
   obtain ⟨⟨b4, C4, e4, g4, g5, g6⟩, g7⟩ := endX (w := w) (B := w.heap.size + 1 + 1) (by omega) rfl N3.out.2.1 hw5 N3.out.1 N3.out.2.2 g3
   exact ⟨⟨b4, C4, by rw [HF.out]; exact congrArg (fun x => Ending.returned (.tuple #[x, .bool true])) (Ending.returned.inj e4), g4, g5, g6⟩, g7⟩
  ·have h0i : (0 : Int) < (n8 : Int) := by omega
   have hb0 : b ≠ 0 := fun e => by
    have h := HL.out
    rw [e] at h
    have : (digs 0).length = 0 := rfl
    omega
   have q := ref1_divide HX.out HY.out HG.out.2.1 HG.out.2.2 hb0
   have HV := Lib.hid (show slVal wr (.slice A8 n8 c8) = b from HY.out.val)
   have HB0 := Lib.hid hb0
   clear hb0
   go_wp2_with fail
   refine Calls.mono q ?_
   clear q
   rintro e w5 ⟨⟨x, y, rfl, gx, gy⟩, hb⟩
   have hw5 := hW.trans (hb.mono hW.size)
   have p3 := hR.below hb
   have GY := Lib.hid gy
   have HY5 := Lib.hid (HY.out.below hb)
   clear gx gy hb hW hR hRc
   go_wp2
   go_roundw
   case rel => exact ⟨b, a % b, by rw [← HG.out.1]; exact (Nat.gcd_comm _ _).trans ((Nat.gcd_rec b a).symm.trans (Nat.gcd_comm b a)), HG.out.2.2, by have := HG.out.2.1; unfold easyD at this ⊢; exact Nat.lt_of_le_of_lt (Nat.mod_le _ _) this, HY5.out, GY.out, hw5, p3⟩
   case measure => rw [HV.out, GY.out.val]; exact Nat.mod_lt _ (by have := HB0.out; omega)
set_option maxRecDepth 100000 in
set_option maxHeartbeats 4000000 in
theorem ref1_Div {w : World} {v1 v2 : Value} {z1 z2 : Int} (h1 : NumAt w v1 z1) (h2 : NumAt w v2 z2) (e1 : easyD z1.natAbs) (e2 : easyD z2.natAbs) (h0 : 0 < z2) (hd : z2 ∣ z1) :
  Calls Tryz.prog 82 #[v1, v2] w fun r w' => (∃ b C, r = .returned (.tuple #[numC (z1 / z2) b C, zeroN, .bool true]) ∧ NumC w' b C (z1 / z2) ∧ w.heap.size ≤ b ∧ b < w'.heap.size) ∧ Below w.heap.size w w' := by
 obtain ⟨z, hz⟩ : ∃ z, z1 / z2 = z := ⟨_, rfl⟩
 rw [hz]
 obtain ⟨y, hy⟩ : ∃ y : Int, y = 0 := ⟨_, rfl⟩
 have HY0 := Lib.hid hy
 obtain ⟨q, hq⟩ : ∃ q, z1.natAbs / z2.natAbs = q := ⟨_, rfl⟩
 have hm : z1.natAbs % z2.natAbs = 0 := Nat.mod_eq_zero_of_dvd (Int.natAbs_dvd_natAbs.2 hd)
 have hsg : sg (decide (z1 < 0)) q = z := by
  obtain ⟨k, rfl⟩ := hd
  rw [Int.mul_ediv_cancel_left _ (by omega)] at hz
  subst hz
  rw [Int.natAbs_mul, Nat.mul_div_cancel_left _ (by omega)] at hq
  subst hq
  unfold sg
  by_cases hn : k < 0
  ·rw [if_pos (decide_eq_true (Int.mul_neg_of_pos_of_neg h0 hn))]; omega
  ·rw [if_neg (by
    intro h
    have := of_decide_eq_true h
    have := Int.mul_nonneg (Int.le_of_lt h0) (show 0 ≤ k by omega)
    omega)]; omega
 have hql : q ≤ z1.natAbs := by rw [← hq]; exact Nat.div_le_self _ _
 have hfz : fits z = true := fits_small (by unfold easyD at e1; rw [← hsg, sg_abs]; omega)
 have HE := Lib.hid (And.intro e1 (And.intro e2 (And.intro h0 (And.intro hq hm))))
 have HQ0 := Lib.hid (And.intro hsg hfz)
 clear hz hy hq hm hsg hql hfz e1 e2 h0 hd
 have G1 := Lib.hid h1
 have G2 := Lib.hid h2
 obtain ⟨A1, n1, c1, rfl, hc1, hm1, hl1, d1⟩ := h1
 obtain ⟨A2, n2, c2, rfl, hc2, hm2, hl2, d2⟩ := h2
 obtain ⟨s1, hs1⟩ : ∃ s, decide (z1 < 0) = s := ⟨_, rfl⟩
 obtain ⟨s2, hs2⟩ : ∃ s, decide (z2 < 0) = s := ⟨_, rfl⟩
 rw [hs1] at G1 ⊢
 rw [hs2] at G2 ⊢
 have HS := Lib.hid (And.intro hs1 hs2)
 have S1 : Hid (SlD w (.slice A1 n1 c1) z1.natAbs) := Lib.hid ⟨_, _, _, rfl, hc1, hm1, d1⟩
 have S2 : Hid (SlD w (.slice A2 n2 c2) z2.natAbs) := Lib.hid ⟨_, _, _, rfl, hc2, hm2, d2⟩
 have L2 := Lib.hid d2.len
 clear d1 d2 hs1 hs2
 have HS2 : s2 = false := by rw [← HS.out.2]; exact decide_eq_false (by have := HE.out.2.2.1; omega)
 subst HS2
 have HQ1 := Lib.hid (show sg s1 q = z by rw [← HS.out.1]; exact HQ0.out.1)
 have hW := (((((Below.refl w.heap.size w).alloc (Nat.le_refl _) (.cells #[.bool s1, .slice A1 n1 c1] 35)).alloc (by simp; try omega) (.cells #[.bool false, .slice A2 n2 c2] 35)).alloc (by simp; try omega) (.cells #[.bool false, .slice none 0 0] 35)).alloc (by simp; try omega) (.cells #[.bool false, .slice none 0 0] 35))
 have o0 : Own ((((w.alloc (.cells #[.bool s1, .slice A1 n1 c1] 35)).alloc (.cells #[.bool false, .slice A2 n2 c2] 35)).alloc (.cells #[.bool false, .slice none 0 0] 35)).alloc (.cells #[.bool false, .slice none 0 0] 35)) (w.heap.size) #[.bool s1, .slice A1 n1 c1] := (by repeat' (first | ((refine Own.new ?_); (focus (first | rfl | omega | (simp; done) | (simp; omega)))) | assumption | refine Own.alloc ?_ _ | refine Own.drew ?_ | (refine Own.far ?_ ?_ _; rotate_left; (focus (first | rfl | omega | (simp; done) | (simp; omega))))))
 have o1 : Own ((((w.alloc (.cells #[.bool s1, .slice A1 n1 c1] 35)).alloc (.cells #[.bool false, .slice A2 n2 c2] 35)).alloc (.cells #[.bool false, .slice none 0 0] 35)).alloc (.cells #[.bool false, .slice none 0 0] 35)) (w.heap.size + 1) #[.bool false, .slice A2 n2 c2] := (by repeat' (first | ((refine Own.new ?_); (focus (first | rfl | omega | (simp; done) | (simp; omega)))) | assumption | refine Own.alloc ?_ _ | refine Own.drew ?_ | (refine Own.far ?_ ?_ _; rotate_left; (focus (first | rfl | omega | (simp; done) | (simp; omega))))))
 have o2 : Own ((((w.alloc (.cells #[.bool s1, .slice A1 n1 c1] 35)).alloc (.cells #[.bool false, .slice A2 n2 c2] 35)).alloc (.cells #[.bool false, .slice none 0 0] 35)).alloc (.cells #[.bool false, .slice none 0 0] 35)) (w.heap.size + 1 + 1) #[.bool false, .slice none 0 0] := (by repeat' (first | ((refine Own.new ?_); (focus (first | rfl | omega | (simp; done) | (simp; omega)))) | assumption | refine Own.alloc ?_ _ | refine Own.drew ?_ | (refine Own.far ?_ ?_ _; rotate_left; (focus (first | rfl | omega | (simp; done) | (simp; omega))))))
 have o3 : Own ((((w.alloc (.cells #[.bool s1, .slice A1 n1 c1] 35)).alloc (.cells #[.bool false, .slice A2 n2 c2] 35)).alloc (.cells #[.bool false, .slice none 0 0] 35)).alloc (.cells #[.bool false, .slice none 0 0] 35)) (w.heap.size + 1 + 1 + 1) #[.bool false, .slice none 0 0] := (by repeat' (first | ((refine Own.new ?_); (focus (first | rfl | omega | (simp; done) | (simp; omega)))) | assumption | refine Own.alloc ?_ _ | refine Own.drew ?_ | (refine Own.far ?_ ?_ _; rotate_left; (focus (first | rfl | omega | (simp; done) | (simp; omega))))))
 go_enter Tryz.func82, Tryz.ntmps82
 go_wp2_with fail
 generalize ((((w.alloc (.cells #[.bool s1, .slice A1 n1 c1] 35)).alloc (.cells #[.bool false, .slice A2 n2 c2] 35)).alloc (.cells #[.bool false, .slice none 0 0] 35)).alloc (.cells #[.bool false, .slice none 0 0] 35)) = W0 at *
 refine Calls.mono (ref_right (G1.out.below hW)) ?_
 rintro e u1 ⟨rfl, hb⟩
 have hW' := hW.trans (hb.mono hW.size)
 have o0' := o0.below hb
 have o1' := o1.below hb
 have o2' := o2.below hb
 have o3' := o3.below hb
 clear hb hW o0 o1 o2 o3
 have hW := hW'
 have o0 := o0'
 have o1 := o1'
 have o2 := o2'
 have o3 := o3'
 clear hW' o0' o1' o2' o3'
 have o0c := o0.cell
 have o1c := o1.cell
 go_wp2_with fail
 refine Calls.mono (ref_right (G2.out.below hW)) ?_
 rintro e u2 ⟨rfl, hb⟩
 have hW' := hW.trans (hb.mono hW.size)
 have o0' := o0.below hb
 have o1' := o1.below hb
 have o2' := o2.below hb
 have o3' := o3.below hb
 clear hb hW o0 o1 o2 o3 o0c o1c
 have hW := hW'
 have o0 := o0'
 have o1 := o1'
 have o2 := o2'
 have o3 := o3'
 clear hW' o0' o1' o2' o3'
 have o0c := o0.cell
 have o1c := o1.cell
 have hn2 : ¬ (n2 : Int) = 0 := by
  have h := L2.out
  have h3 := HE.out.2.2.1
  intro e
  have e4 : digs z2.natAbs = [] := List.eq_nil_of_length_eq_zero (by omega)
  have := digs_nil.1 e4
  omega
 go_wp2_with fail
 refine Calls.mono (ref1_divide (S1.out.below hW) (S2.out.below hW) HE.out.1 HE.out.2.1 (by have := HE.out.2.2.1; omega)) ?_
 rintro e u3 ⟨⟨vx, vy, rfl, gx, gy⟩, hb⟩
 rw [HE.out.2.2.2.1] at gx
 rw [HE.out.2.2.2.2] at gy
 obtain ⟨A7, n7, c7, rfl, l7, m7, d7⟩ := gx
 obtain ⟨A8, n8, c8, rfl, l8, m8, d8⟩ := gy
 have hn8 : n8 = 0 := by rw [← d8.len]; rfl
 subst hn8
 have hWW := hW.trans (hb.mono hW.size)
 have hzW := hWW.size
 have p3 := o0.below hb
 have p4 := o1.below hb
 have p6 := o2.below hb
 have p7 := o3.below hb
 have p7z := p7.lt
 have p3c := p3.cell
 have p4c := p4.cell
 have D7 := Lib.hid d7
 have D8 := Lib.hid d8
 clear d7 d8 hb hW o0 o1 o2 o3 o0c o1c
 have HQ : Hid (sg s1 (vD (digs q)) = z ∧ fits z = true ∧ sg false (vD (digs 0)) = y ∧ fits y = true) := Lib.hid ⟨by rw [digs_val]; exact HQ1.out, HQ0.out.2, by rw [HY0.out]; rfl, by rw [HY0.out]; rfl⟩
 clear HQ1 HQ0 G1 G2 S1 S2 L2 HS HE hn2
 cases s1
 ·have hsb : (false != false) = false := rfl
  go_wp2_with fail
  have q := ref1_signed (z := z) c7 D7.out l7 m7 HQ.out.1
  unfold RetM at q
  rw [HQ.out.2.1] at q
  refine Calls.mono q ?_
  clear q
  rintro e u6 ⟨⟨b1, C1, rfl, hb3, hb1, hb2⟩, hb4⟩
  have hbA := hb4.trans ((Below.refl u6.heap.size u6).alloc (Nat.le_refl _) (.cells #[.bool (sgnN z), slC z b1 C1] 35) |>.mono hb4.size)
  have N1 := Lib.hid (And.intro (Nat.lt_of_lt_of_le p7z hb1) (And.intro hb2 (hb3.below ((Below.refl u6.heap.size u6).alloc (Nat.le_refl _) (.cells #[.bool (sgnN z), slC z b1 C1] 35)))))
  have r9 : Own (u6.alloc (.cells #[.bool (sgnN z), slC z b1 C1] 35)) u6.heap.size #[.bool (sgnN z), slC z b1 C1] := Own.new rfl
  have hzA : (u6.alloc (.cells #[.bool (sgnN z), slC z b1 C1] 35)).heap.size = u6.heap.size + 1 := by simp
  have p6z6 := Nat.lt_of_lt_of_le p7z hb4.size
  obtain ⟨A9, n9, c9, hsl⟩ := slC_form z b1 C1
  simp only [numC]
  rw [hsl] at hbA N1 r9 hzA ⊢
  have HSL := Lib.hid hsl
  clear hsl hb1 hb2 hb3 hb4
  go_wp2_with fail
  generalize (u6.alloc (.cells #[.bool (sgnN z), .slice A9 n9 c9] 35)) = u7 at *
  have hWB := hWW.trans (hbA.mono hzW)
  have hzB := hWB.size
  replace p6 := p6.below hbA
  replace p7 := p7.below hbA
  replace D8 := Lib.hid (D8.out.below hbA)
  clear hbA D7
  have q := ref1_signed (z := y) c8 D8.out l8 m8 HQ.out.2.2.1
  unfold RetM at q
  rw [HQ.out.2.2.2] at q
  refine Calls.mono q ?_
  clear q
  rintro e u8 ⟨⟨b2, C2, rfl, hb3, hb1, hb2⟩, hb4⟩
  have hbA := hb4.trans ((Below.refl u8.heap.size u8).alloc (Nat.le_refl _) (.cells #[.bool (sgnN y), slC y b2 C2] 35) |>.mono hb4.size)
  have N2 := Lib.hid (And.intro (Nat.lt_of_lt_of_le p7.lt hb1) (And.intro hb2 (hb3.below ((Below.refl u8.heap.size u8).alloc (Nat.le_refl _) (.cells #[.bool (sgnN y), slC y b2 C2] 35)))))
  have r11 : Own (u8.alloc (.cells #[.bool (sgnN y), slC y b2 C2] 35)) u8.heap.size #[.bool (sgnN y), slC y b2 C2] := Own.new rfl
  have hzC : (u8.alloc (.cells #[.bool (sgnN y), slC y b2 C2] 35)).heap.size = u8.heap.size + 1 := by simp
  have p6z8 := hb4.size
  obtain ⟨A0, n0, c0, hsl2⟩ := slC_form y b2 C2
  simp only [numC]
  rw [hsl2] at hbA N2 r11 hzC ⊢
  have HSL2 := Lib.hid hsl2
  clear hsl2 hb1 hb2 hb3 hb4
  go_wp2
  generalize (u8.alloc (.cells #[.bool (sgnN y), .slice A0 n0 c0] 35)) = u9 at *
  replace hWB := hWB.trans (hbA.mono hzB)
  replace hzB := hWB.size
  replace p6 := p6.below hbA
  replace p7 := p7.below hbA
  replace r9 := r9.below hbA
  have N1b := N1.out.2.2.below hbA
  clear D8
  refine region_late 2 [w.heap.size + 1 + 1, w.heap.size + 1 + 1 + 1] (by kernel_rfl) (by kernel_rfl) (by rfl) ?_
  apply Exists.intro
  refine ⟨fun v hv hne => ?_, fun u hu => ?_⟩
  ·simp only [List.take_succ_cons, List.take_zero]
   have d9 := fun y => (r9.later (v := v) (T := [w.heap.size + 1 + 1, w.heap.size + 1 + 1 + 1]) (by simp; omega) y).cell
   have d11 := fun y => (r11.later (v := v) (T := [w.heap.size + 1 + 1, w.heap.size + 1 + 1 + 1]) (by simp; omega) y).cell
   repeat (go_big_quiet_step (fail))
   refine wpQuiet_nil ?_
   exact rfl
  simp only [List.drop_succ_cons, List.drop_zero]
  have hwu := hWB.trans (hu.mono hzB)
  have k6 := p6.below hu
  have k7 := p7.below hu
  have k6c := k6.cell
  have k6f := k6.thaw
  have k6z := k6.lt
  have M1 := Lib.hid (And.intro N1.out.1 (And.intro (show b1 < u.heap.size by have h1 := N1.out.2.1; have h2 := hbA.size; have h3 := hu.size; omega) (N1b.below hu)))
  have M2 := Lib.hid (And.intro N2.out.1 (And.intro (show b2 < u.heap.size by have h1 := N2.out.2.1; have h3 := hu.size; omega) (N2.out.2.2.below hu)))
  have hkT := Keeps.of_below (T := [w.heap.size + 1 + 1, w.heap.size + 1 + 1 + 1]) hu
  clear p6 p7 N1 N1b N2 hu hbA r9 r11
  refine late_mem (fun K hK => ?_)
  go_simp
  refine hK _ _ ((hkT.set (by simp) _).set (by simp) _) (fun u1 hu1 => ?_)
  clear hK K
  have hwu1 := ((hwu.setCell (p := ⟨w.heap.size + 1 + 1, 0, none⟩) (by simp; omega) (.bool (sgnN z))).setCell (p := ⟨w.heap.size + 1 + 1, 1, none⟩) (by simp; omega) (.slice A9 n9 c9)).trans (hu1.mono (by simp [World.setCell]; exact hwu.size))
  have j6 := ((k6.set 0 (.bool (sgnN z))).set 1 (.slice A9 n9 c9)).below hu1
  have j7 := ((k7.far (p := ⟨w.heap.size + 1 + 1, 0, none⟩) (by simp) (.bool (sgnN z))).far (p := ⟨w.heap.size + 1 + 1, 1, none⟩) (by simp) (.slice A9 n9 c9)).below hu1
  have hs1 := hu1.size
  simp [World.setCell] at hs1
  have L1 := Lib.hid (And.intro M1.out.1 (And.intro (Nat.lt_of_lt_of_le M1.out.2.1 hs1) (((M1.out.2.2.far (p := ⟨w.heap.size + 1 + 1, 0, none⟩) (by simp; have := M1.out.1; omega) (.bool (sgnN z))).far (p := ⟨w.heap.size + 1 + 1, 1, none⟩) (by simp; have := M1.out.1; omega) (.slice A9 n9 c9)).below hu1)))
  have L2 := Lib.hid (And.intro M2.out.1 (And.intro (Nat.lt_of_lt_of_le M2.out.2.1 hs1) (((M2.out.2.2.far (p := ⟨w.heap.size + 1 + 1, 0, none⟩) (by simp; have := M2.out.1; omega) (.bool (sgnN z))).far (p := ⟨w.heap.size + 1 + 1, 1, none⟩) (by simp; have := M2.out.1; omega) (.slice A9 n9 c9)).below hu1)))
  have hk1 := ((hkT.set (p := ⟨w.heap.size + 1 + 1, 0, none⟩) (by simp) (.bool (sgnN z))).set (p := ⟨w.heap.size + 1 + 1, 1, none⟩) (by simp) (.slice A9 n9 c9)).later hu1
  clear k6 k7 k6c k6f k6z M1 M2 hkT hu1
  have k7c := j7.cell
  have k7f := j7.thaw
  have k7z := j7.lt
  refine late_mem (fun K hK => ?_)
  go_simp
  refine hK _ _ ((hk1.set (by simp) _).set (by simp) _) (fun u2 hu2 => ?_)
  clear hK K
  have hwu2 := ((hwu1.setCell (p := ⟨w.heap.size + 1 + 1 + 1, 0, none⟩) (by simp; omega) (.bool (sgnN y))).setCell (p := ⟨w.heap.size + 1 + 1 + 1, 1, none⟩) (by simp; omega) (.slice A0 n0 c0)).trans (hu2.mono (by simp [World.setCell]; exact hwu1.size))
  have i7 := ((j7.set 0 (.bool (sgnN y))).set 1 (.slice A0 n0 c0)).below hu2
  have i6 := ((j6.far (p := ⟨w.heap.size + 1 + 1 + 1, 0, none⟩) (by simp) (.bool (sgnN y))).far (p := ⟨w.heap.size + 1 + 1 + 1, 1, none⟩) (by simp) (.slice A0 n0 c0)).below hu2
  have hs2 := hu2.size
  simp [World.setCell] at hs2
  have K1 := Lib.hid (And.intro L1.out.1 (And.intro (Nat.lt_of_lt_of_le L1.out.2.1 hs2) (((L1.out.2.2.far (p := ⟨w.heap.size + 1 + 1 + 1, 0, none⟩) (by simp; have := L1.out.1; omega) (.bool (sgnN y))).far (p := ⟨w.heap.size + 1 + 1 + 1, 1, none⟩) (by simp; have := L1.out.1; omega) (.slice A0 n0 c0)).below hu2)))
  have K2 := Lib.hid (And.intro L2.out.1 (And.intro (Nat.lt_of_lt_of_le L2.out.2.1 hs2) (((L2.out.2.2.far (p := ⟨w.heap.size + 1 + 1 + 1, 0, none⟩) (by simp; have := L2.out.1; omega) (.bool (sgnN y))).far (p := ⟨w.heap.size + 1 + 1 + 1, 1, none⟩) (by simp; have := L2.out.1; omega) (.slice A0 n0 c0)).below hu2)))
  have hk2 := ((hk1.set (p := ⟨w.heap.size + 1 + 1 + 1, 0, none⟩) (by simp) (.bool (sgnN y))).set (p := ⟨w.heap.size + 1 + 1 + 1, 1, none⟩) (by simp) (.slice A0 n0 c0)).later hu2
  clear j6 j7 k7c k7f k7z L1 L2 hk1 hu2
  refine late_mem (fun K hK => ?_)
  go_simp
  refine hK _ _ hk2 (fun u3 hu3 => ?_)
  clear hK K
  refine late_nil ?_
  (try simp only [Act.put, List.setIfInBounds_toArray, List.set_cons_zero, List.set_cons_succ])
  have hwu3 := hwu2.trans (hu3.mono hwu2.size)
  have e6 := i6.below hu3
  have e7 := i7.below hu3
  go_wp2
  refine retN2 (b := w.heap.size + 1 + 1) (d := w.heap.size + 1 + 1 + 1) (v := .tuple #[.agg #[.bool (sgnN z), .slice A9 n9 c9], .agg #[.bool (sgnN y), .slice A0 n0 c0], .bool true]) e6 e7 (fun w' hw' hw2 => by simp [results, Tryz.results82, go_sem, hw', hw2]) rfl ⟨⟨b1, C1, ?_, K1.out.2.2.below hu3, by have := K1.out.1; omega, Nat.lt_of_lt_of_le K1.out.2.1 hu3.size⟩, hwu3⟩
  have e9 := HSL2.out
  have e8 := HY0.out
  rw [e8, slC_zero] at e9
  injection e9 with e1 e2 e3
  rw [numC, HSL.out, ← e1, ← e2, ← e3, e8]
  rfl
 ·have hsb : (true != false) = true := rfl
  go_wp2_with fail
  have q := ref1_signed (z := z) c7 D7.out l7 m7 HQ.out.1
  unfold RetM at q
  rw [HQ.out.2.1] at q
  refine Calls.mono q ?_
  clear q
  rintro e u6 ⟨⟨b1, C1, rfl, hb3, hb1, hb2⟩, hb4⟩
  have hbA := hb4.trans ((Below.refl u6.heap.size u6).alloc (Nat.le_refl _) (.cells #[.bool (sgnN z), slC z b1 C1] 35) |>.mono hb4.size)
  have N1 := Lib.hid (And.intro (Nat.lt_of_lt_of_le p7z hb1) (And.intro hb2 (hb3.below ((Below.refl u6.heap.size u6).alloc (Nat.le_refl _) (.cells #[.bool (sgnN z), slC z b1 C1] 35)))))
  have r9 : Own (u6.alloc (.cells #[.bool (sgnN z), slC z b1 C1] 35)) u6.heap.size #[.bool (sgnN z), slC z b1 C1] := Own.new rfl
  have hzA : (u6.alloc (.cells #[.bool (sgnN z), slC z b1 C1] 35)).heap.size = u6.heap.size + 1 := by simp
  have p6z6 := Nat.lt_of_lt_of_le p7z hb4.size
  obtain ⟨A9, n9, c9, hsl⟩ := slC_form z b1 C1
  simp only [numC]
  rw [hsl] at hbA N1 r9 hzA ⊢
  have HSL := Lib.hid hsl
  clear hsl hb1 hb2 hb3 hb4
  go_wp2_with fail
  generalize (u6.alloc (.cells #[.bool (sgnN z), .slice A9 n9 c9] 35)) = u7 at *
  have hWB := hWW.trans (hbA.mono hzW)
  have hzB := hWB.size
  replace p6 := p6.below hbA
  replace p7 := p7.below hbA
  replace D8 := Lib.hid (D8.out.below hbA)
  clear hbA D7
  have q := ref1_signed (z := y) c8 D8.out l8 m8 HQ.out.2.2.1
  unfold RetM at q
  rw [HQ.out.2.2.2] at q
  refine Calls.mono q ?_
  clear q
  rintro e u8 ⟨⟨b2, C2, rfl, hb3, hb1, hb2⟩, hb4⟩
  have hbA := hb4.trans ((Below.refl u8.heap.size u8).alloc (Nat.le_refl _) (.cells #[.bool (sgnN y), slC y b2 C2] 35) |>.mono hb4.size)
  have N2 := Lib.hid (And.intro (Nat.lt_of_lt_of_le p7.lt hb1) (And.intro hb2 (hb3.below ((Below.refl u8.heap.size u8).alloc (Nat.le_refl _) (.cells #[.bool (sgnN y), slC y b2 C2] 35)))))
  have r11 : Own (u8.alloc (.cells #[.bool (sgnN y), slC y b2 C2] 35)) u8.heap.size #[.bool (sgnN y), slC y b2 C2] := Own.new rfl
  have hzC : (u8.alloc (.cells #[.bool (sgnN y), slC y b2 C2] 35)).heap.size = u8.heap.size + 1 := by simp
  have p6z8 := hb4.size
  obtain ⟨A0, n0, c0, hsl2⟩ := slC_form y b2 C2
  simp only [numC]
  rw [hsl2] at hbA N2 r11 hzC ⊢
  have HSL2 := Lib.hid hsl2
  clear hsl2 hb1 hb2 hb3 hb4
  go_wp2
  generalize (u8.alloc (.cells #[.bool (sgnN y), .slice A0 n0 c0] 35)) = u9 at *
  replace hWB := hWB.trans (hbA.mono hzB)
  replace hzB := hWB.size
  replace p6 := p6.below hbA
  replace p7 := p7.below hbA
  replace r9 := r9.below hbA
  have N1b := N1.out.2.2.below hbA
  clear D8
  refine region_late 2 [w.heap.size + 1 + 1, w.heap.size + 1 + 1 + 1] (by kernel_rfl) (by kernel_rfl) (by rfl) ?_
  apply Exists.intro
  refine ⟨fun v hv hne => ?_, fun u hu => ?_⟩
  ·simp only [List.take_succ_cons, List.take_zero]
   have d9 := fun y => (r9.later (v := v) (T := [w.heap.size + 1 + 1, w.heap.size + 1 + 1 + 1]) (by simp; omega) y).cell
   have d11 := fun y => (r11.later (v := v) (T := [w.heap.size + 1 + 1, w.heap.size + 1 + 1 + 1]) (by simp; omega) y).cell
   repeat (go_big_quiet_step (fail))
   refine wpQuiet_nil ?_
   exact rfl
  simp only [List.drop_succ_cons, List.drop_zero]
  have hwu := hWB.trans (hu.mono hzB)
  have k6 := p6.below hu
  have k7 := p7.below hu
  have k6c := k6.cell
  have k6f := k6.thaw
  have k6z := k6.lt
  have M1 := Lib.hid (And.intro N1.out.1 (And.intro (show b1 < u.heap.size by have h1 := N1.out.2.1; have h2 := hbA.size; have h3 := hu.size; omega) (N1b.below hu)))
  have M2 := Lib.hid (And.intro N2.out.1 (And.intro (show b2 < u.heap.size by have h1 := N2.out.2.1; have h3 := hu.size; omega) (N2.out.2.2.below hu)))
  have hkT := Keeps.of_below (T := [w.heap.size + 1 + 1, w.heap.size + 1 + 1 + 1]) hu
  clear p6 p7 N1 N1b N2 hu hbA r9 r11
  refine late_mem (fun K hK => ?_)
  go_simp
  refine hK _ _ ((hkT.set (by simp) _).set (by simp) _) (fun u1 hu1 => ?_)
  clear hK K
  have hwu1 := ((hwu.setCell (p := ⟨w.heap.size + 1 + 1, 0, none⟩) (by simp; omega) (.bool (sgnN z))).setCell (p := ⟨w.heap.size + 1 + 1, 1, none⟩) (by simp; omega) (.slice A9 n9 c9)).trans (hu1.mono (by simp [World.setCell]; exact hwu.size))
  have j6 := ((k6.set 0 (.bool (sgnN z))).set 1 (.slice A9 n9 c9)).below hu1
  have j7 := ((k7.far (p := ⟨w.heap.size + 1 + 1, 0, none⟩) (by simp) (.bool (sgnN z))).far (p := ⟨w.heap.size + 1 + 1, 1, none⟩) (by simp) (.slice A9 n9 c9)).below hu1
  have hs1 := hu1.size
  simp [World.setCell] at hs1
  have L1 := Lib.hid (And.intro M1.out.1 (And.intro (Nat.lt_of_lt_of_le M1.out.2.1 hs1) (((M1.out.2.2.far (p := ⟨w.heap.size + 1 + 1, 0, none⟩) (by simp; have := M1.out.1; omega) (.bool (sgnN z))).far (p := ⟨w.heap.size + 1 + 1, 1, none⟩) (by simp; have := M1.out.1; omega) (.slice A9 n9 c9)).below hu1)))
  have L2 := Lib.hid (And.intro M2.out.1 (And.intro (Nat.lt_of_lt_of_le M2.out.2.1 hs1) (((M2.out.2.2.far (p := ⟨w.heap.size + 1 + 1, 0, none⟩) (by simp; have := M2.out.1; omega) (.bool (sgnN z))).far (p := ⟨w.heap.size + 1 + 1, 1, none⟩) (by simp; have := M2.out.1; omega) (.slice A9 n9 c9)).below hu1)))
  have hk1 := ((hkT.set (p := ⟨w.heap.size + 1 + 1, 0, none⟩) (by simp) (.bool (sgnN z))).set (p := ⟨w.heap.size + 1 + 1, 1, none⟩) (by simp) (.slice A9 n9 c9)).later hu1
  clear k6 k7 k6c k6f k6z M1 M2 hkT hu1
  have k7c := j7.cell
  have k7f := j7.thaw
  have k7z := j7.lt
  refine late_mem (fun K hK => ?_)
  go_simp
  refine hK _ _ ((hk1.set (by simp) _).set (by simp) _) (fun u2 hu2 => ?_)
  clear hK K
  have hwu2 := ((hwu1.setCell (p := ⟨w.heap.size + 1 + 1 + 1, 0, none⟩) (by simp; omega) (.bool (sgnN y))).setCell (p := ⟨w.heap.size + 1 + 1 + 1, 1, none⟩) (by simp; omega) (.slice A0 n0 c0)).trans (hu2.mono (by simp [World.setCell]; exact hwu1.size))
  have i7 := ((j7.set 0 (.bool (sgnN y))).set 1 (.slice A0 n0 c0)).below hu2
  have i6 := ((j6.far (p := ⟨w.heap.size + 1 + 1 + 1, 0, none⟩) (by simp) (.bool (sgnN y))).far (p := ⟨w.heap.size + 1 + 1 + 1, 1, none⟩) (by simp) (.slice A0 n0 c0)).below hu2
  have hs2 := hu2.size
  simp [World.setCell] at hs2
  have K1 := Lib.hid (And.intro L1.out.1 (And.intro (Nat.lt_of_lt_of_le L1.out.2.1 hs2) (((L1.out.2.2.far (p := ⟨w.heap.size + 1 + 1 + 1, 0, none⟩) (by simp; have := L1.out.1; omega) (.bool (sgnN y))).far (p := ⟨w.heap.size + 1 + 1 + 1, 1, none⟩) (by simp; have := L1.out.1; omega) (.slice A0 n0 c0)).below hu2)))
  have K2 := Lib.hid (And.intro L2.out.1 (And.intro (Nat.lt_of_lt_of_le L2.out.2.1 hs2) (((L2.out.2.2.far (p := ⟨w.heap.size + 1 + 1 + 1, 0, none⟩) (by simp; have := L2.out.1; omega) (.bool (sgnN y))).far (p := ⟨w.heap.size + 1 + 1 + 1, 1, none⟩) (by simp; have := L2.out.1; omega) (.slice A0 n0 c0)).below hu2)))
  have hk2 := ((hk1.set (p := ⟨w.heap.size + 1 + 1 + 1, 0, none⟩) (by simp) (.bool (sgnN y))).set (p := ⟨w.heap.size + 1 + 1 + 1, 1, none⟩) (by simp) (.slice A0 n0 c0)).later hu2
  clear j6 j7 k7c k7f k7z L1 L2 hk1 hu2
  refine late_mem (fun K hK => ?_)
  go_simp
  refine hK _ _ hk2 (fun u3 hu3 => ?_)
  clear hK K
  refine late_nil ?_
  (try simp only [Act.put, List.setIfInBounds_toArray, List.set_cons_zero, List.set_cons_succ])
  have hwu3 := hwu2.trans (hu3.mono hwu2.size)
  have e6 := i6.below hu3
  have e7 := i7.below hu3
  go_wp2
  refine retN2 (b := w.heap.size + 1 + 1) (d := w.heap.size + 1 + 1 + 1) (v := .tuple #[.agg #[.bool (sgnN z), .slice A9 n9 c9], .agg #[.bool (sgnN y), .slice A0 n0 c0], .bool true]) e6 e7 (fun w' hw' hw2 => by simp [results, Tryz.results82, go_sem, hw', hw2]) rfl ⟨⟨b1, C1, ?_, K1.out.2.2.below hu3, by have := K1.out.1; omega, Nat.lt_of_lt_of_le K1.out.2.1 hu3.size⟩, hwu3⟩
  have e9 := HSL2.out
  have e8 := HY0.out
  rw [e8, slC_zero] at e9
  injection e9 with e1 e2 e3
  rw [numC, HSL.out, ← e1, ← e2, ← e3, e8]
  rfl
end Go.Proofs.YtflgngjocgiojaaGreat
