/- Div. -/
import Derived.Test.YtflgngjocgiojaaGreatNumS0
namespace Go.Proofs.YtflgngjocgiojaaGreat
open Go.RowKit

theorem retN2 {P : Program} {fn : Func} {R : Ending → World → Prop} {a : Act} {w : World} {v : Value} {b d : Nat} {cs ds : Array Value} (ho : Own w b cs) (hp : Own w d ds)
  (hr : ∀ w' : World, (∀ i, w'.cell? ⟨b, i, none⟩ = cs[i]?) → (∀ i, w'.cell? ⟨d, i, none⟩ = ds[i]?) → (results fn a.tmps).run P w' = .ok v w') (hd : a.defers = []) (hR : R (.returned v) w) : bodyPost P fn R .ret a w :=
 bodyPost_ret (hr w ho.cell hp.cell) hd hR
set_option maxRecDepth 100000 in
set_option maxHeartbeats 2000000 in
theorem num_Div {w : World} {v1 v2 : Value} {z1 z2 : Int} (h1 : NumAt w v1 z1) (h2 : NumAt w v2 z2) (h0 : z2 ≠ 0) : Calls Tryz.prog 105 #[v1, v2] w fun r w' => (∃ b1 b2, r = .returned (.tuple #[numV (z1 / z2) b1, numV (z1 % z2) b2, .bool true]) ∧ NumO w' b1 (z1 / z2) ∧ NumO w' b2 (z1 % z2) ∧ w.heap.size ≤ b1 ∧ w.heap.size ≤ b2 ∧ b1 < w'.heap.size ∧ b2 < w'.heap.size) ∧ Below w.heap.size w w' := by
 obtain ⟨y, hy⟩ : ∃ z, z1 % z2 = z := ⟨_, rfl⟩
 rw [hy]
 have HY := Lib.hid (And.intro hy h0)
 clear hy h0
 obtain ⟨z, hz⟩ : ∃ z, z1 / z2 = z := ⟨_, rfl⟩
 rw [hz]
 have G1 := Lib.hid h1
 have G2 := Lib.hid h2
 obtain ⟨r1, k1⟩ := h1.raw
 obtain ⟨r2, k2⟩ := h2.raw
 obtain ⟨A1, n1, c1, rfl, hc1, hm1, hl1, d1⟩ := h1
 obtain ⟨A2, n2, c2, rfl, hc2, hm2, hl2, d2⟩ := h2
 obtain ⟨s1, hs1⟩ : ∃ s, decide (z1 < 0) = s := ⟨_, rfl⟩
 obtain ⟨s2, hs2⟩ : ∃ s, decide (z2 < 0) = s := ⟨_, rfl⟩
 rw [hs1] at r1 k1 G1 ⊢
 rw [hs2] at r2 k2 G2 ⊢
 have H := Lib.hid (And.intro hz (And.intro hs1 hs2))
 have D1 := Lib.hid d1
 have D2 := Lib.hid d2
 have R1 := Lib.hid (And.intro r1 k1)
 have R2 := Lib.hid (And.intro r2 k2)
 clear hz hs1 hs2 d1 d2 r1 k1 r2 k2
 go_enter Tryz.func105, Tryz.ntmps105
 have hn2 : n2 ≠ 0 := fun h => by
  have e := D2.out.len
  rw [h] at e
  have := digs_nil.1 (List.eq_nil_of_length_eq_zero e)
  have := HY.out.2
  omega
 have hn2i : ¬ (n2 : Int) = 0 := by omega
 have hW := (((((Below.refl w.heap.size w).alloc (Nat.le_refl _) (.cells #[.bool s1, .slice A1 n1 c1] 35)).alloc (by simp) (.cells #[.bool s2, .slice A2 n2 c2] 35)).alloc (by simp; omega) (.cells #[.bool false, .slice none 0 0] 35)).alloc (by simp; omega) (.cells #[.bool false, .slice none 0 0] 35))
 go_wp2_with fail
 have o3 : Own ((((w.alloc (.cells #[.bool s1, .slice A1 n1 c1] 35)).alloc (.cells #[.bool s2, .slice A2 n2 c2] 35)).alloc (.cells #[.bool false, .slice none 0 0] 35)).alloc (.cells #[.bool false, .slice none 0 0] 35)) w.heap.size #[.bool s1, .slice A1 n1 c1] := (by repeat' (first | ((refine Own.new ?_); (focus (first | rfl | omega | (simp; done) | (simp; omega)))) | assumption | refine Own.alloc ?_ _ | refine Own.drew ?_ | (refine Own.far ?_ ?_ _; rotate_left; (focus (first | rfl | omega | (simp; done) | (simp; omega))))))
 have o4 : Own ((((w.alloc (.cells #[.bool s1, .slice A1 n1 c1] 35)).alloc (.cells #[.bool s2, .slice A2 n2 c2] 35)).alloc (.cells #[.bool false, .slice none 0 0] 35)).alloc (.cells #[.bool false, .slice none 0 0] 35)) (w.heap.size + 1) #[.bool s2, .slice A2 n2 c2] := (by repeat' (first | ((refine Own.new ?_); (focus (first | rfl | omega | (simp; done) | (simp; omega)))) | assumption | refine Own.alloc ?_ _ | refine Own.drew ?_ | (refine Own.far ?_ ?_ _; rotate_left; (focus (first | rfl | omega | (simp; done) | (simp; omega))))))
 have o6 : Own ((((w.alloc (.cells #[.bool s1, .slice A1 n1 c1] 35)).alloc (.cells #[.bool s2, .slice A2 n2 c2] 35)).alloc (.cells #[.bool false, .slice none 0 0] 35)).alloc (.cells #[.bool false, .slice none 0 0] 35)) (w.heap.size + 1 + 1) #[.bool false, .slice none 0 0] := (by repeat' (first | ((refine Own.new ?_); (focus (first | rfl | omega | (simp; done) | (simp; omega)))) | assumption | refine Own.alloc ?_ _ | refine Own.drew ?_ | (refine Own.far ?_ ?_ _; rotate_left; (focus (first | rfl | omega | (simp; done) | (simp; omega))))))
 have o7 : Own ((((w.alloc (.cells #[.bool s1, .slice A1 n1 c1] 35)).alloc (.cells #[.bool s2, .slice A2 n2 c2] 35)).alloc (.cells #[.bool false, .slice none 0 0] 35)).alloc (.cells #[.bool false, .slice none 0 0] 35)) (w.heap.size + 1 + 1 + 1) #[.bool false, .slice none 0 0] := (by repeat' (first | ((refine Own.new ?_); (focus (first | rfl | omega | (simp; done) | (simp; omega)))) | assumption | refine Own.alloc ?_ _ | refine Own.drew ?_ | (refine Own.far ?_ ?_ _; rotate_left; (focus (first | rfl | omega | (simp; done) | (simp; omega))))))
 generalize ((((w.alloc (.cells #[.bool s1, .slice A1 n1 c1] 35)).alloc (.cells #[.bool s2, .slice A2 n2 c2] 35)).alloc (.cells #[.bool false, .slice none 0 0] 35)).alloc (.cells #[.bool false, .slice none 0 0] 35)) = W0 at *
 refine Calls.mono (right_ok ⟨R1.out.1.below hW, R1.out.2⟩) ?_
 rintro e u1 ⟨rfl, hb1⟩
 have hz0 := hW.size
 have hW1 := hW.trans (hb1.mono hz0)
 have p3 := o3.below hb1
 have p4 := o4.below hb1
 have p6 := o6.below hb1
 have p7 := o7.below hb1
 clear o3 o4 o6 o7 hb1
 have p4c := p4.cell
 go_wp2_with fail
 refine Calls.mono (right_ok ⟨R2.out.1.below hW1, R2.out.2⟩) ?_
 rintro e u2 ⟨rfl, hb2⟩
 have hz1 := hW1.size
 have hWW := hW1.trans (hb2.mono hz1)
 replace p3 := p3.below hb2
 replace p4 := p4.below hb2
 replace p6 := p6.below hb2
 replace p7 := p7.below hb2
 clear p4c hb2 hW1
 have p4c := p4.cell
 have p3c := p3.cell
 have X1 := Lib.hid (D1.out.below hWW)
 have X2 := Lib.hid (D2.out.below hWW)
 have hzW := hWW.size
 have p6z := p6.lt
 clear D1 D2 R1 R2 hz0 hz1 hW
 go_wp2_with fail
 refine Calls.mono (mag_over c1 c2 X1.out X2.out (by omega) (by omega) hc1 hm1 (by have := HY.out.2; omega)) ?_
 rintro e u3 ⟨⟨q1, q2, rfl, e1, e2⟩, hb3⟩
 replace hWW := hWW.trans (hb3.mono hzW)
 replace hzW := hWW.size
 replace p3 := p3.below hb3
 replace p4 := p4.below hb3
 replace p6 := p6.below hb3
 replace p7 := p7.below hb3
 replace p3c := p3.cell
 replace p4c := p4.cell
 replace p6z := p6.lt
 have p7z := p7.lt
 replace X1 := Lib.hid (X1.out.below hb3)
 replace X2 := Lib.hid (X2.out.below hb3)
 obtain ⟨A7, n7, c7, rfl, l7, m7, d7⟩ := e1
 obtain ⟨A8, n8, c8, rfl, l8, m8, d8⟩ := e2
 have D7 := Lib.hid d7
 have D8 := Lib.hid d8
 have hl8 := d8.len
 clear d7 d8 hb3
 obtain ⟨q, hq⟩ : ∃ q, z1.natAbs / z2.natAbs = q := ⟨_, rfl⟩
 obtain ⟨r, hr⟩ : ∃ q, z1.natAbs % z2.natAbs = q := ⟨_, rfl⟩
 rw [hq] at D7
 rw [hr] at D8 hl8
 have QR := Lib.hid (And.intro hq (And.intro hr hl8))
 clear hq hr hl8
 cases s1
 ·have HQ : Hid (sg (!(false == s2)) q = z ∧ sg false r = y) := Lib.hid (by
   have e := div_no (z1 := z1) HY.out.2 (.inl H.out.2.1)
   rw [H.out.2.1, H.out.2.2, H.out.1, HY.out.1, QR.out.1, QR.out.2.1] at e
   exact e)
  go_wp2_with fail
  refine Calls.mono (D7.out.number (z := z) c7 l7 m7 (by rw [digs_val]; have e := HQ.out.1; revert e; cases s2 <;> exact id)) ?_
  rintro e u6 ⟨⟨b1, rfl, hb1, hb2, hb3⟩, hb4⟩
  have hbA := hb4.trans ((Below.refl u6.heap.size u6).alloc (Nat.le_refl _) (.cells #[.bool (sgnN z), slN z b1] 35) |>.mono hb4.size)
  have N1 := Lib.hid (And.intro (Nat.lt_of_lt_of_le p7z hb1) (And.intro hb2 (hb3.below ((Below.refl u6.heap.size u6).alloc (Nat.le_refl _) (.cells #[.bool (sgnN z), slN z b1] 35)))))
  have r9 : Own (u6.alloc (.cells #[.bool (sgnN z), slN z b1] 35)) u6.heap.size #[.bool (sgnN z), slN z b1] := Own.new rfl
  have hzA : (u6.alloc (.cells #[.bool (sgnN z), slN z b1] 35)).heap.size = u6.heap.size + 1 := by simp
  have p6z6 := Nat.lt_of_lt_of_le p7z hb4.size
  obtain ⟨A9, n9, c9, hsl⟩ := slN_form z b1
  simp only [numV]
  rw [hsl] at hbA N1 r9 hzA ⊢
  have HSL := Lib.hid hsl
  clear hsl hb1 hb2 hb3 hb4 p3c p4c p3 p4
  go_wp2_with fail
  generalize (u6.alloc (.cells #[.bool (sgnN z), .slice A9 n9 c9] 35)) = u7 at *
  have hWB := hWW.trans (hbA.mono hzW)
  have hzB := hWB.size
  replace p6 := p6.below hbA
  replace p7 := p7.below hbA
  replace D8 := Lib.hid (D8.out.below hbA)
  clear hbA D7
  refine Calls.mono (D8.out.number (z := y) c8 l8 m8 (by rw [digs_val]; exact HQ.out.2)) ?_
  rintro e u8 ⟨⟨b2, rfl, hb1, hb2, hb3⟩, hb4⟩
  have hbA := hb4.trans ((Below.refl u8.heap.size u8).alloc (Nat.le_refl _) (.cells #[.bool (sgnN y), slN y b2] 35) |>.mono hb4.size)
  have N2 := Lib.hid (And.intro (Nat.lt_of_lt_of_le p7.lt hb1) (And.intro hb2 (hb3.below ((Below.refl u8.heap.size u8).alloc (Nat.le_refl _) (.cells #[.bool (sgnN y), slN y b2] 35)))))
  have r11 : Own (u8.alloc (.cells #[.bool (sgnN y), slN y b2] 35)) u8.heap.size #[.bool (sgnN y), slN y b2] := Own.new rfl
  have hzC : (u8.alloc (.cells #[.bool (sgnN y), slN y b2] 35)).heap.size = u8.heap.size + 1 := by simp
  have p6z8 := hb4.size
  obtain ⟨A0, n0, c0, hsl2⟩ := slN_form y b2
  simp only [numV]
  rw [hsl2] at hbA N2 r11 hzC ⊢
  have HSL2 := Lib.hid hsl2
  clear hsl2 hb1 hb2 hb3 hb4
  go_wp2
  generalize (u8.alloc (.cells #[.bool (sgnN y), .slice A0 n0 c0] 35)) = u9 at *
  replace hWB := hWB.trans (hbA.mono hzB)
  replace hzB := hWB.size
  replace p6 := p6.below hbA
  replace p7 := p7.below hbA
  replace r9 := r9.below hbA
  have N1b := N1.out.2.2.below hbA
  clear D8
  refine region_late 2 [w.heap.size + 1 + 1, w.heap.size + 1 + 1 + 1] (by kernel_rfl) (by kernel_rfl) (by rfl) ?_
  apply Exists.intro
  refine ⟨fun v hv hne => ?_, fun u hu => ?_⟩
  ·simp only [List.take_succ_cons, List.take_zero]
   have d9 := fun y => (r9.later (v := v) (T := [w.heap.size + 1 + 1, w.heap.size + 1 + 1 + 1]) (by simp; omega) y).cell
   have d11 := fun y => (r11.later (v := v) (T := [w.heap.size + 1 + 1, w.heap.size + 1 + 1 + 1]) (by simp; omega) y).cell
   repeat (go_big_quiet_step (fail))
   refine wpQuiet_nil ?_
   exact rfl
  simp only [List.drop_succ_cons, List.drop_zero]
  have hwu := hWB.trans (hu.mono hzB)
  have k6 := p6.below hu
  have k7 := p7.below hu
  have k6c := k6.cell
  have k6f := k6.thaw
  have k6z := k6.lt
  have M1 := Lib.hid (And.intro N1.out.1 (And.intro (show b1 < u.heap.size by have h1 := N1.out.2.1; have h2 := hbA.size; have h3 := hu.size; omega) (N1b.below hu)))
  have M2 := Lib.hid (And.intro N2.out.1 (And.intro (show b2 < u.heap.size by have h1 := N2.out.2.1; have h3 := hu.size; omega) (N2.out.2.2.below hu)))
  have hkT := Keeps.of_below (T := [w.heap.size + 1 + 1, w.heap.size + 1 + 1 + 1]) hu
  clear p6 p7 N1 N1b N2 hu hbA r9 r11
  refine late_mem (fun K hK => ?_)
  go_simp
  refine hK _ _ ((hkT.set (by simp) _).set (by simp) _) (fun u1 hu1 => ?_)
  clear hK K
  have hwu1 := ((hwu.setCell (p := ⟨w.heap.size + 1 + 1, 0, none⟩) (by simp; omega) (.bool (sgnN z))).setCell (p := ⟨w.heap.size + 1 + 1, 1, none⟩) (by simp; omega) (.slice A9 n9 c9)).trans (hu1.mono (by simp [World.setCell]; exact hwu.size))
  have j6 := ((k6.set 0 (.bool (sgnN z))).set 1 (.slice A9 n9 c9)).below hu1
  have j7 := ((k7.far (p := ⟨w.heap.size + 1 + 1, 0, none⟩) (by simp) (.bool (sgnN z))).far (p := ⟨w.heap.size + 1 + 1, 1, none⟩) (by simp) (.slice A9 n9 c9)).below hu1
  have hs1 := hu1.size
  simp [World.setCell] at hs1
  have L1 := Lib.hid (And.intro M1.out.1 (And.intro (Nat.lt_of_lt_of_le M1.out.2.1 hs1) (((M1.out.2.2.far (p := ⟨w.heap.size + 1 + 1, 0, none⟩) (by simp; have := M1.out.1; omega) (.bool (sgnN z))).far (p := ⟨w.heap.size + 1 + 1, 1, none⟩) (by simp; have := M1.out.1; omega) (.slice A9 n9 c9)).below hu1)))
  have L2 := Lib.hid (And.intro M2.out.1 (And.intro (Nat.lt_of_lt_of_le M2.out.2.1 hs1) (((M2.out.2.2.far (p := ⟨w.heap.size + 1 + 1, 0, none⟩) (by simp; have := M2.out.1; omega) (.bool (sgnN z))).far (p := ⟨w.heap.size + 1 + 1, 1, none⟩) (by simp; have := M2.out.1; omega) (.slice A9 n9 c9)).below hu1)))
  have hk1 := ((hkT.set (p := ⟨w.heap.size + 1 + 1, 0, none⟩) (by simp) (.bool (sgnN z))).set (p := ⟨w.heap.size + 1 + 1, 1, none⟩) (by simp) (.slice A9 n9 c9)).later hu1
  clear k6 k7 k6c k6f k6z M1 M2 hkT hu1
  have k7c := j7.cell
  have k7f := j7.thaw
  have k7z := j7.lt
  refine late_mem (fun K hK => ?_)
  go_simp
  refine hK _ _ ((hk1.set (by simp) _).set (by simp) _) (fun u2 hu2 => ?_)
  clear hK K
  have hwu2 := ((hwu1.setCell (p := ⟨w.heap.size + 1 + 1 + 1, 0, none⟩) (by simp; omega) (.bool (sgnN y))).setCell (p := ⟨w.heap.size + 1 + 1 + 1, 1, none⟩) (by simp; omega) (.slice A0 n0 c0)).trans (hu2.mono (by simp [World.setCell]; exact hwu1.size))
  have i7 := ((j7.set 0 (.bool (sgnN y))).set 1 (.slice A0 n0 c0)).below hu2
  have i6 := ((j6.far (p := ⟨w.heap.size + 1 + 1 + 1, 0, none⟩) (by simp) (.bool (sgnN y))).far (p := ⟨w.heap.size + 1 + 1 + 1, 1, none⟩) (by simp) (.slice A0 n0 c0)).below hu2
  have hs2 := hu2.size
  simp [World.setCell] at hs2
  have K1 := Lib.hid (And.intro L1.out.1 (And.intro (Nat.lt_of_lt_of_le L1.out.2.1 hs2) (((L1.out.2.2.far (p := ⟨w.heap.size + 1 + 1 + 1, 0, none⟩) (by simp; have := L1.out.1; omega) (.bool (sgnN y))).far (p := ⟨w.heap.size + 1 + 1 + 1, 1, none⟩) (by simp; have := L1.out.1; omega) (.slice A0 n0 c0)).below hu2)))
  have K2 := Lib.hid (And.intro L2.out.1 (And.intro (Nat.lt_of_lt_of_le L2.out.2.1 hs2) (((L2.out.2.2.far (p := ⟨w.heap.size + 1 + 1 + 1, 0, none⟩) (by simp; have := L2.out.1; omega) (.bool (sgnN y))).far (p := ⟨w.heap.size + 1 + 1 + 1, 1, none⟩) (by simp; have := L2.out.1; omega) (.slice A0 n0 c0)).below hu2)))
  have hk2 := ((hk1.set (p := ⟨w.heap.size + 1 + 1 + 1, 0, none⟩) (by simp) (.bool (sgnN y))).set (p := ⟨w.heap.size + 1 + 1 + 1, 1, none⟩) (by simp) (.slice A0 n0 c0)).later hu2
  clear j6 j7 k7c k7f k7z L1 L2 hk1 hu2
  refine late_mem (fun K hK => ?_)
  go_simp
  refine hK _ _ hk2 (fun u3 hu3 => ?_)
  clear hK K
  refine late_nil ?_
  (try simp only [Act.put, List.setIfInBounds_toArray, List.set_cons_zero, List.set_cons_succ])
  have hwu3 := hwu2.trans (hu3.mono hwu2.size)
  have e6 := i6.below hu3
  have e7 := i7.below hu3
  go_wp2
  refine retN2 (b := w.heap.size + 1 + 1) (d := w.heap.size + 1 + 1 + 1) (v := .tuple #[.agg #[.bool (sgnN z), .slice A9 n9 c9], .agg #[.bool (sgnN y), .slice A0 n0 c0], .bool true]) e6 e7 (fun w' hw' hw2 => by simp [results, Tryz.results105, go_sem, hw', hw2]) rfl ⟨⟨b1, b2, by rw [numV, numV, HSL.out, HSL2.out], K1.out.2.2.below hu3, K2.out.2.2.below hu3, by have := K1.out.1; omega, by have := K2.out.1; omega, Nat.lt_of_lt_of_le K1.out.2.1 hu3.size, Nat.lt_of_lt_of_le K2.out.2.1 hu3.size⟩, hwu3⟩
 ·by_cases hr0 : n8 = 0
  ·have HQ : Hid (sg (!(true == s2)) q = z ∧ sg false r = y) := Lib.hid (by
    have e0 : r = 0 := digs_nil.1 (List.eq_nil_of_length_eq_zero (by rw [QR.out.2.2]; exact hr0))
    have e := div_no (z1 := z1) HY.out.2 (.inr (by rw [QR.out.2.1]; exact e0))
    rw [H.out.2.1, H.out.2.2, H.out.1, HY.out.1, QR.out.1, QR.out.2.1] at e
    exact e)
   have hr0i : ¬ (0 : Int) < (n8 : Int) := by omega
   clear hr0
   go_wp2_with fail
   refine Calls.mono (D7.out.number (z := z) c7 l7 m7 (by rw [digs_val]; have e := HQ.out.1; revert e; cases s2 <;> exact id)) ?_
   rintro e u6 ⟨⟨b1, rfl, hb1, hb2, hb3⟩, hb4⟩
   have hbA := hb4.trans ((Below.refl u6.heap.size u6).alloc (Nat.le_refl _) (.cells #[.bool (sgnN z), slN z b1] 35) |>.mono hb4.size)
   have N1 := Lib.hid (And.intro (Nat.lt_of_lt_of_le p7z hb1) (And.intro hb2 (hb3.below ((Below.refl u6.heap.size u6).alloc (Nat.le_refl _) (.cells #[.bool (sgnN z), slN z b1] 35)))))
   have r9 : Own (u6.alloc (.cells #[.bool (sgnN z), slN z b1] 35)) u6.heap.size #[.bool (sgnN z), slN z b1] := Own.new rfl
   have hzA : (u6.alloc (.cells #[.bool (sgnN z), slN z b1] 35)).heap.size = u6.heap.size + 1 := by simp
   have p6z6 := Nat.lt_of_lt_of_le p7z hb4.size
   obtain ⟨A9, n9, c9, hsl⟩ := slN_form z b1
   simp only [numV]
   rw [hsl] at hbA N1 r9 hzA ⊢
   have HSL := Lib.hid hsl
   clear hsl hb1 hb2 hb3 hb4 p3c p4c p3 p4
   go_wp2_with fail
   generalize (u6.alloc (.cells #[.bool (sgnN z), .slice A9 n9 c9] 35)) = u7 at *
   have hWB := hWW.trans (hbA.mono hzW)
   have hzB := hWB.size
   replace p6 := p6.below hbA
   replace p7 := p7.below hbA
   replace D8 := Lib.hid (D8.out.below hbA)
   clear hbA D7
   refine Calls.mono (D8.out.number (z := y) c8 l8 m8 (by rw [digs_val]; exact HQ.out.2)) ?_
   rintro e u8 ⟨⟨b2, rfl, hb1, hb2, hb3⟩, hb4⟩
   have hbA := hb4.trans ((Below.refl u8.heap.size u8).alloc (Nat.le_refl _) (.cells #[.bool (sgnN y), slN y b2] 35) |>.mono hb4.size)
   have N2 := Lib.hid (And.intro (Nat.lt_of_lt_of_le p7.lt hb1) (And.intro hb2 (hb3.below ((Below.refl u8.heap.size u8).alloc (Nat.le_refl _) (.cells #[.bool (sgnN y), slN y b2] 35)))))
   have r11 : Own (u8.alloc (.cells #[.bool (sgnN y), slN y b2] 35)) u8.heap.size #[.bool (sgnN y), slN y b2] := Own.new rfl
   have hzC : (u8.alloc (.cells #[.bool (sgnN y), slN y b2] 35)).heap.size = u8.heap.size + 1 := by simp
   have p6z8 := hb4.size
   obtain ⟨A0, n0, c0, hsl2⟩ := slN_form y b2
   simp only [numV]
   rw [hsl2] at hbA N2 r11 hzC ⊢
   have HSL2 := Lib.hid hsl2
   clear hsl2 hb1 hb2 hb3 hb4
   go_wp2
   generalize (u8.alloc (.cells #[.bool (sgnN y), .slice A0 n0 c0] 35)) = u9 at *
   replace hWB := hWB.trans (hbA.mono hzB)
   replace hzB := hWB.size
   replace p6 := p6.below hbA
   replace p7 := p7.below hbA
   replace r9 := r9.below hbA
   have N1b := N1.out.2.2.below hbA
   clear D8
   refine region_late 2 [w.heap.size + 1 + 1, w.heap.size + 1 + 1 + 1] (by kernel_rfl) (by kernel_rfl) (by rfl) ?_
   apply Exists.intro
   refine ⟨fun v hv hne => ?_, fun u hu => ?_⟩
   ·simp only [List.take_succ_cons, List.take_zero]
    have d9 := fun y => (r9.later (v := v) (T := [w.heap.size + 1 + 1, w.heap.size + 1 + 1 + 1]) (by simp; omega) y).cell
    have d11 := fun y => (r11.later (v := v) (T := [w.heap.size + 1 + 1, w.heap.size + 1 + 1 + 1]) (by simp; omega) y).cell
    repeat (go_big_quiet_step (fail))
    refine wpQuiet_nil ?_
    exact rfl
   simp only [List.drop_succ_cons, List.drop_zero]
   have hwu := hWB.trans (hu.mono hzB)
   have k6 := p6.below hu
   have k7 := p7.below hu
   have k6c := k6.cell
   have k6f := k6.thaw
   have k6z := k6.lt
   have M1 := Lib.hid (And.intro N1.out.1 (And.intro (show b1 < u.heap.size by have h1 := N1.out.2.1; have h2 := hbA.size; have h3 := hu.size; omega) (N1b.below hu)))
   have M2 := Lib.hid (And.intro N2.out.1 (And.intro (show b2 < u.heap.size by have h1 := N2.out.2.1; have h3 := hu.size; omega) (N2.out.2.2.below hu)))
   have hkT := Keeps.of_below (T := [w.heap.size + 1 + 1, w.heap.size + 1 + 1 + 1]) hu
   clear p6 p7 N1 N1b N2 hu hbA r9 r11
   refine late_mem (fun K hK => ?_)
   go_simp
   refine hK _ _ ((hkT.set (by simp) _).set (by simp) _) (fun u1 hu1 => ?_)
   clear hK K
   have hwu1 := ((hwu.setCell (p := ⟨w.heap.size + 1 + 1, 0, none⟩) (by simp; omega) (.bool (sgnN z))).setCell (p := ⟨w.heap.size + 1 + 1, 1, none⟩) (by simp; omega) (.slice A9 n9 c9)).trans (hu1.mono (by simp [World.setCell]; exact hwu.size))
   have j6 := ((k6.set 0 (.bool (sgnN z))).set 1 (.slice A9 n9 c9)).below hu1
   have j7 := ((k7.far (p := ⟨w.heap.size + 1 + 1, 0, none⟩) (by simp) (.bool (sgnN z))).far (p := ⟨w.heap.size + 1 + 1, 1, none⟩) (by simp) (.slice A9 n9 c9)).below hu1
   have hs1 := hu1.size
   simp [World.setCell] at hs1
   have L1 := Lib.hid (And.intro M1.out.1 (And.intro (Nat.lt_of_lt_of_le M1.out.2.1 hs1) (((M1.out.2.2.far (p := ⟨w.heap.size + 1 + 1, 0, none⟩) (by simp; have := M1.out.1; omega) (.bool (sgnN z))).far (p := ⟨w.heap.size + 1 + 1, 1, none⟩) (by simp; have := M1.out.1; omega) (.slice A9 n9 c9)).below hu1)))
   have L2 := Lib.hid (And.intro M2.out.1 (And.intro (Nat.lt_of_lt_of_le M2.out.2.1 hs1) (((M2.out.2.2.far (p := ⟨w.heap.size + 1 + 1, 0, none⟩) (by simp; have := M2.out.1; omega) (.bool (sgnN z))).far (p := ⟨w.heap.size + 1 + 1, 1, none⟩) (by simp; have := M2.out.1; omega) (.slice A9 n9 c9)).below hu1)))
   have hk1 := ((hkT.set (p := ⟨w.heap.size + 1 + 1, 0, none⟩) (by simp) (.bool (sgnN z))).set (p := ⟨w.heap.size + 1 + 1, 1, none⟩) (by simp) (.slice A9 n9 c9)).later hu1
   clear k6 k7 k6c k6f k6z M1 M2 hkT hu1
   have k7c := j7.cell
   have k7f := j7.thaw
   have k7z := j7.lt
   refine late_mem (fun K hK => ?_)
   go_simp
   refine hK _ _ ((hk1.set (by simp) _).set (by simp) _) (fun u2 hu2 => ?_)
   clear hK K
   have hwu2 := ((hwu1.setCell (p := ⟨w.heap.size + 1 + 1 + 1, 0, none⟩) (by simp; omega) (.bool (sgnN y))).setCell (p := ⟨w.heap.size + 1 + 1 + 1, 1, none⟩) (by simp; omega) (.slice A0 n0 c0)).trans (hu2.mono (by simp [World.setCell]; exact hwu1.size))
   have i7 := ((j7.set 0 (.bool (sgnN y))).set 1 (.slice A0 n0 c0)).below hu2
   have i6 := ((j6.far (p := ⟨w.heap.size + 1 + 1 + 1, 0, none⟩) (by simp) (.bool (sgnN y))).far (p := ⟨w.heap.size + 1 + 1 + 1, 1, none⟩) (by simp) (.slice A0 n0 c0)).below hu2
   have hs2 := hu2.size
   simp [World.setCell] at hs2
   have K1 := Lib.hid (And.intro L1.out.1 (And.intro (Nat.lt_of_lt_of_le L1.out.2.1 hs2) (((L1.out.2.2.far (p := ⟨w.heap.size + 1 + 1 + 1, 0, none⟩) (by simp; have := L1.out.1; omega) (.bool (sgnN y))).far (p := ⟨w.heap.size + 1 + 1 + 1, 1, none⟩) (by simp; have := L1.out.1; omega) (.slice A0 n0 c0)).below hu2)))
   have K2 := Lib.hid (And.intro L2.out.1 (And.intro (Nat.lt_of_lt_of_le L2.out.2.1 hs2) (((L2.out.2.2.far (p := ⟨w.heap.size + 1 + 1 + 1, 0, none⟩) (by simp; have := L2.out.1; omega) (.bool (sgnN y))).far (p := ⟨w.heap.size + 1 + 1 + 1, 1, none⟩) (by simp; have := L2.out.1; omega) (.slice A0 n0 c0)).below hu2)))
   have hk2 := ((hk1.set (p := ⟨w.heap.size + 1 + 1 + 1, 0, none⟩) (by simp) (.bool (sgnN y))).set (p := ⟨w.heap.size + 1 + 1 + 1, 1, none⟩) (by simp) (.slice A0 n0 c0)).later hu2
   clear j6 j7 k7c k7f k7z L1 L2 hk1 hu2
   refine late_mem (fun K hK => ?_)
   go_simp
   refine hK _ _ hk2 (fun u3 hu3 => ?_)
   clear hK K
   refine late_nil ?_
   (try simp only [Act.put, List.setIfInBounds_toArray, List.set_cons_zero, List.set_cons_succ])
   have hwu3 := hwu2.trans (hu3.mono hwu2.size)
   have e6 := i6.below hu3
   have e7 := i7.below hu3
   go_wp2
   refine retN2 (b := w.heap.size + 1 + 1) (d := w.heap.size + 1 + 1 + 1) (v := .tuple #[.agg #[.bool (sgnN z), .slice A9 n9 c9], .agg #[.bool (sgnN y), .slice A0 n0 c0], .bool true]) e6 e7 (fun w' hw' hw2 => by simp [results, Tryz.results105, go_sem, hw', hw2]) rfl ⟨⟨b1, b2, by rw [numV, numV, HSL.out, HSL2.out], K1.out.2.2.below hu3, K2.out.2.2.below hu3, by have := K1.out.1; omega, by have := K2.out.1; omega, Nat.lt_of_lt_of_le K1.out.2.1 hu3.size, Nat.lt_of_lt_of_le K2.out.2.1 hu3.size⟩, hwu3⟩
  ·have hr0i : (0 : Int) < (n8 : Int) := by omega
   have HQ : Hid (sg (!(true == s2)) (q + 1) = z ∧ sg false (z2.natAbs - r) = y) := Lib.hid (by
    have e0 : r ≠ 0 := fun e0 => hr0 (by rw [← QR.out.2.2, e0]; rfl)
    have e := div_adj (z1 := z1) HY.out.2 H.out.2.1 (by rw [QR.out.2.1]; omega)
    rw [H.out.2.1, H.out.2.2, H.out.1, HY.out.1, QR.out.1, QR.out.2.1] at e
    exact e)
   clear hr0
   have hn7 : n7 ≤ 64 := by
    have a1 := D7.out.len
    have a2 := X1.out.len
    have a3 := digs_mono (show q ≤ z1.natAbs by rw [← QR.out.1]; exact Nat.div_le_self _ _)
    omega
   have hrm : r ≤ z2.natAbs := by
    rw [← QR.out.2.1]
    have := Nat.mod_lt z1.natAbs (show 0 < z2.natAbs by have := HY.out.2; omega)
    omega
   have hn8 : n8 ≤ n2 := by
    have a1 := D8.out.len
    have a2 := X2.out.len
    have a3 := digs_mono hrm
    omega
   have HRM := Lib.hid hrm
   obtain ⟨N, hN⟩ : ∃ N, z2.natAbs - r = N := ⟨_, rfl⟩
   rw [hN] at HQ
   have HN := Lib.hid hN
   obtain ⟨q5, hq5⟩ : ∃ N, q + 1 = N := ⟨_, rfl⟩
   rw [hq5] at HQ
   have HQ5 := Lib.hid hq5
   clear hrm hN hq5
   go_wp2
   have hTu : ∀ u : World, Keeps [] u3 u → u.heap.size ∉ ([] : List Nat) := fun u hu => by simp
   refine region_gen (T := []) [.make 1 [] (ownB [] #[.int .u32 1] (fun p => .slice (some ⟨p, 0, none⟩) 1 1)), .make 2 [1] (newB _ q5), .make 6 [] (newB _ N)] 7 0 40 (fun _ _ => True) (fun _ _ _ _ _ => trivial) trivial (by kernel_rfl) (by kernel_rfl) (by rfl) ?_
   unfold genWalk
   apply Exists.intro
   apply And.intro
   ·apply Piece.mk
    ·intro f v hv hr hne
     simp only [List.take_succ_cons, List.take_zero, List.drop_zero, Nat.reduceSub]
     repeat (go_big_quiet_step (fail))
     refine wpQuiet_nil ?_
     exact rfl
    ·intro f; kernel_rfl
    ·intro f f' hf; kernel_rfl
   simp only [List.take_succ_cons, List.take_zero, List.drop_succ_cons, List.drop_zero, Nat.reduceAdd, oneOp]
   refine ⟨fun f => ⟨rfl, fun u hu _ => ?_⟩, ?_⟩
   ·refine make_own (e := 97) (by (try simp only [Act.put, List.setIfInBounds_toArray, List.set_cons_zero, List.set_cons_succ]); go_simp) (by simp)
   unfold genWalk
   apply Exists.intro
   apply And.intro
   ·apply Piece.mk
    ·intro f v hv hr hne
     simp only [List.take_zero, List.drop_succ_cons, List.drop_zero, Nat.reduceSub]
     (try simp only [Act.put, List.setIfInBounds_toArray, List.set_cons_zero, List.set_cons_succ])
     (try simp only [ownB_val])
     repeat (go_big_quiet_step (fail))
     refine wpQuiet_nil ?_
     exact rfl
    ·intro f; kernel_rfl
    ·intro f f' hf; simp
   simp only [List.take_succ_cons, List.take_zero, List.drop_succ_cons, List.drop_zero, Nat.reduceAdd, oneOp]
   refine ⟨fun f => ⟨rfl, fun u hu hm => ?_⟩, ?_⟩
   ·refine make_call (f := 128) (args := #[.slice A7 n7 c7, .slice (some ⟨(f 1).1, 0, none⟩) 1 1]) (by (try simp only [Act.put, List.setIfInBounds_toArray, List.set_cons_zero, List.set_cons_succ]); (try simp only [newB_val, numB_val, ownB_val]); go_simp) ?_
    have hR : (ownB [] #[.int .u32 1] (fun p => .slice (some ⟨p, 0, none⟩) 1 1)).R (f 1) u := hm 1 (by simp)
    have hO : OwnD u (f 1).1 [1] := hR.2
    have q := mag_plus (w := u) c7 1 (D7.out.keeps hu) (hO.digs (Dg.one (by omega))) (by omega) (by show 1 ≤ 1000; omega)
    rw [digs_val, vD_cons, vD_nil, Nat.mul_zero, Nat.add_zero, HQ5.out] at q
    refine q.mono ?_
    rintro e wx ⟨⟨C, rfl, q1, q2, q3, q4⟩, hbx⟩
    exact ⟨(u.heap.size, C), rfl, Nat.le_refl _, q4, hbx, hTu u hu, q1, q2, q3⟩
   unfold genWalk
   apply Exists.intro
   apply And.intro
   ·apply Piece.mk
    ·intro f v hv hr hne
     simp only [List.take_succ_cons, List.take_zero, List.drop_succ_cons, List.drop_zero, Nat.reduceSub]
     (try simp only [Act.put, List.setIfInBounds_toArray, List.set_cons_zero, List.set_cons_succ])
     (try simp only [newB_val])
     have d4 := fun y => (p4.later (v := v) (T := []) (by simp) y).cell
     repeat (go_big_quiet_step (fail))
     refine wpQuiet_nil ?_
     exact rfl
    ·intro f; kernel_rfl
    ·intro f f' hf; simp
   simp only [List.take_succ_cons, List.take_zero, List.drop_succ_cons, List.drop_zero, Nat.reduceAdd, oneOp]
   refine ⟨fun f => ⟨rfl, fun u hu _ => ?_⟩, ?_⟩
   ·refine make_call (f := 129) (args := #[.slice A2 n2 c2, .slice A8 n8 c8]) (by (try simp only [Act.put, List.setIfInBounds_toArray, List.set_cons_zero, List.set_cons_succ]); (try simp only [newB_val, numB_val, ownB_val]); go_simp) ?_
    have q := mag_minus (w := u) c2 c8 (X2.out.keeps hu) (D8.out.keeps hu) (by omega) hn8 (by rw [digs_val, digs_val]; exact HRM.out)
    rw [digs_val, digs_val, HN.out] at q
    refine q.mono ?_
    rintro e wx ⟨⟨C, rfl, q1, q2, q3, q4⟩, hbx⟩
    exact ⟨(u.heap.size, C), rfl, Nat.le_refl _, q4, hbx, hTu u hu, q1, q2, q3⟩
   unfold genWalk
   apply Exists.intro
   apply And.intro
   ·apply Piece.mk
    ·intro f v hv hr hne
     simp only [List.take_zero, List.drop_succ_cons, List.drop_zero, Nat.reduceSub]
     (try simp only [Act.put, List.setIfInBounds_toArray, List.set_cons_zero, List.set_cons_succ])
     (try simp only [newB_val])
     repeat (go_big_quiet_step (fail))
     refine wpQuiet_nil ?_
     exact rfl
    ·intro f; kernel_rfl
    ·intro f f' hf; simp
   intro f u4 hup hph hmade hdist
   obtain ⟨⟨_, g1, g2, g3⟩, loM, hiM⟩ := hmade 2 (by omega) rfl
   obtain ⟨⟨_, g4, g5, g6⟩, loN, hiN⟩ := hmade 6 (by omega) rfl
   replace g1 : (digs q5).length ≤ (f 2).2 := g1
   replace g2 : (f 2).2 ≤ 2001 := g2
   replace g3 : DigsAt u4 (some ⟨(f 2).1, 0, none⟩) (digs q5).length (digs q5) := g3
   replace g4 : (digs N).length ≤ (f 6).2 := g4
   replace g5 : (f 6).2 ≤ 2001 := g5
   replace g6 : DigsAt u4 (some ⟨(f 6).1, 0, none⟩) (digs N).length (digs N) := g6
   clear hmade hdist hph
   simp only
   (try simp only [Act.put, List.setIfInBounds_toArray, List.set_cons_zero, List.set_cons_succ])
   (try simp only [newB_val, numB_val, ownB_val])
   clear D7 D8
   generalize (f 2).2 = c7 at *
   generalize (f 6).2 = c8 at *
   generalize (some ⟨(f 2).1, 0, none⟩ : Option Addr) = A7 at *
   generalize (some ⟨(f 6).1, 0, none⟩ : Option Addr) = A8 at *
   generalize (digs q5).length = n7 at *
   generalize (digs N).length = n8 at *
   replace hWW : Below w.heap.size w u4 := Upd.below hWW hup (by simp)
   replace hzW := hWW.size
   replace p3 := p3.upd hup (by simp)
   replace p4 := p4.upd hup (by simp)
   replace p6 := p6.upd hup (by simp)
   replace p7 := p7.upd hup (by simp)
   have hkT := Upd.keeps (Keeps.refl _ _) hup
   clear X1 X2 p3c p4c p6z p7z
   refine effc_mem (by rfl) (fun K hK => ?_)
   go_simp
   refine hK _ _ hkT (fun u5 hu5 => ?_)
   clear hK K
   have hkT5 := hkT.later hu5
   refine effc_mem (by rfl) (fun K hK => ?_)
   go_simp
   refine hK _ _ hkT5 (fun u6 hu6 => ?_)
   clear hK K
   refine effc_nil ?_
   (try simp only [Act.put, List.setIfInBounds_toArray, List.set_cons_zero, List.set_cons_succ])
   have hu := hu5.trans (hu6.mono hu5.size)
   replace hWW := hWW.trans (hu.mono hzW)
   replace hzW := hWW.size
   replace p3 := p3.below hu
   replace p4 := p4.below hu
   replace p6 := p6.below hu
   replace p7 := p7.below hu
   have p3c := p3.cell
   have p4c := p4.cell
   have p6z := p6.lt
   have p7z := p7.lt
   have D7 := Lib.hid (g3.below hu)
   have D8 := Lib.hid (g6.below hu)
   have l7 := g1
   have m7 : c7 ≤ 9223372036854775807 := by omega
   have l8 := g4
   have m8 : c8 ≤ 9223372036854775807 := by omega
   clear g1 g2 g3 g4 g5 g6 hu hu5 hu6 hkT hkT5 hup
   go_wp2_with fail
   refine Calls.mono (D7.out.number (z := z) c7 l7 m7 (by rw [digs_val]; have e := HQ.out.1; revert e; cases s2 <;> exact id)) ?_
   rintro e u6 ⟨⟨b1, rfl, hb1, hb2, hb3⟩, hb4⟩
   have hbA := hb4.trans ((Below.refl u6.heap.size u6).alloc (Nat.le_refl _) (.cells #[.bool (sgnN z), slN z b1] 35) |>.mono hb4.size)
   have N1 := Lib.hid (And.intro (Nat.lt_of_lt_of_le p7z hb1) (And.intro hb2 (hb3.below ((Below.refl u6.heap.size u6).alloc (Nat.le_refl _) (.cells #[.bool (sgnN z), slN z b1] 35)))))
   have r9 : Own (u6.alloc (.cells #[.bool (sgnN z), slN z b1] 35)) u6.heap.size #[.bool (sgnN z), slN z b1] := Own.new rfl
   have hzA : (u6.alloc (.cells #[.bool (sgnN z), slN z b1] 35)).heap.size = u6.heap.size + 1 := by simp
   have p6z6 := Nat.lt_of_lt_of_le p7z hb4.size
   obtain ⟨A9, n9, c9, hsl⟩ := slN_form z b1
   simp only [numV]
   rw [hsl] at hbA N1 r9 hzA ⊢
   have HSL := Lib.hid hsl
   clear hsl hb1 hb2 hb3 hb4 p3c p4c p3 p4
   go_wp2_with fail
   generalize (u6.alloc (.cells #[.bool (sgnN z), .slice A9 n9 c9] 35)) = u7 at *
   have hWB := hWW.trans (hbA.mono hzW)
   have hzB := hWB.size
   replace p6 := p6.below hbA
   replace p7 := p7.below hbA
   replace D8 := Lib.hid (D8.out.below hbA)
   clear hbA D7
   refine Calls.mono (D8.out.number (z := y) c8 l8 m8 (by rw [digs_val]; exact HQ.out.2)) ?_
   rintro e u8 ⟨⟨b2, rfl, hb1, hb2, hb3⟩, hb4⟩
   have hbA := hb4.trans ((Below.refl u8.heap.size u8).alloc (Nat.le_refl _) (.cells #[.bool (sgnN y), slN y b2] 35) |>.mono hb4.size)
   have N2 := Lib.hid (And.intro (Nat.lt_of_lt_of_le p7.lt hb1) (And.intro hb2 (hb3.below ((Below.refl u8.heap.size u8).alloc (Nat.le_refl _) (.cells #[.bool (sgnN y), slN y b2] 35)))))
   have r11 : Own (u8.alloc (.cells #[.bool (sgnN y), slN y b2] 35)) u8.heap.size #[.bool (sgnN y), slN y b2] := Own.new rfl
   have hzC : (u8.alloc (.cells #[.bool (sgnN y), slN y b2] 35)).heap.size = u8.heap.size + 1 := by simp
   have p6z8 := hb4.size
   obtain ⟨A0, n0, c0, hsl2⟩ := slN_form y b2
   simp only [numV]
   rw [hsl2] at hbA N2 r11 hzC ⊢
   have HSL2 := Lib.hid hsl2
   clear hsl2 hb1 hb2 hb3 hb4
   go_wp2
   generalize (u8.alloc (.cells #[.bool (sgnN y), .slice A0 n0 c0] 35)) = u9 at *
   replace hWB := hWB.trans (hbA.mono hzB)
   replace hzB := hWB.size
   replace p6 := p6.below hbA
   replace p7 := p7.below hbA
   replace r9 := r9.below hbA
   have N1b := N1.out.2.2.below hbA
   clear D8
   refine region_late 2 [w.heap.size + 1 + 1, w.heap.size + 1 + 1 + 1] (by kernel_rfl) (by kernel_rfl) (by rfl) ?_
   apply Exists.intro
   refine ⟨fun v hv hne => ?_, fun u hu => ?_⟩
   ·simp only [List.take_succ_cons, List.take_zero]
    have d9 := fun y => (r9.later (v := v) (T := [w.heap.size + 1 + 1, w.heap.size + 1 + 1 + 1]) (by simp; omega) y).cell
    have d11 := fun y => (r11.later (v := v) (T := [w.heap.size + 1 + 1, w.heap.size + 1 + 1 + 1]) (by simp; omega) y).cell
    repeat (go_big_quiet_step (fail))
    refine wpQuiet_nil ?_
    exact rfl
   simp only [List.drop_succ_cons, List.drop_zero]
   have hwu := hWB.trans (hu.mono hzB)
   have k6 := p6.below hu
   have k7 := p7.below hu
   have k6c := k6.cell
   have k6f := k6.thaw
   have k6z := k6.lt
   have M1 := Lib.hid (And.intro N1.out.1 (And.intro (show b1 < u.heap.size by have h1 := N1.out.2.1; have h2 := hbA.size; have h3 := hu.size; omega) (N1b.below hu)))
   have M2 := Lib.hid (And.intro N2.out.1 (And.intro (show b2 < u.heap.size by have h1 := N2.out.2.1; have h3 := hu.size; omega) (N2.out.2.2.below hu)))
   have hkT := Keeps.of_below (T := [w.heap.size + 1 + 1, w.heap.size + 1 + 1 + 1]) hu
   clear p6 p7 N1 N1b N2 hu hbA r9 r11
   refine late_mem (fun K hK => ?_)
   go_simp
   refine hK _ _ ((hkT.set (by simp) _).set (by simp) _) (fun u1 hu1 => ?_)
   clear hK K
   have hwu1 := ((hwu.setCell (p := ⟨w.heap.size + 1 + 1, 0, none⟩) (by simp; omega) (.bool (sgnN z))).setCell (p := ⟨w.heap.size + 1 + 1, 1, none⟩) (by simp; omega) (.slice A9 n9 c9)).trans (hu1.mono (by simp [World.setCell]; exact hwu.size))
   have j6 := ((k6.set 0 (.bool (sgnN z))).set 1 (.slice A9 n9 c9)).below hu1
   have j7 := ((k7.far (p := ⟨w.heap.size + 1 + 1, 0, none⟩) (by simp) (.bool (sgnN z))).far (p := ⟨w.heap.size + 1 + 1, 1, none⟩) (by simp) (.slice A9 n9 c9)).below hu1
   have hs1 := hu1.size
   simp [World.setCell] at hs1
   have L1 := Lib.hid (And.intro M1.out.1 (And.intro (Nat.lt_of_lt_of_le M1.out.2.1 hs1) (((M1.out.2.2.far (p := ⟨w.heap.size + 1 + 1, 0, none⟩) (by simp; have := M1.out.1; omega) (.bool (sgnN z))).far (p := ⟨w.heap.size + 1 + 1, 1, none⟩) (by simp; have := M1.out.1; omega) (.slice A9 n9 c9)).below hu1)))
   have L2 := Lib.hid (And.intro M2.out.1 (And.intro (Nat.lt_of_lt_of_le M2.out.2.1 hs1) (((M2.out.2.2.far (p := ⟨w.heap.size + 1 + 1, 0, none⟩) (by simp; have := M2.out.1; omega) (.bool (sgnN z))).far (p := ⟨w.heap.size + 1 + 1, 1, none⟩) (by simp; have := M2.out.1; omega) (.slice A9 n9 c9)).below hu1)))
   have hk1 := ((hkT.set (p := ⟨w.heap.size + 1 + 1, 0, none⟩) (by simp) (.bool (sgnN z))).set (p := ⟨w.heap.size + 1 + 1, 1, none⟩) (by simp) (.slice A9 n9 c9)).later hu1
   clear k6 k7 k6c k6f k6z M1 M2 hkT hu1
   have k7c := j7.cell
   have k7f := j7.thaw
   have k7z := j7.lt
   refine late_mem (fun K hK => ?_)
   go_simp
   refine hK _ _ ((hk1.set (by simp) _).set (by simp) _) (fun u2 hu2 => ?_)
   clear hK K
   have hwu2 := ((hwu1.setCell (p := ⟨w.heap.size + 1 + 1 + 1, 0, none⟩) (by simp; omega) (.bool (sgnN y))).setCell (p := ⟨w.heap.size + 1 + 1 + 1, 1, none⟩) (by simp; omega) (.slice A0 n0 c0)).trans (hu2.mono (by simp [World.setCell]; exact hwu1.size))
   have i7 := ((j7.set 0 (.bool (sgnN y))).set 1 (.slice A0 n0 c0)).below hu2
   have i6 := ((j6.far (p := ⟨w.heap.size + 1 + 1 + 1, 0, none⟩) (by simp) (.bool (sgnN y))).far (p := ⟨w.heap.size + 1 + 1 + 1, 1, none⟩) (by simp) (.slice A0 n0 c0)).below hu2
   have hs2 := hu2.size
   simp [World.setCell] at hs2
   have K1 := Lib.hid (And.intro L1.out.1 (And.intro (Nat.lt_of_lt_of_le L1.out.2.1 hs2) (((L1.out.2.2.far (p := ⟨w.heap.size + 1 + 1 + 1, 0, none⟩) (by simp; have := L1.out.1; omega) (.bool (sgnN y))).far (p := ⟨w.heap.size + 1 + 1 + 1, 1, none⟩) (by simp; have := L1.out.1; omega) (.slice A0 n0 c0)).below hu2)))
   have K2 := Lib.hid (And.intro L2.out.1 (And.intro (Nat.lt_of_lt_of_le L2.out.2.1 hs2) (((L2.out.2.2.far (p := ⟨w.heap.size + 1 + 1 + 1, 0, none⟩) (by simp; have := L2.out.1; omega) (.bool (sgnN y))).far (p := ⟨w.heap.size + 1 + 1 + 1, 1, none⟩) (by simp; have := L2.out.1; omega) (.slice A0 n0 c0)).below hu2)))
   have hk2 := ((hk1.set (p := ⟨w.heap.size + 1 + 1 + 1, 0, none⟩) (by simp) (.bool (sgnN y))).set (p := ⟨w.heap.size + 1 + 1 + 1, 1, none⟩) (by simp) (.slice A0 n0 c0)).later hu2
   clear j6 j7 k7c k7f k7z L1 L2 hk1 hu2
   refine late_mem (fun K hK => ?_)
   go_simp
   refine hK _ _ hk2 (fun u3 hu3 => ?_)
   clear hK K
   refine late_nil ?_
   (try simp only [Act.put, List.setIfInBounds_toArray, List.set_cons_zero, List.set_cons_succ])
   have hwu3 := hwu2.trans (hu3.mono hwu2.size)
   have e6 := i6.below hu3
   have e7 := i7.below hu3
   go_wp2
   refine retN2 (b := w.heap.size + 1 + 1) (d := w.heap.size + 1 + 1 + 1) (v := .tuple #[.agg #[.bool (sgnN z), .slice A9 n9 c9], .agg #[.bool (sgnN y), .slice A0 n0 c0], .bool true]) e6 e7 (fun w' hw' hw2 => by simp [results, Tryz.results105, go_sem, hw', hw2]) rfl ⟨⟨b1, b2, by rw [numV, numV, HSL.out, HSL2.out], K1.out.2.2.below hu3, K2.out.2.2.below hu3, by have := K1.out.1; omega, by have := K2.out.1; omega, Nat.lt_of_lt_of_le K1.out.2.1 hu3.size, Nat.lt_of_lt_of_le K2.out.2.1 hu3.size⟩, hwu3⟩
end Go.Proofs.YtflgngjocgiojaaGreat
