/- Ratio: Add. -/
import Derived.Test.YtflgngjocgiojaaGreatRatI
namespace Go.Proofs.YtflgngjocgiojaaGreat
open Go.RowKit

set_option maxRecDepth 100000 in
set_option maxHeartbeats 2000000 in
theorem ratio_Add {w : World} {v1 v2 : Value} {a b c d : Int} (h1 : RatAt w v1 a b) (h2 : RatAt w v2 c d) (k1 : goodQ a b = true) (k2 : goodQ c d = true) (f1 : fits (a * d) = true) (f2 : fits (c * b) = true) (f3 : fits (a * d + c * b) = true) (f4 : fits (b * d) = true) :
  Calls Tryz.prog 28 #[v1, v2] w (RetR w (ofN (a * d + c * b) (b * d)) (ofD (a * d + c * b) (b * d))) := by
 obtain ⟨z, hz⟩ : ∃ z, ofN (a * d + c * b) (b * d) = z := ⟨_, rfl⟩
 obtain ⟨y, hy⟩ : ∃ z, ofD (a * d + c * b) (b * d) = z := ⟨_, rfl⟩
 rw [hz, hy]
 obtain ⟨ad, had⟩ : ∃ z, a * d = z := ⟨_, rfl⟩
 obtain ⟨cb, hcb⟩ : ∃ z, c * b = z := ⟨_, rfl⟩
 obtain ⟨bd, hbd⟩ : ∃ z, b * d = z := ⟨_, rfl⟩
 have hb0 : 0 < b := by unfold goodQ at k1; simp at k1; exact k1.1
 have hd0 : 0 < d := by unfold goodQ at k2; simp at k2; exact k2.1
 have hbd0 : 0 < bd := by rw [← hbd]; exact Int.mul_pos hb0 hd0
 rw [had, hcb] at f3 hz hy
 obtain ⟨sm, hsm⟩ : ∃ z, ad + cb = z := ⟨_, rfl⟩
 rw [had] at f1
 rw [hcb] at f2
 rw [hbd] at f4 hz hy
 rw [hsm] at f3 hz hy
 have R1 := Lib.hid (And.intro h1 k1)
 have R2 := Lib.hid (And.intro h2 k2)
 have HP := Lib.hid (And.intro had (And.intro hcb (And.intro hbd hsm)))
 have HF := Lib.hid (And.intro f1 (And.intro f2 (And.intro f3 f4)))
 have H := Lib.hid (And.intro hz (And.intro hy hbd0))
 obtain ⟨s1, A1, n1, c1, t1, E1, m1, d1, rfl, g1, g2⟩ := h1
 obtain ⟨s2, A2, n2, c2, t2, E2, m2, d2, rfl, g3, g4⟩ := h2
 have G1 := Lib.hid g1
 have G2 := Lib.hid g2
 have G3 := Lib.hid g3
 have G4 := Lib.hid g4
 clear hz hy had hcb hbd hsm hb0 hd0 hbd0 f1 f2 f3 f4 k1 k2 g1 g2 g3 g4
 have hW := ((((Below.refl w.heap.size w).alloc (Nat.le_refl _) (.cells #[.bool s1, .slice A1 n1 c1, .bool t1, .slice E1 m1 d1] 37)).alloc (by simp) (.cells #[.bool s2, .slice A2 n2 c2, .bool t2, .slice E2 m2 d2] 37)).alloc (by simp; omega) (.cells #[.bool false, .slice none 0 0, .bool false, .slice none 0 0] 37))
 have o2 : Own (((w.alloc (.cells #[.bool s1, .slice A1 n1 c1, .bool t1, .slice E1 m1 d1] 37)).alloc (.cells #[.bool s2, .slice A2 n2 c2, .bool t2, .slice E2 m2 d2] 37)).alloc (.cells #[.bool false, .slice none 0 0, .bool false, .slice none 0 0] 37)) w.heap.size #[.bool s1, .slice A1 n1 c1, .bool t1, .slice E1 m1 d1] := (by repeat' (first | ((refine Own.new ?_); (focus (first | rfl | omega | (simp; done) | (simp; omega)))) | assumption | refine Own.alloc ?_ _ | refine Own.drew ?_ | (refine Own.far ?_ ?_ _; rotate_left; (focus (first | rfl | omega | (simp; done) | (simp; omega))))))
 have o3 : Own (((w.alloc (.cells #[.bool s1, .slice A1 n1 c1, .bool t1, .slice E1 m1 d1] 37)).alloc (.cells #[.bool s2, .slice A2 n2 c2, .bool t2, .slice E2 m2 d2] 37)).alloc (.cells #[.bool false, .slice none 0 0, .bool false, .slice none 0 0] 37)) (w.heap.size + 1) #[.bool s2, .slice A2 n2 c2, .bool t2, .slice E2 m2 d2] := (by repeat' (first | ((refine Own.new ?_); (focus (first | rfl | omega | (simp; done) | (simp; omega)))) | assumption | refine Own.alloc ?_ _ | refine Own.drew ?_ | (refine Own.far ?_ ?_ _; rotate_left; (focus (first | rfl | omega | (simp; done) | (simp; omega))))))
 have o4 : Own (((w.alloc (.cells #[.bool s1, .slice A1 n1 c1, .bool t1, .slice E1 m1 d1] 37)).alloc (.cells #[.bool s2, .slice A2 n2 c2, .bool t2, .slice E2 m2 d2] 37)).alloc (.cells #[.bool false, .slice none 0 0, .bool false, .slice none 0 0] 37)) (w.heap.size + 1 + 1) #[.bool false, .slice none 0 0, .bool false, .slice none 0 0] := (by repeat' (first | ((refine Own.new ?_); (focus (first | rfl | omega | (simp; done) | (simp; omega)))) | assumption | refine Own.alloc ?_ _ | refine Own.drew ?_ | (refine Own.far ?_ ?_ _; rotate_left; (focus (first | rfl | omega | (simp; done) | (simp; omega))))))
 go_enter Tryz.func28, Tryz.ntmps28
 go_wp2_with fail
 generalize (((w.alloc (.cells #[.bool s1, .slice A1 n1 c1, .bool t1, .slice E1 m1 d1] 37)).alloc (.cells #[.bool s2, .slice A2 n2 c2, .bool t2, .slice E2 m2 d2] 37)).alloc (.cells #[.bool false, .slice none 0 0, .bool false, .slice none 0 0] 37)) = W0 at *
 have q := ratio_Right (R1.out.1.below hW)
 rw [R1.out.2] at q
 refine Calls.mono q ?_
 clear q
 rintro e u1 ⟨rfl, hb⟩
 have hW1 := hW.trans (hb.mono hW.size)
 replace o2 := o2.below hb
 replace o3 := o3.below hb
 replace o4 := o4.below hb
 have o3c := o3.cell
 clear hb hW
 go_wp2_with fail
 have q := ratio_Right (R2.out.1.below hW1)
 rw [R2.out.2] at q
 refine Calls.mono q ?_
 clear q
 rintro e u2 ⟨rfl, hb⟩
 have hWW := hW1.trans (hb.mono hW1.size)
 have p2 := o2.below hb
 have p3 := o3.below hb
 have p4 := o4.below hb
 have p4z := p4.lt
 have X1 := Lib.hid (G1.out.below hWW)
 have X2 := Lib.hid (G2.out.below hWW)
 have X3 := Lib.hid (G3.out.below hWW)
 have X4 := Lib.hid (G4.out.below hWW)
 have hzW := hWW.size
 clear hb hW1 o2 o3 o4 o3c
 go_wp2
 refine region_gen (T := []) [.make 4 [] (prodB _ ad), .make 9 [] (prodB _ cb), .make 10 [] (ownB [] #[.bool false, .slice none 0 0, .bool false] (fun p => .pointer (some ⟨p, 0, none⟩))), .make 11 [] (ownB [] #[.bool false, .slice none 0 0, .bool false] (fun p => .pointer (some ⟨p, 0, none⟩)))] 12 0 40 (fun _ _ => True) (fun _ _ _ _ _ => trivial) trivial (by kernel_rfl) (by kernel_rfl) (by rfl) ?_
 unfold genWalk
 apply Exists.intro
 apply And.intro
 ·apply Piece.mk
  ·intro f v hv hr hne
   simp only [List.take_succ_cons, List.take_zero, List.drop_zero, Nat.reduceSub]
   have d2 := fun y => (p2.later (v := v) (T := []) (by simp) y).cell
   have d3 := fun y => (p3.later (v := v) (T := []) (by simp) y).cell
   repeat (go_big_quiet_step (fail))
   refine wpQuiet_nil ?_
   exact rfl
  ·intro f; kernel_rfl
  ·intro f f' hf; kernel_rfl
 simp only [List.take_succ_cons, List.take_zero, List.drop_succ_cons, List.drop_zero, Nat.reduceAdd, oneOp]
 refine ⟨fun f => ⟨rfl, fun u hu _ => ?_⟩, ?_⟩
 ·refine make_call (f := 73) (args := #[.agg #[.bool s1, .slice A1 n1 c1], .agg #[.bool t2, .slice E2 m2 d2]]) (by (try simp only [Act.put, List.setIfInBounds_toArray, List.set_cons_zero, List.set_cons_succ]); (try simp only [newB_val, numB_val, ownB_val, valB_val, prodB_val, ratB_val]); go_simp) ?_
  have q := ratio_times (w := u) (NumAt.keeps X1.out hu) (NumAt.keeps X4.out hu)
  rw [HP.out.1] at q
  refine q.mono ?_
  rintro e wx ⟨⟨b, rfl, q1, q2, q3⟩, hbx⟩
  exact ⟨(b, 0), rfl, q2, q3, hbx, by simp, q1⟩
 unfold genWalk
 apply Exists.intro
 apply And.intro
 ·apply Piece.mk
  ·intro f v hv hr hne
   simp only [List.take_succ_cons, List.take_zero, List.drop_succ_cons, List.drop_zero, Nat.reduceSub]
   (try simp only [Act.put, List.setIfInBounds_toArray, List.set_cons_zero, List.set_cons_succ])
   (try simp only [prodB_val])
   have d2 := fun y => (p2.later (v := v) (T := []) (by simp) y).cell
   have d3 := fun y => (p3.later (v := v) (T := []) (by simp) y).cell
   repeat (go_big_quiet_step (fail))
   refine wpQuiet_nil ?_
   exact rfl
  ·intro f; kernel_rfl
  ·intro f f' hf; simp
 simp only [List.take_succ_cons, List.take_zero, List.drop_succ_cons, List.drop_zero, Nat.reduceAdd, oneOp]
 refine ⟨fun f => ⟨rfl, fun u hu _ => ?_⟩, ?_⟩
 ·refine make_call (f := 73) (args := #[.agg #[.bool s2, .slice A2 n2 c2], .agg #[.bool t1, .slice E1 m1 d1]]) (by (try simp only [Act.put, List.setIfInBounds_toArray, List.set_cons_zero, List.set_cons_succ]); (try simp only [newB_val, numB_val, ownB_val, valB_val, prodB_val, ratB_val]); go_simp) ?_
  have q := ratio_times (w := u) (NumAt.keeps X3.out hu) (NumAt.keeps X2.out hu)
  rw [HP.out.2.1] at q
  refine q.mono ?_
  rintro e wx ⟨⟨b, rfl, q1, q2, q3⟩, hbx⟩
  exact ⟨(b, 0), rfl, q2, q3, hbx, by simp, q1⟩
 unfold genWalk
 apply Exists.intro
 apply And.intro
 ·apply Piece.mk
  ·intro f v hv hr hne
   simp only [List.take_zero, List.drop_succ_cons, List.drop_zero, Nat.reduceSub]
   (try simp only [Act.put, List.setIfInBounds_toArray, List.set_cons_zero, List.set_cons_succ])
   (try simp only [prodB_val])
   repeat (go_big_quiet_step (fail))
   refine wpQuiet_nil ?_
   exact rfl
  ·intro f; kernel_rfl
  ·intro f f' hf; simp
 simp only [List.take_succ_cons, List.take_zero, List.drop_succ_cons, List.drop_zero, Nat.reduceAdd, oneOp]
 refine ⟨fun f => ⟨rfl, fun u hu _ => ?_⟩, ?_⟩
 ·refine make_own (e := 113) (by (try simp only [Act.put, List.setIfInBounds_toArray, List.set_cons_zero, List.set_cons_succ]); (try simp only [newB_val, numB_val, ownB_val, valB_val, prodB_val, ratB_val]); go_simp) (by simp)
 unfold genWalk
 apply Exists.intro
 apply And.intro
 ·apply Piece.mk
  ·intro f v hv hr hne
   simp only [List.take_zero, List.drop_succ_cons, List.drop_zero, Nat.reduceSub]
   (try simp only [Act.put, List.setIfInBounds_toArray, List.set_cons_zero, List.set_cons_succ])
   (try simp only [ownB_val])
   repeat (go_big_quiet_step (fail))
   refine wpQuiet_nil ?_
   exact rfl
  ·intro f; kernel_rfl
  ·intro f f' hf; simp
 simp only [List.take_succ_cons, List.take_zero, List.drop_succ_cons, List.drop_zero, Nat.reduceAdd, oneOp]
 refine ⟨fun f => ⟨rfl, fun u hu _ => ?_⟩, ?_⟩
 ·refine make_own (e := 113) (by (try simp only [Act.put, List.setIfInBounds_toArray, List.set_cons_zero, List.set_cons_succ]); (try simp only [newB_val, numB_val, ownB_val, valB_val, prodB_val, ratB_val]); go_simp) (by simp)
 unfold genWalk
 apply Exists.intro
 apply And.intro
 ·apply Piece.mk
  ·intro f v hv hr hne
   simp only [List.take_zero, List.drop_succ_cons, List.drop_zero, Nat.reduceSub]
   (try simp only [Act.put, List.setIfInBounds_toArray, List.set_cons_zero, List.set_cons_succ])
   (try simp only [ownB_val])
   repeat (go_big_quiet_step (fail))
   refine wpQuiet_nil ?_
   exact rfl
  ·intro f; kernel_rfl
  ·intro f f' hf; simp
 intro f u' hup hph hmade hdist
 obtain ⟨⟨_, oN⟩, loN, hiN⟩ := hmade 4 (by omega) rfl
 obtain ⟨⟨_, oM⟩, loM, hiM⟩ := hmade 9 (by omega) rfl
 obtain ⟨⟨_, q10⟩, lo10, hi10⟩ := hmade 10 (by omega) rfl
 obtain ⟨⟨_, q11⟩, lo11, hi11⟩ := hmade 11 (by omega) rfl
 have e1 := hdist 4 10 (by omega) (by omega) rfl rfl (by omega)
 have e2 := hdist 4 11 (by omega) (by omega) rfl rfl (by omega)
 have e3 := hdist 9 10 (by omega) (by omega) rfl rfl (by omega)
 have e4 := hdist 9 11 (by omega) (by omega) rfl rfl (by omega)
 have e5 := hdist 10 11 (by omega) (by omega) rfl rfl (by omega)
 replace oN : NumO u' (f 4).1 ad := oN
 replace oM : NumO u' (f 9).1 cb := oM
 replace q10 : Own u' (f 10).1 #[.bool false, .slice none 0 0, .bool false] := q10
 replace q11 : Own u' (f 11).1 #[.bool false, .slice none 0 0, .bool false] := q11
 clear hmade hdist hph
 simp only
 (try simp only [Act.put, List.setIfInBounds_toArray, List.set_cons_zero, List.set_cons_succ])
 (try simp only [newB_val, numB_val, ownB_val, valB_val, prodB_val, ratB_val])
 generalize (f 4).1 = b1 at *
 generalize (f 9).1 = b2 at *
 generalize (f 10).1 = b10 at *
 generalize (f 11).1 = b11 at *
 clear f
 obtain ⟨A7, n7, c7, hs7⟩ := slN_form ad b1
 obtain ⟨A8, n8, c8, hs8⟩ := slN_form cb b2
 simp only [prodV]
 rw [hs7, hs8, HF.out.1, HF.out.2.1]
 have HSL := Lib.hid (And.intro hs7 hs8)
 clear hs7 hs8
 have hwu : Below w.heap.size w u' := Upd.below hWW hup (by simp)
 replace p2 := p2.upd hup (by simp)
 replace p3 := p3.upd hup (by simp)
 replace p4 := p4.upd hup (by simp)
 have hkT := Upd.keeps (Keeps.refl _ _) hup
 have p2z := p2.lt
 have p3z := p3.lt
 have q10c := q10.cell
 have q10f := q10.thaw
 clear hup
 refine effc_mem (by rfl) (fun K hK => ?_)
 go_simp
 refine hK _ _ ((((((hkT).new (p := ⟨b10, 0, none⟩) lo10 (.bool (sgnN ad)))).new (p := ⟨b10, 1, none⟩) lo10 (.slice A7 n7 c7))).new (p := ⟨b10, 2, none⟩) lo10 (.bool true)) (fun u3 hu3 => ?_)
 clear hK K
 have hs3 := hu3.size
 simp [World.setCell] at hs3
 have hwu1 := (((hwu.setCell (p := ⟨b10, 0, none⟩) (by simp; omega) (.bool (sgnN ad))).setCell (p := ⟨b10, 1, none⟩) (by simp; omega) (.slice A7 n7 c7)).setCell (p := ⟨b10, 2, none⟩) (by simp; omega) (.bool true)).trans (hu3.mono (by simp [World.setCell]; exact hwu.size))
 have r10 := (((q10.set 0 (.bool (sgnN ad))).set 1 (.slice A7 n7 c7)).set 2 (.bool true)).below hu3
 have r11 := ((((q11).far (p := ⟨b10, 0, none⟩) (by simp; omega) (.bool (sgnN ad))).far (p := ⟨b10, 1, none⟩) (by simp; omega) (.slice A7 n7 c7)).far (p := ⟨b10, 2, none⟩) (by simp; omega) (.bool true)).below hu3
 have r2 := ((((p2).far (p := ⟨b10, 0, none⟩) (by simp; omega) (.bool (sgnN ad))).far (p := ⟨b10, 1, none⟩) (by simp; omega) (.slice A7 n7 c7)).far (p := ⟨b10, 2, none⟩) (by simp; omega) (.bool true)).below hu3
 have r3 := ((((p3).far (p := ⟨b10, 0, none⟩) (by simp; omega) (.bool (sgnN ad))).far (p := ⟨b10, 1, none⟩) (by simp; omega) (.slice A7 n7 c7)).far (p := ⟨b10, 2, none⟩) (by simp; omega) (.bool true)).below hu3
 have r4 := ((((p4).far (p := ⟨b10, 0, none⟩) (by simp; omega) (.bool (sgnN ad))).far (p := ⟨b10, 1, none⟩) (by simp; omega) (.slice A7 n7 c7)).far (p := ⟨b10, 2, none⟩) (by simp; omega) (.bool true)).below hu3
 have oN1 := NumO.below ((((oN).far (p := ⟨b10, 0, none⟩) (by simp; omega) (.bool (sgnN ad))).far (p := ⟨b10, 1, none⟩) (by simp; omega) (.slice A7 n7 c7)).far (p := ⟨b10, 2, none⟩) (by simp; omega) (.bool true)) hu3
 have oM1 := NumO.below ((((oM).far (p := ⟨b10, 0, none⟩) (by simp; omega) (.bool (sgnN ad))).far (p := ⟨b10, 1, none⟩) (by simp; omega) (.slice A7 n7 c7)).far (p := ⟨b10, 2, none⟩) (by simp; omega) (.bool true)) hu3
 have hk1 := ((((((hkT).new (p := ⟨b10, 0, none⟩) lo10 (.bool (sgnN ad)))).new (p := ⟨b10, 1, none⟩) lo10 (.slice A7 n7 c7))).new (p := ⟨b10, 2, none⟩) lo10 (.bool true)).later hu3
 clear q10 q11 q10c q10f p2 p3 p4 oN oM hkT hu3
 have r11c := r11.cell
 have r11f := r11.thaw
 refine effc_mem (by rfl) (fun K hK => ?_)
 go_simp
 refine hK _ _ ((((((hk1).new (p := ⟨b11, 0, none⟩) lo11 (.bool (sgnN cb)))).new (p := ⟨b11, 1, none⟩) lo11 (.slice A8 n8 c8))).new (p := ⟨b11, 2, none⟩) lo11 (.bool true)) (fun u4 hu4 => ?_)
 clear hK K
 have hs4 := hu4.size
 simp [World.setCell] at hs4
 have hwu2 := (((hwu1.setCell (p := ⟨b11, 0, none⟩) (by simp; omega) (.bool (sgnN cb))).setCell (p := ⟨b11, 1, none⟩) (by simp; omega) (.slice A8 n8 c8)).setCell (p := ⟨b11, 2, none⟩) (by simp; omega) (.bool true)).trans (hu4.mono (by simp [World.setCell]; exact hwu1.size))
 have s10 := ((((r10).far (p := ⟨b11, 0, none⟩) (by simp; omega) (.bool (sgnN cb))).far (p := ⟨b11, 1, none⟩) (by simp; omega) (.slice A8 n8 c8)).far (p := ⟨b11, 2, none⟩) (by simp; omega) (.bool true)).below hu4
 have s11 := (((r11.set 0 (.bool (sgnN cb))).set 1 (.slice A8 n8 c8)).set 2 (.bool true)).below hu4
 have p2 := ((((r2).far (p := ⟨b11, 0, none⟩) (by simp; omega) (.bool (sgnN cb))).far (p := ⟨b11, 1, none⟩) (by simp; omega) (.slice A8 n8 c8)).far (p := ⟨b11, 2, none⟩) (by simp; omega) (.bool true)).below hu4
 have p3 := ((((r3).far (p := ⟨b11, 0, none⟩) (by simp; omega) (.bool (sgnN cb))).far (p := ⟨b11, 1, none⟩) (by simp; omega) (.slice A8 n8 c8)).far (p := ⟨b11, 2, none⟩) (by simp; omega) (.bool true)).below hu4
 have p4 := ((((r4).far (p := ⟨b11, 0, none⟩) (by simp; omega) (.bool (sgnN cb))).far (p := ⟨b11, 1, none⟩) (by simp; omega) (.slice A8 n8 c8)).far (p := ⟨b11, 2, none⟩) (by simp; omega) (.bool true)).below hu4
 have oN := NumO.below ((((oN1).far (p := ⟨b11, 0, none⟩) (by simp; omega) (.bool (sgnN cb))).far (p := ⟨b11, 1, none⟩) (by simp; omega) (.slice A8 n8 c8)).far (p := ⟨b11, 2, none⟩) (by simp; omega) (.bool true)) hu4
 have oM := NumO.below ((((oM1).far (p := ⟨b11, 0, none⟩) (by simp; omega) (.bool (sgnN cb))).far (p := ⟨b11, 1, none⟩) (by simp; omega) (.slice A8 n8 c8)).far (p := ⟨b11, 2, none⟩) (by simp; omega) (.bool true)) hu4
 have hk2 := ((((((hk1).new (p := ⟨b11, 0, none⟩) lo11 (.bool (sgnN cb)))).new (p := ⟨b11, 1, none⟩) lo11 (.slice A8 n8 c8))).new (p := ⟨b11, 2, none⟩) lo11 (.bool true)).later hu4
 clear r10 r11 r11c r11f r2 r3 r4 oN1 oM1 hk1 hu4
 refine effc_nil ?_
 (try simp only [Act.put])
 have s10c := s10.cell
 have s11c := s11.cell
 go_wp2_with fail
 have w1 := oN.at_ HF.out.1
 have w2 := oM.at_ HF.out.2.1
 unfold numV at w1 w2
 rw [HSL.out.1] at w1
 rw [HSL.out.2] at w2
 have q := num_Add w1 w2
 rw [HP.out.2.2.2] at q
 refine Calls.mono q ?_
 clear q w1 w2
 rintro e u5 ⟨⟨b3, rfl, g1, g2, g3⟩, hb⟩
 rw [HF.out.2.2.1]
 have Y2 := NumAt.keeps X2.out hk2
 have Y4 := NumAt.keeps X4.out hk2
 have hk := (Below.refl u5.heap.size u5).alloc (Nat.le_refl _) (.cells #[.bool (sgnN sm), slN sm b3] 35)
 have hbk := hb.trans (hk.mono hb.size)
 have o8 : Own (u5.alloc (.cells #[.bool (sgnN sm), slN sm b3] 35)) u5.heap.size #[.bool (sgnN sm), slN sm b3] := Own.new rfl
 have hw5 := hwu2.trans (hbk.mono hwu2.size)
 have S1 := (NumO.below g3 hk).at_ HF.out.2.2.1
 replace Y2 := Lib.hid (NumAt.below Y2 hbk)
 replace Y4 := Lib.hid (NumAt.below Y4 hbk)
 have zz4 : w.heap.size + 1 + 1 < u5.heap.size := Nat.lt_of_lt_of_le p4.lt hb.size
 replace p2 := p2.below hbk
 replace p3 := p3.below hbk
 replace p4 := p4.below hbk
 replace s10 := s10.below hbk
 replace s11 := s11.below hbk
 have hsz5 : (u5.alloc (.cells #[.bool (sgnN sm), slN sm b3] 35)).heap.size = u5.heap.size + 1 := by simp
 obtain ⟨A5, n5, c5, hs5⟩ := slN_form sm b3
 unfold numV at S1
 simp only [numV]
 rw [hs5] at o8 S1 hw5 p2 p3 p4 s10 s11 Y2 Y4 hsz5 ⊢
 have S := Lib.hid S1
 clear g1 g2 g3 hb hk hbk hs5 S1 s10c s11c hk2 X1 X2 X3 X4 oN oM
 go_wp2
 generalize (u5.alloc (.cells #[.bool (sgnN sm), .slice A5 n5 c5] 35)) = u6 at *
 have hz6 := hw5.size
 have hTb : ∀ b, b ∈ [w.heap.size + 1 + 1] → b < u6.heap.size := fun b hm => by
  have h1 := List.mem_singleton.1 hm
  omega
 have hTn : ∀ b ∈ [w.heap.size + 1 + 1], ∃ cs, Own u6 b cs ∧ noU cs := fun b hm => by
  have h1 := List.mem_singleton.1 hm
  subst h1
  exact ⟨_, p4, noU_rat⟩
 have hwT : ∀ u, Upd [w.heap.size + 1 + 1] u6 u → Below w.heap.size w u := fun u hu => Upd.below hw5 hu (by simp; omega)
 have hb10 : w.heap.size + 1 + 1 < b10 := by omega
 have hb11 : w.heap.size + 1 + 1 < b11 := by omega
 refine region_gen (T := [w.heap.size + 1 + 1]) [.make 15 [] (prodB _ bd), .make 16 [15] (ratB _ w.heap.size z y), .need 17 [16]] 19 0 60 (fun _ u => Own u (w.heap.size + 1 + 1) #[.bool false, .slice none 0 0, .bool false, .slice none 0 0]) (fun _ _ _ h k => h.below k) p4 (by kernel_rfl) (by kernel_rfl) (by rfl) ?_
 unfold genWalk
 apply Exists.intro
 apply And.intro
 ·apply Piece.mk
  ·intro f v hv hr hne
   simp only [List.take_succ_cons, List.take_zero, List.drop_zero, Nat.reduceSub]
   have d2 := fun y => (p2.later (v := v) (T := [w.heap.size + 1 + 1]) (by simp; omega) y).cell
   have d3 := fun y => (p3.later (v := v) (T := [w.heap.size + 1 + 1]) (by simp) y).cell
   have d8 := fun y => (o8.later (v := v) (T := [w.heap.size + 1 + 1]) (by simp; omega) y).cell
   have d10 := fun y => (s10.later (v := v) (T := [w.heap.size + 1 + 1]) (by simp; omega) y).cell
   have d11 := fun y => (s11.later (v := v) (T := [w.heap.size + 1 + 1]) (by simp; omega) y).cell
   repeat (go_big_quiet_step (fail))
   refine wpQuiet_nil ?_
   exact rfl
  ·intro f; kernel_rfl
  ·intro f f' hf; kernel_rfl
 simp only [List.take_succ_cons, List.take_zero, List.drop_succ_cons, List.drop_zero, Nat.reduceAdd, oneOp]
 refine ⟨fun f => ⟨rfl, fun u hu _ => ?_⟩, ?_⟩
 ·refine make_call (f := 73) (args := #[.agg #[.bool t1, .slice E1 m1 d1], .agg #[.bool t2, .slice E2 m2 d2]]) (by (try simp only [Act.put, List.setIfInBounds_toArray, List.set_cons_zero, List.set_cons_succ]); (try simp only [newB_val, numB_val, ownB_val, valB_val, prodB_val, ratB_val]); go_simp) ?_
  have q := ratio_times (w := u) (NumAt.keepU Y2.out hu hTn) (NumAt.keepU Y4.out hu hTn)
  rw [HP.out.2.2.1] at q
  refine q.mono ?_
  rintro e wx ⟨⟨b, rfl, q1, q2, q3⟩, hbx⟩
  exact ⟨(b, 0), rfl, q2, q3, hbx, fun hm => absurd (hTb b hm) (by have := hu.1; omega), q1⟩
 unfold genWalk
 apply Exists.intro
 apply And.intro
 ·apply Piece.mk
  ·intro f v hv hr hne
   simp only [List.take_zero, List.drop_succ_cons, List.drop_zero, Nat.reduceSub]
   (try simp only [Act.put, List.setIfInBounds_toArray, List.set_cons_zero, List.set_cons_succ])
   (try simp only [prodB_val])
   repeat (go_big_quiet_step (fail))
   refine wpQuiet_nil ?_
   exact rfl
  ·intro f; kernel_rfl
  ·intro f f' hf; simp
 simp only [List.take_succ_cons, List.take_zero, List.drop_succ_cons, List.drop_zero, Nat.reduceAdd, oneOp]
 refine ⟨fun f => ⟨rfl, fun u hu hm => ?_⟩, ?_⟩
 ·refine make_call (f := 75) (args := #[.agg #[.bool (sgnN sm), .slice A5 n5 c5, .bool true], prodV bd (f 15).1]) (by (try simp only [Act.put, List.setIfInBounds_toArray, List.set_cons_zero, List.set_cons_succ]); (try simp only [newB_val, numB_val, ownB_val, valB_val, prodB_val, ratB_val]); go_simp) ?_
  have e2 : NumO u (f 15).1 bd := (show (prodB [w.heap.size + 1 + 1] bd).R (f 15) u from hm 15 (by simp)).2
  have q := ratio_over (w := u) ⟨_, _, _, _, rfl, NumAt.keepU S.out hu hTn⟩ (RetP.prod e2 HF.out.2.2.2) H.out.2.2
  rw [H.out.1, H.out.2.1] at q
  refine q.mono ?_
  rintro e wx ⟨⟨b1, b2, rfl, q1, q2, q3, q4, q5, q6⟩, hbx⟩
  have hus := hu.1
  exact ⟨(b1, b2), rfl, q3, q4, hbx, fun hm => absurd (hTb b1 hm) (by omega), fun hm => absurd (hTb b2 hm) (by omega), q1, q2, by show w.heap.size ≤ b2; omega, q6⟩
 unfold genWalk
 apply Exists.intro
 apply And.intro
 ·apply Piece.mk
  ·intro f v hv hr hne
   simp only [List.take_zero, List.drop_succ_cons, List.drop_zero, Nat.reduceSub]
   (try simp only [Act.put, List.setIfInBounds_toArray, List.set_cons_zero, List.set_cons_succ])
   (try simp only [ratB_val])
   repeat (go_big_quiet_step (fail))
   refine wpQuiet_nil ?_
   exact rfl
  ·intro f; kernel_rfl
  ·intro f f' hf; simp
 unfold genWalk
 apply Exists.intro
 apply And.intro
 ·apply Piece.mk
  ·intro f v hv hr hne
   simp only [List.take_succ_cons, List.take_zero, List.drop_succ_cons, List.drop_zero, Nat.reduceSub]
   (try simp only [Act.put, List.setIfInBounds_toArray, List.set_cons_zero, List.set_cons_succ])
   (try simp only [newB_val, numB_val, ownB_val, valB_val, prodB_val, ratB_val])
   repeat (go_big_quiet_step (fail))
   refine wpQuiet_nil ?_
   exact rfl
  ·intro f; kernel_rfl
  ·intro f f' hf; first | (simp; done) | (simp [hf 16 (by simp)])
 intro f u' hup hph hmade hdist
 obtain ⟨⟨hT1, hT2, oN, oM, loM, hiM⟩, loN, hiN⟩ := hmade 16 (by omega) rfl
 replace oN : NumO u' (f 16).1 z := oN
 replace oM : NumO u' (f 16).2 y := oM
 replace loM : w.heap.size ≤ (f 16).2 := loM
 replace hiM : (f 16).2 < u'.heap.size := hiM
 have hT2b : (f 16).2 ≠ w.heap.size + 1 + 1 := fun h => hT2 (by rw [h]; exact List.mem_singleton_self _)
 clear hT1 hT2
 have q4 : Own u' (w.heap.size + 1 + 1) #[.bool false, .slice none 0 0, .bool false, .slice none 0 0] := hph
 have hwu : Below w.heap.size w u' := hwT u' hup
 clear hmade hdist hph
 simp only
 (try simp only [Act.put, List.setIfInBounds_toArray, List.set_cons_zero, List.set_cons_succ])
 (try simp only [newB_val, numB_val, ownB_val, valB_val, prodB_val, ratB_val])
 simp only [ratV]
 generalize (f 16).1 = b1 at *
 generalize (f 16).2 = b2 at *
 generalize (f 15).1 = b8 at *
 clear f
 obtain ⟨A7, n7, c7, hs7⟩ := slN_form z b1
 obtain ⟨A8, n8, c8, hs8⟩ := slN_form y b2
 rw [hs7, hs8]
 have HSL := Lib.hid (And.intro hs7 hs8)
 clear hs7 hs8
 have q4c := q4.cell
 have q4f := q4.thaw
 have q4z := q4.lt
 have hkT := Upd.keeps (Keeps.refl _ _) hup
 refine effc_mem (by rfl) (fun K hK => ?_)
 go_simp
 refine hK _ _ (((((hkT).set (p := ⟨w.heap.size + 1 + 1, 0, none⟩) (by simp) (.bool (sgnN z))).set (p := ⟨w.heap.size + 1 + 1, 1, none⟩) (by simp) (.slice A7 n7 c7)).set (p := ⟨w.heap.size + 1 + 1, 2, none⟩) (by simp) (.bool (sgnN y))).set (p := ⟨w.heap.size + 1 + 1, 3, none⟩) (by simp) (.slice A8 n8 c8)) (fun u3 hu3 => ?_)
 clear hK K
 have hs3 := hu3.size
 simp [World.setCell] at hs3
 have hwu1 := ((((hwu.setCell (p := ⟨w.heap.size + 1 + 1, 0, none⟩) (by simp; omega) (.bool (sgnN z))).setCell (p := ⟨w.heap.size + 1 + 1, 1, none⟩) (by simp; omega) (.slice A7 n7 c7)).setCell (p := ⟨w.heap.size + 1 + 1, 2, none⟩) (by simp; omega) (.bool (sgnN y))).setCell (p := ⟨w.heap.size + 1 + 1, 3, none⟩) (by simp; omega) (.slice A8 n8 c8)).trans (hu3.mono (by simp [World.setCell]; exact hwu.size))
 have q5 := ((((q4.set 0 (.bool (sgnN z))).set 1 (.slice A7 n7 c7)).set 2 (.bool (sgnN y))).set 3 (.slice A8 n8 c8)).below hu3
 have oN1 := NumO.below (((((oN).far (p := ⟨w.heap.size + 1 + 1, 0, none⟩) (by simp; omega) (.bool (sgnN z))).far (p := ⟨w.heap.size + 1 + 1, 1, none⟩) (by simp; omega) (.slice A7 n7 c7)).far (p := ⟨w.heap.size + 1 + 1, 2, none⟩) (by simp; omega) (.bool (sgnN y))).far (p := ⟨w.heap.size + 1 + 1, 3, none⟩) (by simp; omega) (.slice A8 n8 c8)) hu3
 have oM1 := NumO.below (((((oM).far (p := ⟨w.heap.size + 1 + 1, 0, none⟩) (by simp; omega) (.bool (sgnN z))).far (p := ⟨w.heap.size + 1 + 1, 1, none⟩) (by simp; omega) (.slice A7 n7 c7)).far (p := ⟨w.heap.size + 1 + 1, 2, none⟩) (by simp; omega) (.bool (sgnN y))).far (p := ⟨w.heap.size + 1 + 1, 3, none⟩) (by simp; omega) (.slice A8 n8 c8)) hu3
 have hk1 := (((((hkT).set (p := ⟨w.heap.size + 1 + 1, 0, none⟩) (by simp) (.bool (sgnN z))).set (p := ⟨w.heap.size + 1 + 1, 1, none⟩) (by simp) (.slice A7 n7 c7)).set (p := ⟨w.heap.size + 1 + 1, 2, none⟩) (by simp) (.bool (sgnN y))).set (p := ⟨w.heap.size + 1 + 1, 3, none⟩) (by simp) (.slice A8 n8 c8)).later hu3
 clear q4 q4c q4f q4z oN oM hu3
 refine effc_mem (by rfl) (fun K hK => ?_)
 go_simp
 refine hK _ _ hk1 (fun u4 hu4 => ?_)
 clear hK K
 have q6 := q5.below hu4
 have oN2 := oN1.below hu4
 have oM2 := oM1.below hu4
 have hwu2 := hwu1.trans (hu4.mono hwu1.size)
 have hs4 := hu4.size
 refine effc_nil ?_
 (try simp only [Act.put, List.setIfInBounds_toArray, List.set_cons_zero, List.set_cons_succ])
 go_wp2
 refine retC (b := w.heap.size + 1 + 1) (v := .tuple #[.agg #[.bool (sgnN z), .slice A7 n7 c7, .bool (sgnN y), .slice A8 n8 c8], .bool true]) q6 (fun w' hw' => by simp [results, Tryz.results28, go_sem, hw']) rfl ⟨⟨b1, b2, by rw [ratV, HSL.out.1, HSL.out.2], oN2, oM2, by omega, by omega, by omega, by omega⟩, hwu2⟩
end Go.Proofs.YtflgngjocgiojaaGreat
