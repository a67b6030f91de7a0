/- Ratio: Int. -/
import Derived.Test.YtflgngjocgiojaaGreatRatJ
namespace Go.Proofs.YtflgngjocgiojaaGreat
open Go.RowKit

theorem goodQ_neg (p q : Int) : goodQ (-p) q = goodQ p q := by unfold goodQ; rw [Int.natAbs_neg]
set_option maxRecDepth 100000 in
set_option maxHeartbeats 2000000 in
theorem ratio_Sub {w : World} {v1 v2 : Value} {a b c d : Int} (h1 : RatAt w v1 a b) (h2 : RatAt w v2 c d) (k1 : goodQ a b = true) (k2 : goodQ c d = true) (f1 : fits (a * d) = true) (f2 : fits (-c * b) = true) (f3 : fits (a * d + -c * b) = true) (f4 : fits (b * d) = true) :
  Calls Tryz.prog 59 #[v1, v2] w (RetR w (ofN (a * d + -c * b) (b * d)) (ofD (a * d + -c * b) (b * d))) := by
 obtain ⟨z, hz⟩ : ∃ z, ofN (a * d + -c * b) (b * d) = z := ⟨_, rfl⟩
 obtain ⟨y, hy⟩ : ∃ z, ofD (a * d + -c * b) (b * d) = z := ⟨_, rfl⟩
 rw [hz, hy]
 obtain ⟨nc, hnc⟩ : ∃ z, -c = z := ⟨_, rfl⟩
 rw [hnc] at f2 f3 hz hy
 have k3 : goodQ nc d = true := by rw [← hnc, goodQ_neg]; exact k2
 have R1 := Lib.hid (And.intro h1 k1)
 have R2 := Lib.hid (And.intro h2 k2)
 have HF := Lib.hid (And.intro f1 (And.intro f2 (And.intro f3 f4)))
 have H := Lib.hid (And.intro hz (And.intro hy (And.intro hnc k3)))
 obtain ⟨s1, A1, n1, c1, t1, E1, m1, d1, rfl, g1, g2⟩ := h1
 obtain ⟨s2, A2, n2, c2, t2, E2, m2, d2, rfl, g3, g4⟩ := h2
 have G1 := Lib.hid g1
 have G2 := Lib.hid g2
 have G3 := Lib.hid g3
 have G4 := Lib.hid g4
 clear hz hy hnc f1 f2 f3 f4 k1 k2 k3 g1 g2 g3 g4
 have hW := ((((Below.refl w.heap.size w).alloc (Nat.le_refl _) (.cells #[.bool s1, .slice A1 n1 c1, .bool t1, .slice E1 m1 d1] 37)).alloc (by simp) (.cells #[.bool s2, .slice A2 n2 c2, .bool t2, .slice E2 m2 d2] 37)).alloc (by simp; omega) (.cells #[.bool false, .slice none 0 0, .bool false, .slice none 0 0] 37))
 have o2 : Own (((w.alloc (.cells #[.bool s1, .slice A1 n1 c1, .bool t1, .slice E1 m1 d1] 37)).alloc (.cells #[.bool s2, .slice A2 n2 c2, .bool t2, .slice E2 m2 d2] 37)).alloc (.cells #[.bool false, .slice none 0 0, .bool false, .slice none 0 0] 37)) w.heap.size #[.bool s1, .slice A1 n1 c1, .bool t1, .slice E1 m1 d1] := (by repeat' (first | ((refine Own.new ?_); (focus (first | rfl | omega | (simp; done) | (simp; omega)))) | assumption | refine Own.alloc ?_ _ | refine Own.drew ?_ | (refine Own.far ?_ ?_ _; rotate_left; (focus (first | rfl | omega | (simp; done) | (simp; omega))))))
 have o3 : Own (((w.alloc (.cells #[.bool s1, .slice A1 n1 c1, .bool t1, .slice E1 m1 d1] 37)).alloc (.cells #[.bool s2, .slice A2 n2 c2, .bool t2, .slice E2 m2 d2] 37)).alloc (.cells #[.bool false, .slice none 0 0, .bool false, .slice none 0 0] 37)) (w.heap.size + 1) #[.bool s2, .slice A2 n2 c2, .bool t2, .slice E2 m2 d2] := (by repeat' (first | ((refine Own.new ?_); (focus (first | rfl | omega | (simp; done) | (simp; omega)))) | assumption | refine Own.alloc ?_ _ | refine Own.drew ?_ | (refine Own.far ?_ ?_ _; rotate_left; (focus (first | rfl | omega | (simp; done) | (simp; omega))))))
 have o4 : Own (((w.alloc (.cells #[.bool s1, .slice A1 n1 c1, .bool t1, .slice E1 m1 d1] 37)).alloc (.cells #[.bool s2, .slice A2 n2 c2, .bool t2, .slice E2 m2 d2] 37)).alloc (.cells #[.bool false, .slice none 0 0, .bool false, .slice none 0 0] 37)) (w.heap.size + 1 + 1) #[.bool false, .slice none 0 0, .bool false, .slice none 0 0] := (by repeat' (first | ((refine Own.new ?_); (focus (first | rfl | omega | (simp; done) | (simp; omega)))) | assumption | refine Own.alloc ?_ _ | refine Own.drew ?_ | (refine Own.far ?_ ?_ _; rotate_left; (focus (first | rfl | omega | (simp; done) | (simp; omega))))))
 go_enter Tryz.func59, Tryz.ntmps59
 go_wp2_with fail
 generalize (((w.alloc (.cells #[.bool s1, .slice A1 n1 c1, .bool t1, .slice E1 m1 d1] 37)).alloc (.cells #[.bool s2, .slice A2 n2 c2, .bool t2, .slice E2 m2 d2] 37)).alloc (.cells #[.bool false, .slice none 0 0, .bool false, .slice none 0 0] 37)) = W0 at *
 have q := ratio_Right (R1.out.1.below hW)
 rw [R1.out.2] at q
 refine Calls.mono q ?_
 clear q
 rintro e u1 ⟨rfl, hb⟩
 have hW1 := hW.trans (hb.mono hW.size)
 replace o2 := o2.below hb
 replace o3 := o3.below hb
 replace o4 := o4.below hb
 have o3c := o3.cell
 clear hb hW
 go_wp2_with fail
 have q := ratio_Right (R2.out.1.below hW1)
 rw [R2.out.2] at q
 refine Calls.mono q ?_
 clear q
 rintro e u2 ⟨rfl, hb⟩
 have hWW := hW1.trans (hb.mono hW1.size)
 have p2 := o2.below hb
 have p3 := o3.below hb
 have p4 := o4.below hb
 have p4z := p4.lt
 have X1 := Lib.hid (G1.out.below hWW)
 have X2 := Lib.hid (G2.out.below hWW)
 have X3 := Lib.hid (G3.out.below hWW)
 have X4 := Lib.hid (G4.out.below hWW)
 have hzW := hWW.size
 clear hb hW1 o2 o3 o4 o3c
 go_wp2
 have hTb : ∀ b, b ∈ [w.heap.size + 1 + 1] → b < u2.heap.size := fun b hm => by
  have h1 := List.mem_singleton.1 hm
  omega
 have hTn : ∀ b ∈ [w.heap.size + 1 + 1], ∃ cs, Own u2 b cs ∧ noU cs := fun b hm => by
  have h1 := List.mem_singleton.1 hm
  subst h1
  exact ⟨_, p4, noU_rat⟩
 have hwT : ∀ u, Upd [w.heap.size + 1 + 1] u2 u → Below w.heap.size w u := fun u hu => Upd.below hWW hu (by simp; omega)
 refine region_gen (T := [w.heap.size + 1 + 1]) [.make 3 [] (valB _ nc), .need 4 [], .need 6 [3], .make 7 [3] (ratB _ w.heap.size z y), .need 8 [7]] 10 0 40 (fun _ u => Own u (w.heap.size + 1 + 1) #[.bool false, .slice none 0 0, .bool false, .slice none 0 0]) (fun _ _ _ h k => h.below k) p4 (by kernel_rfl) (by kernel_rfl) (by rfl) ?_
 unfold genWalk
 apply Exists.intro
 apply And.intro
 ·apply Piece.mk
  ·intro f v hv hr hne
   simp only [List.take_succ_cons, List.take_zero, List.drop_zero, Nat.reduceSub]
   have d2 := fun y => (p2.later (v := v) (T := [w.heap.size + 1 + 1]) (by simp; omega) y).cell
   have d3 := fun y => (p3.later (v := v) (T := [w.heap.size + 1 + 1]) (by simp) y).cell
   repeat (go_big_quiet_step (fail))
   refine wpQuiet_nil ?_
   exact rfl
  ·intro f; kernel_rfl
  ·intro f f' hf; kernel_rfl
 simp only [List.take_succ_cons, List.take_zero, List.drop_succ_cons, List.drop_zero, Nat.reduceAdd, oneOp]
 refine ⟨fun f => ⟨rfl, fun u hu _ => ?_⟩, ?_⟩
 ·refine make_call (f := 64) (args := #[.agg #[.bool s2, .slice A2 n2 c2]]) (by (try simp only [Act.put, List.setIfInBounds_toArray, List.set_cons_zero, List.set_cons_succ]); go_simp) ?_
  have q := ratio_minus (w := u) (NumAt.keepU X3.out hu hTn)
  rw [H.out.2.2.1] at q
  refine q.mono ?_
  rintro e wx ⟨⟨b, rfl, q1, q2, q3⟩, hbx⟩
  exact ⟨(b, 0), rfl, q2, q3, hbx, fun hm => absurd (hTb b hm) (by have := hu.1; omega), q1⟩
 unfold genWalk
 apply Exists.intro
 apply And.intro
 ·apply Piece.mk
  ·intro f v hv hr hne
   simp only [List.take_zero, List.drop_succ_cons, List.drop_zero, Nat.reduceSub]
   (try simp only [Act.put, List.setIfInBounds_toArray, List.set_cons_zero, List.set_cons_succ])
   (try simp only [valB_val, numV])
   repeat (go_big_quiet_step (fail))
   refine wpQuiet_nil ?_
   exact rfl
  ·intro f; kernel_rfl
  ·intro f f' hf; simp
 unfold genWalk
 apply Exists.intro
 apply And.intro
 ·apply Piece.mk
  ·intro f v hv hr hne
   simp only [List.take_succ_cons, List.take_zero, List.drop_succ_cons, List.drop_zero, Nat.reduceSub]
   (try simp only [Act.put, List.setIfInBounds_toArray, List.set_cons_zero, List.set_cons_succ])
   (try simp only [newB_val, numB_val, ownB_val, valB_val, prodB_val, ratB_val, numV])
   have d2 := fun y => (p2.later (v := v) (T := [w.heap.size + 1 + 1]) (by simp; omega) y).cell
   have d3 := fun y => (p3.later (v := v) (T := [w.heap.size + 1 + 1]) (by simp) y).cell
   repeat (go_big_quiet_step (fail))
   refine wpQuiet_nil ?_
   exact rfl
  ·intro f; kernel_rfl
  ·intro f f' hf; simp
 unfold genWalk
 apply Exists.intro
 apply And.intro
 ·apply Piece.mk
  ·intro f v hv hr hne
   simp only [List.take_succ_cons, List.take_zero, List.drop_succ_cons, List.drop_zero, Nat.reduceSub]
   (try simp only [Act.put, List.setIfInBounds_toArray, List.set_cons_zero, List.set_cons_succ])
   (try simp only [newB_val, numB_val, ownB_val, valB_val, prodB_val, ratB_val, numV])
   repeat (go_big_quiet_step (fail))
   refine wpQuiet_nil ?_
   exact rfl
  ·intro f; kernel_rfl
  ·intro f f' hf; first | (simp; done) | (simp [hf 3 (by simp)])
 simp only [List.take_succ_cons, List.take_zero, List.drop_succ_cons, List.drop_zero, Nat.reduceAdd, oneOp]
 refine ⟨fun f => ⟨rfl, fun u hu hm => ?_⟩, ?_⟩
 ·refine make_call (f := 28) (args := #[.agg #[.bool s1, .slice A1 n1 c1, .bool t1, .slice E1 m1 d1], .agg #[.bool (sgnN nc), slN nc (f 3).1, .bool t2, .slice E2 m2 d2]]) (by (try simp only [Act.put, List.setIfInBounds_toArray, List.set_cons_zero, List.set_cons_succ]); (try simp only [newB_val, numB_val, ownB_val, valB_val, prodB_val, ratB_val, numV]); go_simp) ?_
  have e2 : NumO u (f 3).1 nc := (show (valB [w.heap.size + 1 + 1] nc).R (f 3) u from hm 3 (by simp)).2
  have e3 := e2.at_ (fits_le (b := c) (by rw [← H.out.2.2.1, Int.natAbs_neg]; exact Nat.le_refl _) (NumAt.fits X3.out))
  unfold numV at e3
  obtain ⟨A9, n9, c9, hs9⟩ := slN_form nc (f 3).1
  rw [hs9] at e3 ⊢
  have r1 : RatAt u (.agg #[.bool s1, .slice A1 n1 c1, .bool t1, .slice E1 m1 d1]) a b := ⟨_, _, _, _, _, _, _, _, rfl, NumAt.keepU X1.out hu hTn, NumAt.keepU X2.out hu hTn⟩
  have r2 : RatAt u (.agg #[.bool (sgnN nc), .slice A9 n9 c9, .bool t2, .slice E2 m2 d2]) nc d := ⟨_, _, _, _, _, _, _, _, rfl, e3, NumAt.keepU X4.out hu hTn⟩
  have q := ratio_Add (w := u) r1 r2 R1.out.2 H.out.2.2.2 HF.out.1 HF.out.2.1 HF.out.2.2.1 HF.out.2.2.2
  rw [H.out.1, H.out.2.1] at q
  refine q.mono ?_
  rintro e wx ⟨⟨b1, b2, rfl, q1, q2, q3, q4, q5, q6⟩, hbx⟩
  have hus := hu.1
  exact ⟨(b1, b2), rfl, q3, q4, hbx, fun hm => absurd (hTb b1 hm) (by omega), fun hm => absurd (hTb b2 hm) (by omega), q1, q2, by show w.heap.size ≤ b2; omega, q6⟩
 unfold genWalk
 apply Exists.intro
 apply And.intro
 ·apply Piece.mk
  ·intro f v hv hr hne
   simp only [List.take_zero, List.drop_succ_cons, List.drop_zero, Nat.reduceSub]
   (try simp only [Act.put, List.setIfInBounds_toArray, List.set_cons_zero, List.set_cons_succ])
   (try simp only [ratB_val])
   repeat (go_big_quiet_step (fail))
   refine wpQuiet_nil ?_
   exact rfl
  ·intro f; kernel_rfl
  ·intro f f' hf; simp
 unfold genWalk
 apply Exists.intro
 apply And.intro
 ·apply Piece.mk
  ·intro f v hv hr hne
   simp only [List.take_succ_cons, List.take_zero, List.drop_succ_cons, List.drop_zero, Nat.reduceSub]
   (try simp only [Act.put, List.setIfInBounds_toArray, List.set_cons_zero, List.set_cons_succ])
   (try simp only [newB_val, numB_val, ownB_val, valB_val, prodB_val, ratB_val, numV])
   repeat (go_big_quiet_step (fail))
   refine wpQuiet_nil ?_
   exact rfl
  ·intro f; kernel_rfl
  ·intro f f' hf; first | (simp; done) | (simp [hf 7 (by simp)])
 intro f u' hup hph hmade hdist
 obtain ⟨⟨hT1, hT2, oN, oM, loM, hiM⟩, loN, hiN⟩ := hmade 7 (by omega) rfl
 replace oN : NumO u' (f 7).1 z := oN
 replace oM : NumO u' (f 7).2 y := oM
 replace loM : w.heap.size ≤ (f 7).2 := loM
 replace hiM : (f 7).2 < u'.heap.size := hiM
 have hT2b : (f 7).2 ≠ w.heap.size + 1 + 1 := fun h => hT2 (by rw [h]; exact List.mem_singleton_self _)
 clear hT1 hT2
 have q4 : Own u' (w.heap.size + 1 + 1) #[.bool false, .slice none 0 0, .bool false, .slice none 0 0] := hph
 have hwu : Below w.heap.size w u' := hwT u' hup
 clear hmade hdist hph
 simp only
 (try simp only [Act.put, List.setIfInBounds_toArray, List.set_cons_zero, List.set_cons_succ])
 (try simp only [newB_val, numB_val, ownB_val, valB_val, prodB_val, ratB_val, numV])
 simp only [ratV]
 generalize (f 7).1 = b1 at *
 generalize (f 7).2 = b2 at *
 generalize (f 3).1 = b8 at *
 clear f
 obtain ⟨A7, n7, c7, hs7⟩ := slN_form z b1
 obtain ⟨A8, n8, c8, hs8⟩ := slN_form y b2
 rw [hs7, hs8]
 have HSL := Lib.hid (And.intro hs7 hs8)
 clear hs7 hs8
 have q4c := q4.cell
 have q4f := q4.thaw
 have q4z := q4.lt
 have hkT := Upd.keeps (Keeps.refl _ _) hup
 refine effc_mem (by rfl) (fun K hK => ?_)
 go_simp
 refine hK _ _ (((((hkT).set (p := ⟨w.heap.size + 1 + 1, 0, none⟩) (by simp) (.bool (sgnN z))).set (p := ⟨w.heap.size + 1 + 1, 1, none⟩) (by simp) (.slice A7 n7 c7)).set (p := ⟨w.heap.size + 1 + 1, 2, none⟩) (by simp) (.bool (sgnN y))).set (p := ⟨w.heap.size + 1 + 1, 3, none⟩) (by simp) (.slice A8 n8 c8)) (fun u3 hu3 => ?_)
 clear hK K
 have hs3 := hu3.size
 simp [World.setCell] at hs3
 have hwu1 := ((((hwu.setCell (p := ⟨w.heap.size + 1 + 1, 0, none⟩) (by simp; omega) (.bool (sgnN z))).setCell (p := ⟨w.heap.size + 1 + 1, 1, none⟩) (by simp; omega) (.slice A7 n7 c7)).setCell (p := ⟨w.heap.size + 1 + 1, 2, none⟩) (by simp; omega) (.bool (sgnN y))).setCell (p := ⟨w.heap.size + 1 + 1, 3, none⟩) (by simp; omega) (.slice A8 n8 c8)).trans (hu3.mono (by simp [World.setCell]; exact hwu.size))
 have q5 := ((((q4.set 0 (.bool (sgnN z))).set 1 (.slice A7 n7 c7)).set 2 (.bool (sgnN y))).set 3 (.slice A8 n8 c8)).below hu3
 have oN1 := NumO.below (((((oN).far (p := ⟨w.heap.size + 1 + 1, 0, none⟩) (by simp; omega) (.bool (sgnN z))).far (p := ⟨w.heap.size + 1 + 1, 1, none⟩) (by simp; omega) (.slice A7 n7 c7)).far (p := ⟨w.heap.size + 1 + 1, 2, none⟩) (by simp; omega) (.bool (sgnN y))).far (p := ⟨w.heap.size + 1 + 1, 3, none⟩) (by simp; omega) (.slice A8 n8 c8)) hu3
 have oM1 := NumO.below (((((oM).far (p := ⟨w.heap.size + 1 + 1, 0, none⟩) (by simp; omega) (.bool (sgnN z))).far (p := ⟨w.heap.size + 1 + 1, 1, none⟩) (by simp; omega) (.slice A7 n7 c7)).far (p := ⟨w.heap.size + 1 + 1, 2, none⟩) (by simp; omega) (.bool (sgnN y))).far (p := ⟨w.heap.size + 1 + 1, 3, none⟩) (by simp; omega) (.slice A8 n8 c8)) hu3
 have hk1 := (((((hkT).set (p := ⟨w.heap.size + 1 + 1, 0, none⟩) (by simp) (.bool (sgnN z))).set (p := ⟨w.heap.size + 1 + 1, 1, none⟩) (by simp) (.slice A7 n7 c7)).set (p := ⟨w.heap.size + 1 + 1, 2, none⟩) (by simp) (.bool (sgnN y))).set (p := ⟨w.heap.size + 1 + 1, 3, none⟩) (by simp) (.slice A8 n8 c8)).later hu3
 clear q4 q4c q4f q4z oN oM hu3
 refine effc_mem (by rfl) (fun K hK => ?_)
 go_simp
 refine hK _ _ hk1 (fun u4 hu4 => ?_)
 clear hK K
 have q6 := q5.below hu4
 have oN2 := oN1.below hu4
 have oM2 := oM1.below hu4
 have hwu2 := hwu1.trans (hu4.mono hwu1.size)
 have hs4 := hu4.size
 refine effc_nil ?_
 (try simp only [Act.put, List.setIfInBounds_toArray, List.set_cons_zero, List.set_cons_succ])
 go_wp2
 refine retC (b := w.heap.size + 1 + 1) (v := .tuple #[.agg #[.bool (sgnN z), .slice A7 n7 c7, .bool (sgnN y), .slice A8 n8 c8], .bool true]) q6 (fun w' hw' => by simp [results, Tryz.results59, go_sem, hw']) rfl ⟨⟨b1, b2, by rw [ratV, HSL.out.1, HSL.out.2], oN2, oM2, by omega, by omega, by omega, by omega⟩, hwu2⟩
end Go.Proofs.YtflgngjocgiojaaGreat
namespace Go.Proofs.YtflgngjocgiojaaGreat
open Go.RowKit

set_option maxRecDepth 100000 in
set_option maxHeartbeats 2000000 in
theorem ratio_Int {w : World} (n : Int) (h1 : -9223372036854775808 ≤ n) (h2 : n ≤ 9223372036854775807) : Calls Tryz.prog 49 #[.int .i64 n] w fun r w' => (∃ b1 b2, r = .returned (ratV n 1 b1 b2) ∧ NumO w' b1 n ∧ NumO w' b2 1 ∧ w.heap.size ≤ b1 ∧ b1 < w'.heap.size ∧ w.heap.size ≤ b2 ∧ b2 < w'.heap.size) ∧ Below w.heap.size w w' := by
 have hW := (Below.refl w.heap.size w).alloc (Nat.le_refl _) (.cells #[.bool false, .slice none 0 0, .bool false, .slice none 0 0] 37)
 have o4 : Own (w.alloc (.cells #[.bool false, .slice none 0 0, .bool false, .slice none 0 0] 37)) w.heap.size #[.bool false, .slice none 0 0, .bool false, .slice none 0 0] := (by repeat' (first | ((refine Own.new ?_); (focus (first | rfl | omega | (simp; done) | (simp; omega)))) | assumption | refine Own.alloc ?_ _ | refine Own.drew ?_ | (refine Own.far ?_ ?_ _; rotate_left; (focus (first | rfl | omega | (simp; done) | (simp; omega))))))
 have hz := hW.size
 have hn := Lib.hid (And.intro h1 h2)
 clear h1 h2
 go_enter Tryz.func49, Tryz.ntmps49
 go_wp2_with fail
 generalize (w.alloc (.cells #[.bool false, .slice none 0 0, .bool false, .slice none 0 0] 37)) = W0 at *
 refine Calls.mono (num_Of n hn.out.1 hn.out.2) ?_
 rintro e u1 ⟨⟨b1, rfl, oN, loN, hiN⟩, hb1⟩
 have hw1 := hW.trans (hb1.mono hz)
 have hz1 := hw1.size
 have p4 := o4.below hb1
 have l1 := Nat.lt_of_lt_of_le o4.lt loN
 clear hb1 o4
 go_wp2_with fail
 refine Calls.mono ratio_one ?_
 rintro e u2 ⟨⟨b2, rfl, oM, loM, hiM⟩, hb2⟩
 have hwu := hw1.trans (hb2.mono hz1)
 have q4 := p4.below hb2
 have l2 := Nat.lt_of_lt_of_le p4.lt loM
 have l3 := hb2.size
 have HN := Lib.hid (And.intro (NumO.below oN hb2) oM)
 have q4c := q4.cell
 have q4f := q4.thaw
 have q4z := q4.lt
 obtain ⟨A7, n7, c7, hs7⟩ := slN_form n b1
 obtain ⟨A8, n8, c8, hs8⟩ := slN_form 1 b2
 simp only [numV]
 rw [hs7, hs8]
 have HSL := Lib.hid (And.intro hs7 hs8)
 clear hs7 hs8 oN oM hb2 p4
 go_wp2
 refine retC (b := w.heap.size) (v := .agg #[.bool (sgnN n), .slice A7 n7 c7, .bool (sgnN 1), .slice A8 n8 c8]) (((((q4.set 0 (.bool (sgnN n))).set 1 (.slice A7 n7 c7)).set 2 (.bool (sgnN 1))).set 3 (.slice A8 n8 c8))) (fun w' hw' => by simp [results, Tryz.results49, go_sem, hw']) rfl ⟨⟨b1, b2, by rw [ratV, HSL.out.1, HSL.out.2], ((((HN.out.1).far (p := ⟨w.heap.size, 0, none⟩) (by simp; omega) (.bool (sgnN n))).far (p := ⟨w.heap.size, 1, none⟩) (by simp; omega) (.slice A7 n7 c7)).far (p := ⟨w.heap.size, 2, none⟩) (by simp; omega) (.bool (sgnN 1))).far (p := ⟨w.heap.size, 3, none⟩) (by simp; omega) (.slice A8 n8 c8), ((((HN.out.2).far (p := ⟨w.heap.size, 0, none⟩) (by simp; omega) (.bool (sgnN n))).far (p := ⟨w.heap.size, 1, none⟩) (by simp; omega) (.slice A7 n7 c7)).far (p := ⟨w.heap.size, 2, none⟩) (by simp; omega) (.bool (sgnN 1))).far (p := ⟨w.heap.size, 3, none⟩) (by simp; omega) (.slice A8 n8 c8), by omega, by simp; omega, by omega, by simp; omega⟩, ((((hwu.setCell (p := ⟨w.heap.size, 0, none⟩) (by simp) (.bool (sgnN n))).setCell (p := ⟨w.heap.size, 1, none⟩) (by simp) (.slice A7 n7 c7)).setCell (p := ⟨w.heap.size, 2, none⟩) (by simp) (.bool (sgnN 1))).setCell (p := ⟨w.heap.size, 3, none⟩) (by simp) (.slice A8 n8 c8))⟩
end Go.Proofs.YtflgngjocgiojaaGreat
