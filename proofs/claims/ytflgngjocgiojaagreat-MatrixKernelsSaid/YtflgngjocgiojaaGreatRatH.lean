/- Ratio: over. -/
import Derived.Test.YtflgngjocgiojaaGreatSinkp
namespace Go.Proofs.YtflgngjocgiojaaGreat
open Go.RowKit

/-- The value of a ratio, its digits in two blocks. -/
def ratV (p q : Int) (b1 b2 : Nat) : Value := .agg #[.bool (sgnN p), slN p b1, .bool (sgnN q), slN q b2]
def RetR (w : World) (p q : Int) (r : Ending) (w' : World) : Prop := (∃ b1 b2, r = .returned (.tuple #[ratV p q b1 b2, .bool true]) ∧ NumO w' b1 p ∧ NumO w' b2 q ∧ w.heap.size ≤ b1 ∧ b1 < w'.heap.size ∧ w.heap.size ≤ b2 ∧ b2 < w'.heap.size) ∧ Below w.heap.size w w'
theorem noU_rat : noU #[.bool false, .slice none 0 0, .bool false, .slice none 0 0] := fun i d h => by
 match i with
 | 0 => cases h
 | 1 => cases h
 | 2 => cases h
 | 3 => cases h
 | i + 4 => simp at h
theorem NumAt.keepU {T : List Nat} {w u : World} {v : Value} {z : Int} (h : NumAt w v z) (hk : Keeps T w u) (hT : ∀ b ∈ T, ∃ cs, Own w b cs ∧ noU cs) : NumAt u v z := by
 obtain ⟨A, n, c, e, h1, h2, h3, h4⟩ := h
 exact ⟨A, n, c, e, h1, h2, h3, h4.keepU hk hT⟩
/-- The fraction n / d in lowest terms. -/
def ofN (n d : Int) : Int := (if d < 0 then -n else n) / ((Nat.gcd n.natAbs d.natAbs : Nat) : Int)
def ofD (n d : Int) : Int := (if d < 0 then -d else d) / ((Nat.gcd n.natAbs d.natAbs : Nat) : Int)
set_option maxRecDepth 100000 in
set_option maxHeartbeats 2000000 in
theorem ratio_Of_pos {w : World} {v1 v2 : Value} {z1 z2 : Int} (h1 : NumAt w v1 z1) (h2 : NumAt w v2 z2) (h0 : 0 < z2) : Calls Tryz.prog 22 #[v1, v2] w (RetR w (ofN z1 z2) (ofD z1 z2)) := by
 obtain ⟨y, hy⟩ : ∃ z, ofD z1 z2 = z := ⟨_, rfl⟩
 rw [hy]
 have HY := Lib.hid (And.intro hy h0)
 clear hy h0
 obtain ⟨z, hz⟩ : ∃ z, ofN z1 z2 = z := ⟨_, rfl⟩
 rw [hz]
 have G1 := Lib.hid h1
 have G2 := Lib.hid h2
 obtain ⟨r1, k1⟩ := h1.raw
 obtain ⟨r2, k2⟩ := h2.raw
 obtain ⟨A1, n1, c1, rfl, hc1, hm1, hl1, d1⟩ := h1
 obtain ⟨A2, n2, c2, rfl, hc2, hm2, hl2, d2⟩ := h2
 obtain ⟨s1, hs1⟩ : ∃ s, decide (z1 < 0) = s := ⟨_, rfl⟩
 obtain ⟨s2, hs2⟩ : ∃ s, decide (z2 < 0) = s := ⟨_, rfl⟩
 rw [hs1] at r1 k1 G1 ⊢
 rw [hs2] at r2 k2 G2 ⊢
 have H := Lib.hid (And.intro hz (And.intro hs1 hs2))
 have D1 := Lib.hid d1
 have D2 := Lib.hid d2
 have R1 := Lib.hid (And.intro r1 k1)
 have R2 := Lib.hid (And.intro r2 k2)
 clear hz hs1 hs2 d1 d2 r1 k1 r2 k2
 have HS2 : Hid (s2 = false) := Lib.hid (by rw [← H.out.2.2]; exact decide_eq_false (by have := HY.out.2; omega))
 go_enter Tryz.func22, Tryz.ntmps22
 have hW := ((((Below.refl w.heap.size w).alloc (Nat.le_refl _) (.cells #[.bool s1, .slice A1 n1 c1] 35)).alloc (by simp) (.cells #[.bool s2, .slice A2 n2 c2] 35)).alloc (by simp; omega) (.cells #[.bool false, .slice none 0 0, .bool false, .slice none 0 0] 37))
 have o2 : Own (((w.alloc (.cells #[.bool s1, .slice A1 n1 c1] 35)).alloc (.cells #[.bool s2, .slice A2 n2 c2] 35)).alloc (.cells #[.bool false, .slice none 0 0, .bool false, .slice none 0 0] 37)) w.heap.size #[.bool s1, .slice A1 n1 c1] := (by repeat' (first | ((refine Own.new ?_); (focus (first | rfl | omega | (simp; done) | (simp; omega)))) | assumption | refine Own.alloc ?_ _ | refine Own.drew ?_ | (refine Own.far ?_ ?_ _; rotate_left; (focus (first | rfl | omega | (simp; done) | (simp; omega))))))
 have o3 : Own (((w.alloc (.cells #[.bool s1, .slice A1 n1 c1] 35)).alloc (.cells #[.bool s2, .slice A2 n2 c2] 35)).alloc (.cells #[.bool false, .slice none 0 0, .bool false, .slice none 0 0] 37)) (w.heap.size + 1) #[.bool s2, .slice A2 n2 c2] := (by repeat' (first | ((refine Own.new ?_); (focus (first | rfl | omega | (simp; done) | (simp; omega)))) | assumption | refine Own.alloc ?_ _ | refine Own.drew ?_ | (refine Own.far ?_ ?_ _; rotate_left; (focus (first | rfl | omega | (simp; done) | (simp; omega))))))
 have o4 : Own (((w.alloc (.cells #[.bool s1, .slice A1 n1 c1] 35)).alloc (.cells #[.bool s2, .slice A2 n2 c2] 35)).alloc (.cells #[.bool false, .slice none 0 0, .bool false, .slice none 0 0] 37)) (w.heap.size + 1 + 1) #[.bool false, .slice none 0 0, .bool false, .slice none 0 0] := (by repeat' (first | ((refine Own.new ?_); (focus (first | rfl | omega | (simp; done) | (simp; omega)))) | assumption | refine Own.alloc ?_ _ | refine Own.drew ?_ | (refine Own.far ?_ ?_ _; rotate_left; (focus (first | rfl | omega | (simp; done) | (simp; omega))))))
 go_wp2
 generalize (((w.alloc (.cells #[.bool s1, .slice A1 n1 c1] 35)).alloc (.cells #[.bool s2, .slice A2 n2 c2] 35)).alloc (.cells #[.bool false, .slice none 0 0, .bool false, .slice none 0 0] 37)) = W0 at *
 refine region_gen (T := []) [.make 2 [] (ownB [] #[.bool s1, .slice A1 n1 c1, .bool s2, .slice A2 n2 c2] (fun p => .slice (some ⟨p, 0, none⟩) 2 2)), .need 3 [2], .need 4 []] 11 0 40 (fun _ _ => True) (fun _ _ _ _ _ => trivial) trivial (by kernel_rfl) (by kernel_rfl) (by rfl) ?_
 unfold genWalk
 apply Exists.intro
 apply And.intro
 ·apply Piece.mk
  ·intro f v hv hr hne
   simp only [List.take_succ_cons, List.take_zero, List.drop_zero, Nat.reduceSub]
   have d2 := fun y => (o2.later (v := v) (T := []) (by simp) y).cell
   have d3 := fun y => (o3.later (v := v) (T := []) (by simp) y).cell
   repeat (go_big_quiet_step (fail))
   refine wpQuiet_nil ?_
   exact rfl
  ·intro f; kernel_rfl
  ·intro f f' hf; kernel_rfl
 simp only [List.take_succ_cons, List.take_zero, List.drop_succ_cons, List.drop_zero, Nat.reduceAdd, oneOp]
 refine ⟨fun f => ⟨rfl, fun u hu _ => ?_⟩, ?_⟩
 ·refine make_own (e := 35) (by (try simp only [Act.put, List.setIfInBounds_toArray, List.set_cons_zero, List.set_cons_succ]); (try simp only [newB_val, numB_val, ownB_val]); go_simp) (by simp)
 unfold genWalk
 apply Exists.intro
 apply And.intro
 ·apply Piece.mk
  ·intro f v hv hr hne
   simp only [List.take_zero, List.drop_succ_cons, List.drop_zero, Nat.reduceSub]
   (try simp only [Act.put, List.setIfInBounds_toArray, List.set_cons_zero, List.set_cons_succ])
   (try simp only [ownB_val])
   repeat (go_big_quiet_step (fail))
   refine wpQuiet_nil ?_
   exact rfl
  ·intro f; kernel_rfl
  ·intro f f' hf; simp
 unfold genWalk
 apply Exists.intro
 apply And.intro
 ·apply Piece.mk
  ·intro f v hv hr hne
   simp only [List.take_succ_cons, List.take_zero, List.drop_succ_cons, List.drop_zero, Nat.reduceSub]
   (try simp only [Act.put, List.setIfInBounds_toArray, List.set_cons_zero, List.set_cons_succ])
   (try simp only [newB_val, numB_val, ownB_val])
   have h4 : Own v (f 2).1 #[.bool s1, .slice A1 n1 c1, .bool s2, .slice A2 n2 c2] := (hr 2 (by simp)).2
   have k4 := fun x : Later [] W0 v => Own.below h4 x.g
   have L1 := fun x : Later [] W0 v => NumAt.keeps (G1.out.below hW) x.h
   have L2 := fun x : Later [] W0 v => NumAt.keeps (G2.out.below hW) x.h
   repeat (go_big_quiet_step ((go_at_call 62; with_reducible exact lateB (ratio_right2 (k4 _) (L1 _) (L2 _)))))
   refine wpQuiet_nil ?_
   exact rfl
  ·intro f; kernel_rfl
  ·intro f f' hf; first | (simp; done) | (simp [hf 2 (by simp)])
 unfold genWalk
 apply Exists.intro
 apply And.intro
 ·apply Piece.mk
  ·intro f v hv hr hne
   simp only [List.take_succ_cons, List.take_zero, List.drop_succ_cons, List.drop_zero, Nat.reduceSub]
   (try simp only [Act.put, List.setIfInBounds_toArray, List.set_cons_zero, List.set_cons_succ])
   (try simp only [newB_val, numB_val, ownB_val])
   have d2 := fun y => (o2.later (v := v) (T := []) (by simp) y).cell
   have d3 := fun y => (o3.later (v := v) (T := []) (by simp) y).cell
   have L2 := fun x : Later [] W0 v => NumAt.keeps (G2.out.below hW) x.h
   repeat (go_big_quiet_step (first | (go_at_call 63; with_reducible exact lateB ratio_zero) | (go_at_call 26; with_reducible exact lateB (cmp_zero (ordI_gt HY.out.2) (L2 _)))))
   refine wpQuiet_nil ?_
   exact rfl
  ·intro f; kernel_rfl
  ·intro f f' hf; simp
 intro f u' hup hph hmade hdist
 refine effc_nil ?_
 simp only
 (try simp only [Act.put, List.setIfInBounds_toArray, List.set_cons_zero, List.set_cons_succ])
 (try simp only [newB_val, numB_val, ownB_val])
 clear hmade hdist hph
 have hwU : Below w.heap.size w u' := Upd.below hW hup (by simp)
 have p2 := o2.upd hup (by simp)
 have p3 := o3.upd hup (by simp)
 have p4 := o4.upd hup (by simp)
 have M1 := Lib.hid (NumAt.keeps (G1.out.below hW) (Upd.keeps (Keeps.refl _ _) hup))
 have M2 := Lib.hid (NumAt.keeps (G2.out.below hW) (Upd.keeps (Keeps.refl _ _) hup))
 generalize (f 2).1 = b4 at *
 clear f hup o2 o3 o4 hW
 have hzU := hwU.size
 have p2c := p2.cell
 have p3c := p3.cell
 have hs2 := HS2.out
 subst hs2
 go_wp2_with fail
 obtain ⟨g, hg⟩ : ∃ g : Nat, Nat.gcd z1.natAbs z2.natAbs = g := ⟨_, rfl⟩
 have hz20 := HY.out.2
 have hgf : fits (g : Int) = true := fits_le (b := z2) (by rw [← hg]; exact Nat.le_of_dvd (by omega) (Nat.gcd_dvd_right _ _)) (NumAt.fits M2.out)
 have hg0 : (g : Int) ≠ 0 := by
  have : 0 < Nat.gcd z1.natAbs z2.natAbs := Nat.gcd_pos_of_pos_right _ (by omega)
  omega
 have HD : Hid (z1 / (g : Int) = z ∧ z2 / (g : Int) = y) := Lib.hid (by
  have e1 := H.out.1
  have e2 := HY.out.1
  unfold ofN at e1
  unfold ofD at e2
  rw [if_neg (by omega), hg] at e1 e2
  exact ⟨e1, e2⟩)
 have qq := num_Gcd M1.out M2.out
 rw [hg] at qq
 have HGF := Lib.hid (And.intro hg0 hgf)
 clear hg hgf hg0 hz20
 refine Calls.mono qq ?_
 clear qq
 rintro e u1 ⟨⟨b, rfl, h1, h2, h3⟩, hb⟩
 rw [HGF.out.2]
 have hk := (Below.refl u1.heap.size u1).alloc (Nat.le_refl _) (.cells #[.bool (sgnN g), slN g b] 35)
 have r6 : Own (u1.alloc (.cells #[.bool (sgnN g), slN g b] 35)) u1.heap.size #[.bool (sgnN g), slN g b] := Own.new rfl
 have hbk := hb.trans (hk.mono hb.size)
 have hw1 := hwU.trans (hbk.mono hzU)
 have N1 := Lib.hid (NumO.at_ (NumO.below h3 hk) HGF.out.2)
 have K1 := Lib.hid (NumAt.below M1.out hbk)
 have K2 := Lib.hid (NumAt.below M2.out hbk)
 have h16 := Nat.lt_of_lt_of_le p4.lt hb.size
 replace p2 := p2.below hbk
 replace p3 := p3.below hbk
 replace p4 := p4.below hbk
 obtain ⟨A9, n9, c9, hsl⟩ := slN_form g b
 simp only [numV] at N1 ⊢
 rw [hsl] at r6 N1 hw1 p2 p3 p4 K1 K2 ⊢
 clear h1 h2 h3 hb hk hsl hbk M1 M2 p2c p3c
 go_wp2
 generalize (u1.alloc (.cells #[.bool (sgnN (g : Int)), .slice A9 n9 c9] 35)) = u2 at *
 have hz1 := hw1.size
 have p4z := p4.lt
 have hTb : ∀ b, b ∈ [w.heap.size + 1 + 1] → b < u2.heap.size := fun b hm => by
  have h1 := List.mem_singleton.1 hm
  omega
 have hTn : ∀ b ∈ [w.heap.size + 1 + 1], ∃ cs, Own u2 b cs ∧ noU cs := fun b hm => by
  have h1 := List.mem_singleton.1 hm
  subst h1
  exact ⟨_, p4, noU_rat⟩
 have hwT : ∀ u, Upd [w.heap.size + 1 + 1] u2 u → Below w.heap.size w u := fun u hu => Upd.below hw1 hu (by simp; omega)
 refine region_gen (T := [w.heap.size + 1 + 1]) [.make 2 [] (valB _ z), .make 5 [] (valB _ y), .need 6 [2, 5]] 7 0 40 (fun _ u => Own u (w.heap.size + 1 + 1) #[.bool false, .slice none 0 0, .bool false, .slice none 0 0]) (fun _ _ _ h k => h.below k) p4 (by kernel_rfl) (by kernel_rfl) (by rfl) ?_
 unfold genWalk
 apply Exists.intro
 apply And.intro
 ·apply Piece.mk
  ·intro f v hv hr hne
   simp only [List.take_succ_cons, List.take_zero, List.drop_zero, Nat.reduceSub]
   have d2 := fun y => (p2.later (v := v) (T := [w.heap.size + 1 + 1]) (by simp; omega) y).cell
   have d3 := fun y => (p3.later (v := v) (T := [w.heap.size + 1 + 1]) (by simp) y).cell
   have d6 := fun y => (r6.later (v := v) (T := [w.heap.size + 1 + 1]) (by simp; omega) y).cell
   repeat (go_big_quiet_step (fail))
   refine wpQuiet_nil ?_
   exact rfl
  ·intro f; kernel_rfl
  ·intro f f' hf; kernel_rfl
 simp only [List.take_succ_cons, List.take_zero, List.drop_succ_cons, List.drop_zero, Nat.reduceAdd, oneOp]
 refine ⟨fun f => ⟨rfl, fun u hu _ => ?_⟩, ?_⟩
 ·refine make_call (f := 65) (args := #[.agg #[.bool s1, .slice A1 n1 c1], .agg #[.bool (sgnN (g : Int)), .slice A9 n9 c9]]) (by (try simp only [Act.put, List.setIfInBounds_toArray, List.set_cons_zero, List.set_cons_succ]); (try simp only [valB_val]); go_simp) ?_
  have q := ratio_quotient (w := u) (NumAt.keepU K1.out hu hTn) (NumAt.keepU N1.out hu hTn) HGF.out.1
  rw [HD.out.1] at q
  refine q.mono ?_
  rintro e wx ⟨⟨b, rfl, q1, q2, q3⟩, hbx⟩
  exact ⟨(b, 0), rfl, q2, q3, hbx, fun hm => absurd (hTb b hm) (by have := hu.1; omega), q1⟩
 unfold genWalk
 apply Exists.intro
 apply And.intro
 ·apply Piece.mk
  ·intro f v hv hr hne
   simp only [List.take_succ_cons, List.take_zero, List.drop_succ_cons, List.drop_zero, Nat.reduceSub]
   (try simp only [Act.put, List.setIfInBounds_toArray, List.set_cons_zero, List.set_cons_succ])
   (try simp only [valB_val])
   have d2 := fun y => (p2.later (v := v) (T := [w.heap.size + 1 + 1]) (by simp; omega) y).cell
   have d3 := fun y => (p3.later (v := v) (T := [w.heap.size + 1 + 1]) (by simp) y).cell
   have d6 := fun y => (r6.later (v := v) (T := [w.heap.size + 1 + 1]) (by simp; omega) y).cell
   repeat (go_big_quiet_step (fail))
   refine wpQuiet_nil ?_
   exact rfl
  ·intro f; kernel_rfl
  ·intro f f' hf; simp
 simp only [List.take_succ_cons, List.take_zero, List.drop_succ_cons, List.drop_zero, Nat.reduceAdd, oneOp]
 refine ⟨fun f => ⟨rfl, fun u hu _ => ?_⟩, ?_⟩
 ·refine make_call (f := 65) (args := #[.agg #[.bool false, .slice A2 n2 c2], .agg #[.bool (sgnN (g : Int)), .slice A9 n9 c9]]) (by (try simp only [Act.put, List.setIfInBounds_toArray, List.set_cons_zero, List.set_cons_succ]); (try simp only [valB_val]); go_simp) ?_
  have q := ratio_quotient (w := u) (NumAt.keepU K2.out hu hTn) (NumAt.keepU N1.out hu hTn) HGF.out.1
  rw [HD.out.2] at q
  refine q.mono ?_
  rintro e wx ⟨⟨b, rfl, q1, q2, q3⟩, hbx⟩
  exact ⟨(b, 0), rfl, q2, q3, hbx, fun hm => absurd (hTb b hm) (by have := hu.1; omega), q1⟩
 unfold genWalk
 apply Exists.intro
 apply And.intro
 ·apply Piece.mk
  ·intro f v hv hr hne
   simp only [List.take_zero, List.drop_succ_cons, List.drop_zero, Nat.reduceSub]
   (try simp only [Act.put, List.setIfInBounds_toArray, List.set_cons_zero, List.set_cons_succ])
   (try simp only [valB_val])
   repeat (go_big_quiet_step (fail))
   refine wpQuiet_nil ?_
   exact rfl
  ·intro f; kernel_rfl
  ·intro f f' hf; simp
 unfold genWalk
 apply Exists.intro
 apply And.intro
 ·apply Piece.mk
  ·intro f v hv hr hne
   simp only [List.take_succ_cons, List.take_zero, List.drop_succ_cons, List.drop_zero, Nat.reduceSub]
   (try simp only [Act.put, List.setIfInBounds_toArray, List.set_cons_zero, List.set_cons_succ])
   (try simp only [numV])
   repeat (go_big_quiet_step (fail))
   refine wpQuiet_nil ?_
   exact rfl
  ·intro f; kernel_rfl
  ·intro f f' hf; first | (simp; done) | (simp [hf 2 (by simp), hf 5 (by simp)])
 intro f u' hup hph hmade hdist
 obtain ⟨⟨hT1, oN⟩, loN, hiN⟩ := hmade 2 (by omega) rfl
 obtain ⟨⟨hT2, oM⟩, loM, hiM⟩ := hmade 5 (by omega) rfl
 replace oN : NumO u' (f 2).1 z := oN
 replace oM : NumO u' (f 5).1 y := oM
 have q4 : Own u' (w.heap.size + 1 + 1) #[.bool false, .slice none 0 0, .bool false, .slice none 0 0] := hph
 have hwu : Below w.heap.size w u' := hwT u' hup
 clear hmade hdist hph
 simp only
 (try simp only [Act.put, List.setIfInBounds_toArray, List.set_cons_zero, List.set_cons_succ])
 (try simp only [newB_val, numB_val, ownB_val, valB_val, numV])
 generalize (f 2).1 = b1 at *
 generalize (f 5).1 = b2 at *
 clear f
 obtain ⟨A7, n7, c7, hs7⟩ := slN_form z b1
 obtain ⟨A8, n8, c8, hs8⟩ := slN_form y b2
 rw [hs7, hs8]
 have HSL := Lib.hid (And.intro hs7 hs8)
 clear hs7 hs8
 have q4c := q4.cell
 have q4f := q4.thaw
 have q4z := q4.lt
 have hkT := Upd.keeps (Keeps.refl _ _) hup
 refine effc_mem (by rfl) (fun K hK => ?_)
 go_simp
 refine hK _ _ (((((hkT).set (p := ⟨w.heap.size + 1 + 1, 0, none⟩) (by simp) (.bool (sgnN z))).set (p := ⟨w.heap.size + 1 + 1, 1, none⟩) (by simp) (.slice A7 n7 c7)).set (p := ⟨w.heap.size + 1 + 1, 2, none⟩) (by simp) (.bool (sgnN y))).set (p := ⟨w.heap.size + 1 + 1, 3, none⟩) (by simp) (.slice A8 n8 c8)) (fun u3 hu3 => ?_)
 clear hK K
 have hs3 := hu3.size
 simp [World.setCell] at hs3
 have hwu1 := ((((hwu.setCell (p := ⟨w.heap.size + 1 + 1, 0, none⟩) (by simp; omega) (.bool (sgnN z))).setCell (p := ⟨w.heap.size + 1 + 1, 1, none⟩) (by simp; omega) (.slice A7 n7 c7)).setCell (p := ⟨w.heap.size + 1 + 1, 2, none⟩) (by simp; omega) (.bool (sgnN y))).setCell (p := ⟨w.heap.size + 1 + 1, 3, none⟩) (by simp; omega) (.slice A8 n8 c8)).trans (hu3.mono (by simp [World.setCell]; exact hwu.size))
 have q5 := ((((q4.set 0 (.bool (sgnN z))).set 1 (.slice A7 n7 c7)).set 2 (.bool (sgnN y))).set 3 (.slice A8 n8 c8)).below hu3
 have oN1 := NumO.below (((((oN).far (p := ⟨w.heap.size + 1 + 1, 0, none⟩) (by simp; omega) (.bool (sgnN z))).far (p := ⟨w.heap.size + 1 + 1, 1, none⟩) (by simp; omega) (.slice A7 n7 c7)).far (p := ⟨w.heap.size + 1 + 1, 2, none⟩) (by simp; omega) (.bool (sgnN y))).far (p := ⟨w.heap.size + 1 + 1, 3, none⟩) (by simp; omega) (.slice A8 n8 c8)) hu3
 have oM1 := NumO.below (((((oM).far (p := ⟨w.heap.size + 1 + 1, 0, none⟩) (by simp; omega) (.bool (sgnN z))).far (p := ⟨w.heap.size + 1 + 1, 1, none⟩) (by simp; omega) (.slice A7 n7 c7)).far (p := ⟨w.heap.size + 1 + 1, 2, none⟩) (by simp; omega) (.bool (sgnN y))).far (p := ⟨w.heap.size + 1 + 1, 3, none⟩) (by simp; omega) (.slice A8 n8 c8)) hu3
 have hk1 := (((((hkT).set (p := ⟨w.heap.size + 1 + 1, 0, none⟩) (by simp) (.bool (sgnN z))).set (p := ⟨w.heap.size + 1 + 1, 1, none⟩) (by simp) (.slice A7 n7 c7)).set (p := ⟨w.heap.size + 1 + 1, 2, none⟩) (by simp) (.bool (sgnN y))).set (p := ⟨w.heap.size + 1 + 1, 3, none⟩) (by simp) (.slice A8 n8 c8)).later hu3
 clear q4 q4c q4f q4z oN oM hu3
 refine effc_mem (by rfl) (fun K hK => ?_)
 go_simp
 refine hK _ _ hk1 (fun u4 hu4 => ?_)
 clear hK K
 have q6 := q5.below hu4
 have oN2 := oN1.below hu4
 have oM2 := oM1.below hu4
 have hwu2 := hwu1.trans (hu4.mono hwu1.size)
 have hs4 := hu4.size
 refine effc_nil ?_
 (try simp only [Act.put, List.setIfInBounds_toArray, List.set_cons_zero, List.set_cons_succ])
 go_wp2
 refine retC (b := w.heap.size + 1 + 1) (v := .tuple #[.agg #[.bool (sgnN z), .slice A7 n7 c7, .bool (sgnN y), .slice A8 n8 c8], .bool true]) q6 (fun w' hw' => by simp [results, Tryz.results22, go_sem, hw']) rfl ⟨⟨b1, b2, by rw [ratV, HSL.out.1, HSL.out.2], oN2, oM2, by omega, by omega, by omega, by omega⟩, hwu2⟩
end Go.Proofs.YtflgngjocgiojaaGreat
namespace Go.Proofs.YtflgngjocgiojaaGreat
open Go.RowKit

def ProdAt (w : World) (v : Value) (z : Int) : Prop := ∃ s A n c, v = .agg #[.bool s, .slice A n c, .bool true] ∧ NumAt w (.agg #[.bool s, .slice A n c]) z
theorem RetP.prod {w' : World} {z : Int} {b : Nat} (h : NumO w' b z) (hf : fits z = true) : ProdAt w' (prodV z b) z := by
 have q := h.at_ hf
 obtain ⟨A, n, c, hs⟩ := slN_form z b
 unfold numV at q
 rw [hs] at q
 exact ⟨_, A, n, c, by rw [prodV, hs, hf], q⟩
set_option maxRecDepth 100000 in
set_option maxHeartbeats 2000000 in
theorem ratio_over {w : World} {v1 v2 : Value} {z1 z2 : Int} (h1 : ProdAt w v1 z1) (h2 : ProdAt w v2 z2) (h0 : 0 < z2) : Calls Tryz.prog 75 #[v1, v2] w (RetR w (ofN z1 z2) (ofD z1 z2)) := by
 obtain ⟨z, hz⟩ : ∃ z, ofN z1 z2 = z := ⟨_, rfl⟩
 obtain ⟨y, hy⟩ : ∃ z, ofD z1 z2 = z := ⟨_, rfl⟩
 rw [hz, hy]
 obtain ⟨s1, A1, n1, c1, rfl, g1⟩ := h1
 obtain ⟨s2, A2, n2, c2, rfl, g2⟩ := h2
 have G1 := Lib.hid g1
 have G2 := Lib.hid g2
 have H := Lib.hid (And.intro hz (And.intro hy h0))
 clear g1 g2 hz hy h0
 have hW := ((((Below.refl w.heap.size w).alloc (Nat.le_refl _) (.cells #[.bool s1, .slice A1 n1 c1, .bool true] 113)).alloc (by simp) (.cells #[.bool s2, .slice A2 n2 c2, .bool true] 113)).alloc (by simp; omega) (.cells #[.bool false, .slice none 0 0, .bool false, .slice none 0 0] 37))
 have o4 : Own (((w.alloc (.cells #[.bool s1, .slice A1 n1 c1, .bool true] 113)).alloc (.cells #[.bool s2, .slice A2 n2 c2, .bool true] 113)).alloc (.cells #[.bool false, .slice none 0 0, .bool false, .slice none 0 0] 37)) (w.heap.size + 1 + 1) #[.bool false, .slice none 0 0, .bool false, .slice none 0 0] := (by repeat' (first | ((refine Own.new ?_); (focus (first | rfl | omega | (simp; done) | (simp; omega)))) | assumption | refine Own.alloc ?_ _ | refine Own.drew ?_ | (refine Own.far ?_ ?_ _; rotate_left; (focus (first | rfl | omega | (simp; done) | (simp; omega))))))
 go_enter Tryz.func75, Tryz.ntmps75
 go_wp2_with fail
 generalize (((w.alloc (.cells #[.bool s1, .slice A1 n1 c1, .bool true] 113)).alloc (.cells #[.bool s2, .slice A2 n2 c2, .bool true] 113)).alloc (.cells #[.bool false, .slice none 0 0, .bool false, .slice none 0 0] 37)) = W0 at *
 have hz0 := hW.size
 have q := ratio_Of_pos (G1.out.below hW) (G2.out.below hW) H.out.2.2
 rw [H.out.1, H.out.2.1] at q
 refine Calls.mono q ?_
 clear q
 rintro e u1 ⟨⟨b1, b2, rfl, oN, oM, loN, hiN, loM, hiM⟩, hb⟩
 have q4 := o4.below hb
 have hwu := hW.trans (hb.mono hz0)
 have q4c := q4.cell
 have q4f := q4.thaw
 have q4z := q4.lt
 have o4l := o4.lt
 have HN := Lib.hid (And.intro oN oM)
 obtain ⟨A7, n7, c7, hs7⟩ := slN_form z b1
 obtain ⟨A8, n8, c8, hs8⟩ := slN_form y b2
 simp only [ratV]
 rw [hs7, hs8]
 have HSL := Lib.hid (And.intro hs7 hs8)
 clear hs7 hs8 oN oM hb o4
 go_wp2
 refine retC (b := w.heap.size + 1 + 1) (v := .tuple #[.agg #[.bool (sgnN z), .slice A7 n7 c7, .bool (sgnN y), .slice A8 n8 c8], .bool true]) (((((q4.set 0 (.bool (sgnN z))).set 1 (.slice A7 n7 c7)).set 2 (.bool (sgnN y))).set 3 (.slice A8 n8 c8))) (fun w' hw' => by simp [results, Tryz.results75, go_sem, hw']) rfl ⟨⟨b1, b2, by rw [ratV, HSL.out.1, HSL.out.2], ((((HN.out.1).far (p := ⟨w.heap.size + 1 + 1, 0, none⟩) (by simp; omega) (.bool (sgnN z))).far (p := ⟨w.heap.size + 1 + 1, 1, none⟩) (by simp; omega) (.slice A7 n7 c7)).far (p := ⟨w.heap.size + 1 + 1, 2, none⟩) (by simp; omega) (.bool (sgnN y))).far (p := ⟨w.heap.size + 1 + 1, 3, none⟩) (by simp; omega) (.slice A8 n8 c8), ((((HN.out.2).far (p := ⟨w.heap.size + 1 + 1, 0, none⟩) (by simp; omega) (.bool (sgnN z))).far (p := ⟨w.heap.size + 1 + 1, 1, none⟩) (by simp; omega) (.slice A7 n7 c7)).far (p := ⟨w.heap.size + 1 + 1, 2, none⟩) (by simp; omega) (.bool (sgnN y))).far (p := ⟨w.heap.size + 1 + 1, 3, none⟩) (by simp; omega) (.slice A8 n8 c8), by omega, by simp; omega, by omega, by simp; omega⟩, ((((hwu.setCell (p := ⟨w.heap.size + 1 + 1, 0, none⟩) (by simp; omega) (.bool (sgnN z))).setCell (p := ⟨w.heap.size + 1 + 1, 1, none⟩) (by simp; omega) (.slice A7 n7 c7)).setCell (p := ⟨w.heap.size + 1 + 1, 2, none⟩) (by simp; omega) (.bool (sgnN y))).setCell (p := ⟨w.heap.size + 1 + 1, 3, none⟩) (by simp; omega) (.slice A8 n8 c8))⟩
end Go.Proofs.YtflgngjocgiojaaGreat
