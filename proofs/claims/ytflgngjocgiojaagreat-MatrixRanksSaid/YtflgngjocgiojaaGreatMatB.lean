/- Matrix: the product within combine. -/
import Derived.Test.YtflgngjocgiojaaGreatRatL
namespace Go.Proofs.YtflgngjocgiojaaGreat
open Go.RowKit

theorem noU_two (s : Bool) (A : Option Addr) (n c : Nat) : noU #[.bool s, .slice A n c] := fun i d h => by
 match i with
 | 0 => cases h
 | 1 => cases h
 | i + 2 => simp at h
set_option maxRecDepth 100000 in
set_option maxHeartbeats 2000000 in
theorem ratio_Of_neg {w : World} {v1 v2 : Value} {z1 z2 : Int} (h1 : NumAt w v1 z1) (h2 : NumAt w v2 z2) (h0 : z2 < 0) : Calls Tryz.prog 22 #[v1, v2] w (RetR w (ofN z1 z2) (ofD z1 z2)) := by
 obtain ⟨y, hy⟩ : ∃ z, ofD z1 z2 = z := ⟨_, rfl⟩
 rw [hy]
 have HY := Lib.hid (And.intro hy h0)
 clear hy h0
 obtain ⟨z, hz⟩ : ∃ z, ofN z1 z2 = z := ⟨_, rfl⟩
 rw [hz]
 have G1 := Lib.hid h1
 have G2 := Lib.hid h2
 obtain ⟨r1, k1⟩ := h1.raw
 obtain ⟨r2, k2⟩ := h2.raw
 obtain ⟨A1, n1, c1, rfl, hc1, hm1, hl1, d1⟩ := h1
 obtain ⟨A2, n2, c2, rfl, hc2, hm2, hl2, d2⟩ := h2
 obtain ⟨s1, hs1⟩ : ∃ s, decide (z1 < 0) = s := ⟨_, rfl⟩
 obtain ⟨s2, hs2⟩ : ∃ s, decide (z2 < 0) = s := ⟨_, rfl⟩
 rw [hs1] at r1 k1 G1 ⊢
 rw [hs2] at r2 k2 G2 ⊢
 have H := Lib.hid (And.intro hz (And.intro hs1 hs2))
 have D1 := Lib.hid d1
 have D2 := Lib.hid d2
 have R1 := Lib.hid (And.intro r1 k1)
 have R2 := Lib.hid (And.intro r2 k2)
 clear hz hs1 hs2 d1 d2 r1 k1 r2 k2
 have HS2 : Hid (s2 = true) := Lib.hid (by rw [← H.out.2.2]; exact decide_eq_true HY.out.2)
 go_enter Tryz.func22, Tryz.ntmps22
 have hW := ((((Below.refl w.heap.size w).alloc (Nat.le_refl _) (.cells #[.bool s1, .slice A1 n1 c1] 35)).alloc (by simp) (.cells #[.bool s2, .slice A2 n2 c2] 35)).alloc (by simp; omega) (.cells #[.bool false, .slice none 0 0, .bool false, .slice none 0 0] 37))
 have o2 : Own (((w.alloc (.cells #[.bool s1, .slice A1 n1 c1] 35)).alloc (.cells #[.bool s2, .slice A2 n2 c2] 35)).alloc (.cells #[.bool false, .slice none 0 0, .bool false, .slice none 0 0] 37)) w.heap.size #[.bool s1, .slice A1 n1 c1] := (by repeat' (first | ((refine Own.new ?_); (focus (first | rfl | omega | (simp; done) | (simp; omega)))) | assumption | refine Own.alloc ?_ _ | refine Own.drew ?_ | (refine Own.far ?_ ?_ _; rotate_left; (focus (first | rfl | omega | (simp; done) | (simp; omega))))))
 have o3 : Own (((w.alloc (.cells #[.bool s1, .slice A1 n1 c1] 35)).alloc (.cells #[.bool s2, .slice A2 n2 c2] 35)).alloc (.cells #[.bool false, .slice none 0 0, .bool false, .slice none 0 0] 37)) (w.heap.size + 1) #[.bool s2, .slice A2 n2 c2] := (by repeat' (first | ((refine Own.new ?_); (focus (first | rfl | omega | (simp; done) | (simp; omega)))) | assumption | refine Own.alloc ?_ _ | refine Own.drew ?_ | (refine Own.far ?_ ?_ _; rotate_left; (focus (first | rfl | omega | (simp; done) | (simp; omega))))))
 have o4 : Own (((w.alloc (.cells #[.bool s1, .slice A1 n1 c1] 35)).alloc (.cells #[.bool s2, .slice A2 n2 c2] 35)).alloc (.cells #[.bool false, .slice none 0 0, .bool false, .slice none 0 0] 37)) (w.heap.size + 1 + 1) #[.bool false, .slice none 0 0, .bool false, .slice none 0 0] := (by repeat' (first | ((refine Own.new ?_); (focus (first | rfl | omega | (simp; done) | (simp; omega)))) | assumption | refine Own.alloc ?_ _ | refine Own.drew ?_ | (refine Own.far ?_ ?_ _; rotate_left; (focus (first | rfl | omega | (simp; done) | (simp; omega))))))
 go_wp2
 generalize (((w.alloc (.cells #[.bool s1, .slice A1 n1 c1] 35)).alloc (.cells #[.bool s2, .slice A2 n2 c2] 35)).alloc (.cells #[.bool false, .slice none 0 0, .bool false, .slice none 0 0] 37)) = W0 at *
 refine region_gen (T := []) [.make 2 [] (ownB [] #[.bool s1, .slice A1 n1 c1, .bool s2, .slice A2 n2 c2] (fun p => .slice (some ⟨p, 0, none⟩) 2 2)), .need 3 [2], .need 4 []] 11 0 40 (fun _ _ => True) (fun _ _ _ _ _ => trivial) trivial (by kernel_rfl) (by kernel_rfl) (by rfl) ?_
 unfold genWalk
 apply Exists.intro
 apply And.intro
 ·apply Piece.mk
  ·intro f v hv hr hne
   simp only [List.take_succ_cons, List.take_zero, List.drop_zero, Nat.reduceSub]
   have d2 := fun y => (o2.later (v := v) (T := []) (by simp) y).cell
   have d3 := fun y => (o3.later (v := v) (T := []) (by simp) y).cell
   repeat (go_big_quiet_step (fail))
   refine wpQuiet_nil ?_
   exact rfl
  ·intro f; kernel_rfl
  ·intro f f' hf; kernel_rfl
 simp only [List.take_succ_cons, List.take_zero, List.drop_succ_cons, List.drop_zero, Nat.reduceAdd, oneOp]
 refine ⟨fun f => ⟨rfl, fun u hu _ => ?_⟩, ?_⟩
 ·refine make_own (e := 35) (by (try simp only [Act.put, List.setIfInBounds_toArray, List.set_cons_zero, List.set_cons_succ]); (try simp only [newB_val, numB_val, ownB_val]); go_simp) (by simp)
 unfold genWalk
 apply Exists.intro
 apply And.intro
 ·apply Piece.mk
  ·intro f v hv hr hne
   simp only [List.take_zero, List.drop_succ_cons, List.drop_zero, Nat.reduceSub]
   (try simp only [Act.put, List.setIfInBounds_toArray, List.set_cons_zero, List.set_cons_succ])
   (try simp only [ownB_val])
   repeat (go_big_quiet_step (fail))
   refine wpQuiet_nil ?_
   exact rfl
  ·intro f; kernel_rfl
  ·intro f f' hf; simp
 unfold genWalk
 apply Exists.intro
 apply And.intro
 ·apply Piece.mk
  ·intro f v hv hr hne
   simp only [List.take_succ_cons, List.take_zero, List.drop_succ_cons, List.drop_zero, Nat.reduceSub]
   (try simp only [Act.put, List.setIfInBounds_toArray, List.set_cons_zero, List.set_cons_succ])
   (try simp only [newB_val, numB_val, ownB_val])
   have h4 : Own v (f 2).1 #[.bool s1, .slice A1 n1 c1, .bool s2, .slice A2 n2 c2] := (hr 2 (by simp)).2
   have k4 := fun x : Later [] W0 v => Own.below h4 x.g
   have L1 := fun x : Later [] W0 v => NumAt.keeps (G1.out.below hW) x.h
   have L2 := fun x : Later [] W0 v => NumAt.keeps (G2.out.below hW) x.h
   repeat (go_big_quiet_step ((go_at_call 62; with_reducible exact lateB (ratio_right2 (k4 _) (L1 _) (L2 _)))))
   refine wpQuiet_nil ?_
   exact rfl
  ·intro f; kernel_rfl
  ·intro f f' hf; first | (simp; done) | (simp [hf 2 (by simp)])
 unfold genWalk
 apply Exists.intro
 apply And.intro
 ·apply Piece.mk
  ·intro f v hv hr hne
   simp only [List.take_succ_cons, List.take_zero, List.drop_succ_cons, List.drop_zero, Nat.reduceSub]
   (try simp only [Act.put, List.setIfInBounds_toArray, List.set_cons_zero, List.set_cons_succ])
   (try simp only [newB_val, numB_val, ownB_val])
   have d2 := fun y => (o2.later (v := v) (T := []) (by simp) y).cell
   have d3 := fun y => (o3.later (v := v) (T := []) (by simp) y).cell
   have L2 := fun x : Later [] W0 v => NumAt.keeps (G2.out.below hW) x.h
   repeat (go_big_quiet_step (first | (go_at_call 63; with_reducible exact lateB ratio_zero) | (go_at_call 26; with_reducible exact lateB (cmp_zero (ordI_lt HY.out.2) (L2 _)))))
   refine wpQuiet_nil ?_
   exact rfl
  ·intro f; kernel_rfl
  ·intro f f' hf; simp
 intro f u' hup hph hmade hdist
 refine effc_nil ?_
 simp only
 (try simp only [Act.put, List.setIfInBounds_toArray, List.set_cons_zero, List.set_cons_succ])
 (try simp only [newB_val, numB_val, ownB_val])
 clear hmade hdist hph
 have hwU : Below w.heap.size w u' := Upd.below hW hup (by simp)
 have p2 := o2.upd hup (by simp)
 have p3 := o3.upd hup (by simp)
 have p4 := o4.upd hup (by simp)
 have M1 := Lib.hid (NumAt.keeps (G1.out.below hW) (Upd.keeps (Keeps.refl _ _) hup))
 have M2 := Lib.hid (NumAt.keeps (G2.out.below hW) (Upd.keeps (Keeps.refl _ _) hup))
 generalize (f 2).1 = b4 at *
 clear f hup o2 o3 o4 hW
 have hzU := hwU.size
 have p2c := p2.cell
 have p3c := p3.cell
 have hs2 := HS2.out
 subst hs2
 obtain ⟨x1, hx1⟩ : ∃ x, -z1 = x := ⟨_, rfl⟩
 obtain ⟨x2, hx2⟩ : ∃ x, -z2 = x := ⟨_, rfl⟩
 have hx20 : 0 < x2 := by have := HY.out.2; omega
 have HX := Lib.hid (And.intro hx1 (And.intro hx2 hx20))
 have hxf1 : fits x1 = true := fits_le (b := z1) (by omega) (NumAt.fits M1.out)
 have hxf2 : fits x2 = true := fits_le (b := z2) (by omega) (NumAt.fits M2.out)
 have HXF := Lib.hid (And.intro hxf1 hxf2)
 clear hx1 hx2 hx20 hxf1 hxf2
 have p4l := p4.lt
 go_wp2
 refine region_sinkp [0, 2, 1, 3, 4, 5] [0, 2, 1, 3, 4, 5] ?l' ?hl (by kernel_rfl) 2 [] (by kernel_rfl) ?hB ?hp ?hh
 case hl =>
  simp only [permOps, List.map_cons, List.map_nil, List.getElem?_cons_zero, List.getElem?_cons_succ, pickO, rnO, rnE, tab, Option.map_none, List.map_toArray, List.getD_cons_zero, List.getD_cons_succ]
  rfl
 case hB => kernel_rfl
 case hp => rfl
 case hh =>
  apply Exists.intro
  refine ⟨fun v hv hne => ?_, fun u hu => ?_⟩
  ·simp only [List.take_succ_cons, List.take_zero]
   have d2 := fun y => (p2.later (v := v) (T := []) (by simp) y).cell
   have d3 := fun y => (p3.later (v := v) (T := []) (by simp) y).cell
   repeat (go_big_quiet_step (fail))
   refine wpQuiet_nil ?_
   exact rfl
  simp only [List.drop_succ_cons, List.drop_zero]
  have hv1 := hwU.trans (hu.mono hzU)
  have hv1z := hv1.size
  replace p2 := p2.below hu
  replace p3 := p3.below hu
  replace p4 := p4.below hu
  have Z1 := M1.out.below hu
  have Z2 := Lib.hid (NumAt.below M2.out hu)
  have hq := ratio_minus Z1
  rw [HX.out.1] at hq
  have HQ := Lib.hid hq
  have kk := Keeps.of_below (T := []) hu
  clear Z1 hq p2c p3c M1 M2
  refine sink_mem (fun K hK => ?_)
  go_simp
  refine HQ.out.mono ?_
  rintro e v2 ⟨⟨b1, rfl, oN, loN, hiN⟩, hb⟩
  refine ⟨_, rfl, ?_⟩
  refine hK _ _ (kk.more (Keeps.of_below (T := []) hb) (by simp)) (fun v3 hb3 => ?_)
  clear hK K HQ
  have hbb := hb.trans (hb3.mono hb.size)
  have hv3 := hv1.trans (hbb.mono hv1z)
  have hv3z := hv3.size
  have kk3 := kk.more (Keeps.of_below (T := []) hbb) (by simp)
  have l1 := Nat.lt_of_lt_of_le p4.lt loN
  replace oN := NumO.below oN hb3
  have hiN3 := Nat.lt_of_lt_of_le hiN hb3.size
  replace p2 := p2.below hbb
  replace p3 := p3.below hbb
  replace p4 := p4.below hbb
  have hq := ratio_minus (NumAt.below Z2.out hbb)
  rw [HX.out.2.1] at hq
  have HQ := Lib.hid hq
  clear Z2 hq hb hb3 hbb hu kk hiN loN
  refine sink_mem (fun K hK => ?_)
  go_simp
  refine HQ.out.mono ?_
  rintro e v4 ⟨⟨b2, rfl, oM, loM, hiM⟩, hb⟩
  refine ⟨_, rfl, ?_⟩
  refine hK _ _ (kk3.more (Keeps.of_below (T := []) hb) (by simp)) (fun v5 hb3 => ?_)
  clear hK K HQ
  have hbb := hb.trans (hb3.mono hb.size)
  have hv5 := hv3.trans (hbb.mono hv3z)
  have hv5z := hv5.size
  have l2 := Nat.lt_of_lt_of_le p4.lt loM
  replace oM := NumO.below oM hb3
  replace oN := NumO.below oN hbb
  have hiM5 := Nat.lt_of_lt_of_le hiM hb3.size
  have hiN5 := Nat.lt_of_lt_of_le hiN3 hbb.size
  replace p2 := p2.below hbb
  replace p3 := p3.below hbb
  replace p4 := p4.below hbb
  clear hb hb3 hbb kk3 hiM loM hiN3
  obtain ⟨F1, fn1, fc1, hs7⟩ := slN_form x1 b1
  obtain ⟨F2, fn2, fc2, hs8⟩ := slN_form x2 b2
  have hsg : sgnN x2 = false := by unfold sgnN; rw [decide_eq_false (by have := HX.out.2.2; omega)]; simp
  simp only [numV]
  rw [hsg]
  rw [hs7, hs8]
  have HSL := Lib.hid (And.intro hs7 hs8)
  have M1 := Lib.hid (oN.at_ HXF.out.1)
  have M2 := Lib.hid (oM.at_ HXF.out.2)
  unfold numV at M1 M2
  rw [hs7] at M1
  rw [hs8, hsg] at M2
  have nu1 : noU #[.bool s1, .slice A1 n1 c1] := noU_two _ _ _ _
  have nu2 : noU #[.bool true, .slice A2 n2 c2] := noU_two _ _ _ _
  clear hs7 hs8 hsg
  have p2c := p2.cell
  have p2f := p2.thaw
  have p3c := p3.cell
  have p3f := p3.thaw
  have p2z := p2.lt
  have p3z := p3.lt
  refine sink_all (by kernel_rfl) (fun K hK => ?_)
  go_simp
  refine hK _ _ ?_
  clear hK K
  refine sink_all (by kernel_rfl) (fun K hK => ?_)
  go_simp
  refine hK _ _ ?_
  clear hK K
  refine sink_nil ?_
  (try simp only [Act.put, List.setIfInBounds_toArray, List.set_cons_zero, List.set_cons_succ])
  have q2 : Own ((((v5.setCell ⟨w.heap.size, 0, none⟩ (.bool (sgnN x1))).setCell ⟨w.heap.size, 1, none⟩ (.slice F1 fn1 fc1)).setCell ⟨w.heap.size + 1, 0, none⟩ (.bool false)).setCell ⟨w.heap.size + 1, 1, none⟩ (.slice F2 fn2 fc2)) w.heap.size #[.bool (sgnN x1), .slice F1 fn1 fc1] := ((((p2.set 0 (.bool (sgnN x1))).set 1 (.slice F1 fn1 fc1))).far (p := ⟨w.heap.size + 1, 0, none⟩) (by simp <;> omega) (.bool false)).far (p := ⟨w.heap.size + 1, 1, none⟩) (by simp <;> omega) (.slice F2 fn2 fc2)
  have q3 : Own ((((v5.setCell ⟨w.heap.size, 0, none⟩ (.bool (sgnN x1))).setCell ⟨w.heap.size, 1, none⟩ (.slice F1 fn1 fc1)).setCell ⟨w.heap.size + 1, 0, none⟩ (.bool false)).setCell ⟨w.heap.size + 1, 1, none⟩ (.slice F2 fn2 fc2)) (w.heap.size + 1) #[.bool false, .slice F2 fn2 fc2] := (((((p3).far (p := ⟨w.heap.size, 0, none⟩) (by simp <;> omega) (.bool (sgnN x1))).far (p := ⟨w.heap.size, 1, none⟩) (by simp <;> omega) (.slice F1 fn1 fc1)).set 0 (.bool false)).set 1 (.slice F2 fn2 fc2))
  have q4 : Own ((((v5.setCell ⟨w.heap.size, 0, none⟩ (.bool (sgnN x1))).setCell ⟨w.heap.size, 1, none⟩ (.slice F1 fn1 fc1)).setCell ⟨w.heap.size + 1, 0, none⟩ (.bool false)).setCell ⟨w.heap.size + 1, 1, none⟩ (.slice F2 fn2 fc2)) (w.heap.size + 1 + 1) #[.bool false, .slice none 0 0, .bool false, .slice none 0 0] := ((((p4).far (p := ⟨w.heap.size, 0, none⟩) (by simp <;> omega) (.bool (sgnN x1))).far (p := ⟨w.heap.size, 1, none⟩) (by simp <;> omega) (.slice F1 fn1 fc1)).far (p := ⟨w.heap.size + 1, 0, none⟩) (by simp <;> omega) (.bool false)).far (p := ⟨w.heap.size + 1, 1, none⟩) (by simp <;> omega) (.slice F2 fn2 fc2)
  have kS : Keeps [w.heap.size, w.heap.size + 1] v5 ((((v5.setCell ⟨w.heap.size, 0, none⟩ (.bool (sgnN x1))).setCell ⟨w.heap.size, 1, none⟩ (.slice F1 fn1 fc1)).setCell ⟨w.heap.size + 1, 0, none⟩ (.bool false)).setCell ⟨w.heap.size + 1, 1, none⟩ (.slice F2 fn2 fc2)) := ((((Keeps.refl _ _).set (by simp) _).set (by simp) _).set (by simp) _).set (by simp) _
  have hTn0 : ∀ b ∈ [w.heap.size, w.heap.size + 1], ∃ cs, Own v5 b cs ∧ noU cs := fun b hm => by
   simp at hm
   rcases hm with rfl | rfl
   ·exact ⟨_, p2, nu1⟩
   ·exact ⟨_, p3, nu2⟩
  replace M1 := Lib.hid (NumAt.keepU M1.out kS hTn0)
  replace M2 := Lib.hid (NumAt.keepU M2.out kS hTn0)
  have hwQ : Below w.heap.size w ((((v5.setCell ⟨w.heap.size, 0, none⟩ (.bool (sgnN x1))).setCell ⟨w.heap.size, 1, none⟩ (.slice F1 fn1 fc1)).setCell ⟨w.heap.size + 1, 0, none⟩ (.bool false)).setCell ⟨w.heap.size + 1, 1, none⟩ (.slice F2 fn2 fc2)) := ((((hv5.setCell (p := ⟨w.heap.size, 0, none⟩) (by simp) (.bool (sgnN x1))).setCell (p := ⟨w.heap.size, 1, none⟩) (by simp) (.slice F1 fn1 fc1)).setCell (p := ⟨w.heap.size + 1, 0, none⟩) (by simp) (.bool false)).setCell (p := ⟨w.heap.size + 1, 1, none⟩) (by simp) (.slice F2 fn2 fc2))
  clear p2 p3 p4 p2c p2f p3c p3f kS hTn0 hv5 oN oM hwU hzU nu1 nu2
  generalize ((((v5.setCell ⟨w.heap.size, 0, none⟩ (.bool (sgnN x1))).setCell ⟨w.heap.size, 1, none⟩ (.slice F1 fn1 fc1)).setCell ⟨w.heap.size + 1, 0, none⟩ (.bool false)).setCell ⟨w.heap.size + 1, 1, none⟩ (.slice F2 fn2 fc2)) = u7 at *
  have hzQ := hwQ.size
  have p2c := q2.cell
  have p3c := q3.cell
  have p2 := q2
  have p3 := q3
  have p4 := q4
  have hwU := hwQ
  have hzU := hzQ
  clear q2 q3 q4 hwQ hzQ
  go_wp2_with fail
  obtain ⟨g, hg⟩ : ∃ g : Nat, Nat.gcd x1.natAbs x2.natAbs = g := ⟨_, rfl⟩
  have hz20 := HX.out.2.2
  have hgf : fits (g : Int) = true := fits_le (b := x2) (by rw [← hg]; exact Nat.le_of_dvd (by omega) (Nat.gcd_dvd_right _ _)) (NumAt.fits M2.out)
  have hg0 : (g : Int) ≠ 0 := by
   have : 0 < Nat.gcd x1.natAbs x2.natAbs := Nat.gcd_pos_of_pos_right _ (by omega)
   omega
  have HD : Hid (x1 / (g : Int) = z ∧ x2 / (g : Int) = y) := Lib.hid (by
   have e1 := H.out.1
   have e2 := HY.out.1
   unfold ofN at e1
   unfold ofD at e2
   have hg2 : Nat.gcd z1.natAbs z2.natAbs = g := by rw [← hg, ← HX.out.1, ← HX.out.2.1, Int.natAbs_neg, Int.natAbs_neg]
   rw [if_pos HY.out.2, hg2] at e1 e2
   rw [HX.out.1] at e1
   rw [HX.out.2.1] at e2
   exact ⟨e1, e2⟩)
  have qq := num_Gcd M1.out M2.out
  rw [hg] at qq
  have HGF := Lib.hid (And.intro hg0 hgf)
  clear hg hgf hg0 hz20
  refine Calls.mono qq ?_
  clear qq
  rintro e u1 ⟨⟨b, rfl, h1, h2, h3⟩, hb⟩
  rw [HGF.out.2]
  have hk := (Below.refl u1.heap.size u1).alloc (Nat.le_refl _) (.cells #[.bool (sgnN g), slN g b] 35)
  have r6 : Own (u1.alloc (.cells #[.bool (sgnN g), slN g b] 35)) u1.heap.size #[.bool (sgnN g), slN g b] := Own.new rfl
  have hbk := hb.trans (hk.mono hb.size)
  have hw1 := hwU.trans (hbk.mono hzU)
  have N1 := Lib.hid (NumO.at_ (NumO.below h3 hk) HGF.out.2)
  have K1 := Lib.hid (NumAt.below M1.out hbk)
  have K2 := Lib.hid (NumAt.below M2.out hbk)
  have h16 := Nat.lt_of_lt_of_le p4.lt hb.size
  replace p2 := p2.below hbk
  replace p3 := p3.below hbk
  replace p4 := p4.below hbk
  obtain ⟨A9, n9, c9, hsl⟩ := slN_form g b
  simp only [numV] at N1 ⊢
  rw [hsl] at r6 N1 hw1 p2 p3 p4 K1 K2 ⊢
  clear h1 h2 h3 hb hk hsl hbk M1 M2 p2c p3c
  go_wp2
  generalize (u1.alloc (.cells #[.bool (sgnN (g : Int)), .slice A9 n9 c9] 35)) = u2 at *
  have hz1 := hw1.size
  have p4z := p4.lt
  have hTb : ∀ b, b ∈ [w.heap.size + 1 + 1] → b < u2.heap.size := fun b hm => by
   have h1 := List.mem_singleton.1 hm
   omega
  have hTn : ∀ b ∈ [w.heap.size + 1 + 1], ∃ cs, Own u2 b cs ∧ noU cs := fun b hm => by
   have h1 := List.mem_singleton.1 hm
   subst h1
   exact ⟨_, p4, noU_rat⟩
  have hwT : ∀ u, Upd [w.heap.size + 1 + 1] u2 u → Below w.heap.size w u := fun u hu => Upd.below hw1 hu (by simp; omega)
  refine region_gen (T := [w.heap.size + 1 + 1]) [.make 2 [] (valB _ z), .make 5 [] (valB _ y), .need 6 [2, 5]] 7 0 40 (fun _ u => Own u (w.heap.size + 1 + 1) #[.bool false, .slice none 0 0, .bool false, .slice none 0 0]) (fun _ _ _ h k => h.below k) p4 (by kernel_rfl) (by kernel_rfl) (by rfl) ?_
  unfold genWalk
  apply Exists.intro
  apply And.intro
  ·apply Piece.mk
   ·intro f v hv hr hne
    simp only [List.take_succ_cons, List.take_zero, List.drop_zero, Nat.reduceSub]
    have d2 := fun y => (p2.later (v := v) (T := [w.heap.size + 1 + 1]) (by simp; omega) y).cell
    have d3 := fun y => (p3.later (v := v) (T := [w.heap.size + 1 + 1]) (by simp) y).cell
    have d6 := fun y => (r6.later (v := v) (T := [w.heap.size + 1 + 1]) (by simp; omega) y).cell
    repeat (go_big_quiet_step (fail))
    refine wpQuiet_nil ?_
    exact rfl
   ·intro f; kernel_rfl
   ·intro f f' hf; kernel_rfl
  simp only [List.take_succ_cons, List.take_zero, List.drop_succ_cons, List.drop_zero, Nat.reduceAdd, oneOp]
  refine ⟨fun f => ⟨rfl, fun u hu _ => ?_⟩, ?_⟩
  ·refine make_call (f := 65) (args := #[.agg #[.bool (sgnN x1), .slice F1 fn1 fc1], .agg #[.bool (sgnN (g : Int)), .slice A9 n9 c9]]) (by (try simp only [Act.put, List.setIfInBounds_toArray, List.set_cons_zero, List.set_cons_succ]); (try simp only [valB_val]); go_simp) ?_
   have q := ratio_quotient (w := u) (NumAt.keepU K1.out hu hTn) (NumAt.keepU N1.out hu hTn) HGF.out.1
   rw [HD.out.1] at q
   refine q.mono ?_
   rintro e wx ⟨⟨b, rfl, q1, q2, q3⟩, hbx⟩
   exact ⟨(b, 0), rfl, q2, q3, hbx, fun hm => absurd (hTb b hm) (by have := hu.1; omega), q1⟩
  unfold genWalk
  apply Exists.intro
  apply And.intro
  ·apply Piece.mk
   ·intro f v hv hr hne
    simp only [List.take_succ_cons, List.take_zero, List.drop_succ_cons, List.drop_zero, Nat.reduceSub]
    (try simp only [Act.put, List.setIfInBounds_toArray, List.set_cons_zero, List.set_cons_succ])
    (try simp only [valB_val])
    have d2 := fun y => (p2.later (v := v) (T := [w.heap.size + 1 + 1]) (by simp; omega) y).cell
    have d3 := fun y => (p3.later (v := v) (T := [w.heap.size + 1 + 1]) (by simp) y).cell
    have d6 := fun y => (r6.later (v := v) (T := [w.heap.size + 1 + 1]) (by simp; omega) y).cell
    repeat (go_big_quiet_step (fail))
    refine wpQuiet_nil ?_
    exact rfl
   ·intro f; kernel_rfl
   ·intro f f' hf; simp
  simp only [List.take_succ_cons, List.take_zero, List.drop_succ_cons, List.drop_zero, Nat.reduceAdd, oneOp]
  refine ⟨fun f => ⟨rfl, fun u hu _ => ?_⟩, ?_⟩
  ·refine make_call (f := 65) (args := #[.agg #[.bool false, .slice F2 fn2 fc2], .agg #[.bool (sgnN (g : Int)), .slice A9 n9 c9]]) (by (try simp only [Act.put, List.setIfInBounds_toArray, List.set_cons_zero, List.set_cons_succ]); (try simp only [valB_val]); go_simp) ?_
   have q := ratio_quotient (w := u) (NumAt.keepU K2.out hu hTn) (NumAt.keepU N1.out hu hTn) HGF.out.1
   rw [HD.out.2] at q
   refine q.mono ?_
   rintro e wx ⟨⟨b, rfl, q1, q2, q3⟩, hbx⟩
   exact ⟨(b, 0), rfl, q2, q3, hbx, fun hm => absurd (hTb b hm) (by have := hu.1; omega), q1⟩
  unfold genWalk
  apply Exists.intro
  apply And.intro
  ·apply Piece.mk
   ·intro f v hv hr hne
    simp only [List.take_zero, List.drop_succ_cons, List.drop_zero, Nat.reduceSub]
    (try simp only [Act.put, List.setIfInBounds_toArray, List.set_cons_zero, List.set_cons_succ])
    (try simp only [valB_val])
    repeat (go_big_quiet_step (fail))
    refine wpQuiet_nil ?_
    exact rfl
   ·intro f; kernel_rfl
   ·intro f f' hf; simp
  unfold genWalk
  apply Exists.intro
  apply And.intro
  ·apply Piece.mk
   ·intro f v hv hr hne
    simp only [List.take_succ_cons, List.take_zero, List.drop_succ_cons, List.drop_zero, Nat.reduceSub]
    (try simp only [Act.put, List.setIfInBounds_toArray, List.set_cons_zero, List.set_cons_succ])
    (try simp only [numV])
    repeat (go_big_quiet_step (fail))
    refine wpQuiet_nil ?_
    exact rfl
   ·intro f; kernel_rfl
   ·intro f f' hf; first | (simp; done) | (simp [hf 2 (by simp), hf 5 (by simp)])
  intro f u' hup hph hmade hdist
  obtain ⟨⟨hT1, oN⟩, loN, hiN⟩ := hmade 2 (by omega) rfl
  obtain ⟨⟨hT2, oM⟩, loM, hiM⟩ := hmade 5 (by omega) rfl
  replace oN : NumO u' (f 2).1 z := oN
  replace oM : NumO u' (f 5).1 y := oM
  have q4 : Own u' (w.heap.size + 1 + 1) #[.bool false, .slice none 0 0, .bool false, .slice none 0 0] := hph
  have hwu : Below w.heap.size w u' := hwT u' hup
  clear hmade hdist hph
  simp only
  (try simp only [Act.put, List.setIfInBounds_toArray, List.set_cons_zero, List.set_cons_succ])
  (try simp only [newB_val, numB_val, ownB_val, valB_val, numV])
  generalize (f 2).1 = b1 at *
  generalize (f 5).1 = b2 at *
  clear f
  obtain ⟨A7, n7, c7, hs7⟩ := slN_form z b1
  obtain ⟨A8, n8, c8, hs8⟩ := slN_form y b2
  rw [hs7, hs8]
  have HSL := Lib.hid (And.intro hs7 hs8)
  clear hs7 hs8
  have q4c := q4.cell
  have q4f := q4.thaw
  have q4z := q4.lt
  have hkT := Upd.keeps (Keeps.refl _ _) hup
  refine effc_mem (by rfl) (fun K hK => ?_)
  go_simp
  refine hK _ _ (((((hkT).set (p := ⟨w.heap.size + 1 + 1, 0, none⟩) (by simp) (.bool (sgnN z))).set (p := ⟨w.heap.size + 1 + 1, 1, none⟩) (by simp) (.slice A7 n7 c7)).set (p := ⟨w.heap.size + 1 + 1, 2, none⟩) (by simp) (.bool (sgnN y))).set (p := ⟨w.heap.size + 1 + 1, 3, none⟩) (by simp) (.slice A8 n8 c8)) (fun u3 hu3 => ?_)
  clear hK K
  have hs3 := hu3.size
  simp [World.setCell] at hs3
  have hwu1 := ((((hwu.setCell (p := ⟨w.heap.size + 1 + 1, 0, none⟩) (by simp; omega) (.bool (sgnN z))).setCell (p := ⟨w.heap.size + 1 + 1, 1, none⟩) (by simp; omega) (.slice A7 n7 c7)).setCell (p := ⟨w.heap.size + 1 + 1, 2, none⟩) (by simp; omega) (.bool (sgnN y))).setCell (p := ⟨w.heap.size + 1 + 1, 3, none⟩) (by simp; omega) (.slice A8 n8 c8)).trans (hu3.mono (by simp [World.setCell]; exact hwu.size))
  have q5 := ((((q4.set 0 (.bool (sgnN z))).set 1 (.slice A7 n7 c7)).set 2 (.bool (sgnN y))).set 3 (.slice A8 n8 c8)).below hu3
  have oN1 := NumO.below (((((oN).far (p := ⟨w.heap.size + 1 + 1, 0, none⟩) (by simp; omega) (.bool (sgnN z))).far (p := ⟨w.heap.size + 1 + 1, 1, none⟩) (by simp; omega) (.slice A7 n7 c7)).far (p := ⟨w.heap.size + 1 + 1, 2, none⟩) (by simp; omega) (.bool (sgnN y))).far (p := ⟨w.heap.size + 1 + 1, 3, none⟩) (by simp; omega) (.slice A8 n8 c8)) hu3
  have oM1 := NumO.below (((((oM).far (p := ⟨w.heap.size + 1 + 1, 0, none⟩) (by simp; omega) (.bool (sgnN z))).far (p := ⟨w.heap.size + 1 + 1, 1, none⟩) (by simp; omega) (.slice A7 n7 c7)).far (p := ⟨w.heap.size + 1 + 1, 2, none⟩) (by simp; omega) (.bool (sgnN y))).far (p := ⟨w.heap.size + 1 + 1, 3, none⟩) (by simp; omega) (.slice A8 n8 c8)) hu3
  have hk1 := (((((hkT).set (p := ⟨w.heap.size + 1 + 1, 0, none⟩) (by simp) (.bool (sgnN z))).set (p := ⟨w.heap.size + 1 + 1, 1, none⟩) (by simp) (.slice A7 n7 c7)).set (p := ⟨w.heap.size + 1 + 1, 2, none⟩) (by simp) (.bool (sgnN y))).set (p := ⟨w.heap.size + 1 + 1, 3, none⟩) (by simp) (.slice A8 n8 c8)).later hu3
  clear q4 q4c q4f q4z oN oM hu3
  refine effc_mem (by rfl) (fun K hK => ?_)
  go_simp
  refine hK _ _ hk1 (fun u4 hu4 => ?_)
  clear hK K
  have q6 := q5.below hu4
  have oN2 := oN1.below hu4
  have oM2 := oM1.below hu4
  have hwu2 := hwu1.trans (hu4.mono hwu1.size)
  have hs4 := hu4.size
  refine effc_nil ?_
  (try simp only [Act.put, List.setIfInBounds_toArray, List.set_cons_zero, List.set_cons_succ])
  go_wp2
  refine retC (b := w.heap.size + 1 + 1) (v := .tuple #[.agg #[.bool (sgnN z), .slice A7 n7 c7, .bool (sgnN y), .slice A8 n8 c8], .bool true]) q6 (fun w' hw' => by simp [results, Tryz.results22, go_sem, hw']) rfl ⟨⟨b1, b2, by rw [ratV, HSL.out.1, HSL.out.2], oN2, oM2, by omega, by omega, by omega, by omega⟩, hwu2⟩
end Go.Proofs.YtflgngjocgiojaaGreat
namespace Go.Proofs.YtflgngjocgiojaaGreat
open Go.RowKit

def largeI (n : Int) : Bool := decide (n < -2147483648) || decide (2147483648 < n)
set_option maxRecDepth 100000 in
set_option maxHeartbeats 2000000 in
theorem matrix_large {w : World} (n : Int) : Calls Tryz.prog 72 #[.int .i64 n] w fun r w' => r = .returned (.bool (largeI n)) ∧ Below w.heap.size w w' := by
 have hW := Below.refl w.heap.size w
 by_cases h1 : n < -2147483648
 ·have e : largeI n = true := by unfold largeI; rw [decide_eq_true h1]; rfl
  rw [e]
  go_enter Tryz.func72, Tryz.ntmps72
  go_wp2
  go_ret
  exact ⟨rfl, hW⟩
 ·have e : largeI n = decide (2147483648 < n) := by unfold largeI; rw [decide_eq_false h1]; rfl
  rw [e]
  go_enter Tryz.func72, Tryz.ntmps72
  go_wp2
  go_ret
  exact ⟨rfl, hW⟩
set_option maxRecDepth 100000 in
set_option maxHeartbeats 2000000 in
theorem matrix_zero {w : World} {v1 : Value} {z1 : Int} (h1 : NumAt w v1 z1) : Calls Tryz.prog 98 #[v1] w fun r w' => r = .returned (.bool (decide (z1 = 0))) ∧ Below w.heap.size w w' := by
 obtain ⟨A1, n1, c1, rfl, hc1, hm1, hl1, d1⟩ := h1
 obtain ⟨s1, hs1⟩ : ∃ s, decide (z1 < 0) = s := ⟨_, rfl⟩
 rw [hs1]
 have hl := d1.len
 have hW := (Below.refl w.heap.size w).alloc (Nat.le_refl _) (.cells #[.bool s1, .slice A1 n1 c1] 35)
 obtain ⟨o, ho⟩ : ∃ o, decide (z1 = 0) = o := ⟨_, rfl⟩
 rw [ho]
 have e : ((n1 : Int) == 0) = o := by
  rw [← ho]
  rcases Nat.eq_zero_or_pos n1 with h | h
  ·have h2 : z1.natAbs = 0 := digs_nil.1 (List.eq_nil_of_length_eq_zero (by rw [hl]; exact h))
   rw [h, decide_eq_true (by omega)]; rfl
  ·have h2 : z1 ≠ 0 := fun h3 => by rw [h3] at hl; simp [digs_zero] at hl; omega
   rw [decide_eq_false h2]
   exact beq_eq_false_iff_ne.2 (by omega)
 clear d1 hl ho hs1
 go_enter Tryz.func98, Tryz.ntmps98
 go_wp2
 go_ret
 exact ⟨rfl, hW⟩
set_option maxRecDepth 100000 in
set_option maxHeartbeats 2000000 in
theorem matrix_quotient {w : World} {v1 v2 : Value} {z1 z2 : Int} (h1 : NumAt w v1 z1) (h2 : NumAt w v2 z2) (h0 : z2 ≠ 0) : Calls Tryz.prog 102 #[v1, v2] w (RetV w (z1 / z2)) := by
 obtain ⟨z, hz⟩ : ∃ z, z1 / z2 = z := ⟨_, rfl⟩
 rw [hz]
 have G1 := Lib.hid h1
 have G2 := Lib.hid h2
 obtain ⟨r1, k1⟩ := h1.raw
 obtain ⟨r2, k2⟩ := h2.raw
 obtain ⟨A1, n1, c1, rfl, hc1, hm1, hl1, d1⟩ := h1
 obtain ⟨A2, n2, c2, rfl, hc2, hm2, hl2, d2⟩ := h2
 obtain ⟨s1, hs1⟩ : ∃ s, decide (z1 < 0) = s := ⟨_, rfl⟩
 obtain ⟨s2, hs2⟩ : ∃ s, decide (z2 < 0) = s := ⟨_, rfl⟩
 rw [hs1] at r1 k1 G1 ⊢
 rw [hs2] at r2 k2 G2 ⊢
 have H := Lib.hid (And.intro hz (And.intro hs1 hs2))
 have D1 := Lib.hid d1
 have D2 := Lib.hid d2
 have R1 := Lib.hid (And.intro r1 k1)
 have R2 := Lib.hid (And.intro r2 k2)
 clear hz hs1 hs2 d1 d2 r1 k1 r2 k2
 go_enter Tryz.func102, Tryz.ntmps102
 have hW := ((((Below.refl w.heap.size w).alloc (Nat.le_refl _) (.cells #[.bool s1, .slice A1 n1 c1] 35)).alloc (by simp) (.cells #[.bool s2, .slice A2 n2 c2] 35)).alloc (by simp; omega) (.cells #[.bool false, .slice none 0 0] 35))
 go_wp2_with fail
 have o3 : Own (((w.alloc (.cells #[.bool s1, .slice A1 n1 c1] 35)).alloc (.cells #[.bool s2, .slice A2 n2 c2] 35)).alloc (.cells #[.bool false, .slice none 0 0] 35)) w.heap.size #[.bool s1, .slice A1 n1 c1] := (by repeat' (first | ((refine Own.new ?_); (focus (first | rfl | omega | (simp; done) | (simp; omega)))) | assumption | refine Own.alloc ?_ _ | refine Own.drew ?_ | (refine Own.far ?_ ?_ _; rotate_left; (focus (first | rfl | omega | (simp; done) | (simp; omega))))))
 have o4 : Own (((w.alloc (.cells #[.bool s1, .slice A1 n1 c1] 35)).alloc (.cells #[.bool s2, .slice A2 n2 c2] 35)).alloc (.cells #[.bool false, .slice none 0 0] 35)) (w.heap.size + 1) #[.bool s2, .slice A2 n2 c2] := (by repeat' (first | ((refine Own.new ?_); (focus (first | rfl | omega | (simp; done) | (simp; omega)))) | assumption | refine Own.alloc ?_ _ | refine Own.drew ?_ | (refine Own.far ?_ ?_ _; rotate_left; (focus (first | rfl | omega | (simp; done) | (simp; omega))))))
 have o6 : Own (((w.alloc (.cells #[.bool s1, .slice A1 n1 c1] 35)).alloc (.cells #[.bool s2, .slice A2 n2 c2] 35)).alloc (.cells #[.bool false, .slice none 0 0] 35)) (w.heap.size + 1 + 1) #[.bool false, .slice none 0 0] := (by repeat' (first | ((refine Own.new ?_); (focus (first | rfl | omega | (simp; done) | (simp; omega)))) | assumption | refine Own.alloc ?_ _ | refine Own.drew ?_ | (refine Own.far ?_ ?_ _; rotate_left; (focus (first | rfl | omega | (simp; done) | (simp; omega))))))
 generalize (((w.alloc (.cells #[.bool s1, .slice A1 n1 c1] 35)).alloc (.cells #[.bool s2, .slice A2 n2 c2] 35)).alloc (.cells #[.bool false, .slice none 0 0] 35)) = W0 at *
 have q := num_Div (G1.out.below hW) (G2.out.below hW) h0
 rw [H.out.1] at q
 refine Calls.mono q ?_
 rintro e u1 ⟨⟨b, b2, rfl, g1, g2, g3, g4, g5, g6⟩, hb⟩
 obtain ⟨A9, n9, c9, hsl⟩ := slN_form z b
 obtain ⟨A0, n0, c0, hsl2⟩ := slN_form (z1 % z2) b2
 simp only [numV]
 rw [hsl, hsl2]
 obtain ⟨s9, hs9⟩ : ∃ s, sgnN (z1 % z2) = s := ⟨_, rfl⟩
 rw [hs9]
 have HSL := Lib.hid hsl
 have hk := ((Below.refl u1.heap.size u1).alloc (Nat.le_refl _) (.cells #[.bool (sgnN z), .slice A9 n9 c9] 35)).alloc (by simp) (.cells #[.bool s9, .slice A0 n0 c0] 35)
 have hbz := hb.size
 have HB := Lib.hid (And.intro (Nat.lt_of_lt_of_le o6.lt g3) (And.intro g5 (g1.below hk)))
 have hw := hW.trans ((hb.trans (hk.mono hbz)).mono hW.size)
 have p2 := (o6.below hb).below hk
 have p2c := p2.cell
 have p2f := p2.thaw
 have p2z := p2.lt
 clear hsl hsl2 hs9 g1 g2 g3 g4 g5 g6 hk hb o3 o4
 go_wp2
 refine retC (b := w.heap.size + 1 + 1) (v := .agg #[.bool (sgnN z), .slice A9 n9 c9]) ((p2.set 0 _).set 1 _) (fun w' hw' => by simp [results, Tryz.results102, go_sem, hw']) rfl ⟨⟨b, by rw [numV, HSL.out], (HB.out.2.2.far (p := ⟨w.heap.size + 1 + 1, 0, none⟩) (by simp; have := HB.out.1; omega) _).far (p := ⟨w.heap.size + 1 + 1, 1, none⟩) (by simp; have := HB.out.1; omega) _, by have := HB.out.1; omega, by have := HB.out.2.1; simp; omega⟩, (hw.setCell (by simp; omega) _).setCell (by simp; omega) _⟩
end Go.Proofs.YtflgngjocgiojaaGreat
namespace Go.Proofs.YtflgngjocgiojaaGreat
open Go.RowKit

set_option maxRecDepth 100000 in
set_option maxHeartbeats 2000000 in
theorem matrix_mul {w : World} {v1 v2 : Value} {z1 z2 : Int} (h1 : NumAt w v1 z1) (h2 : NumAt w v2 z2) : Calls Tryz.prog 126 #[v1, v2] w (RetV w (z1 * z2)) := by
 obtain ⟨z, hz⟩ : ∃ z, z1 * z2 = z := ⟨_, rfl⟩
 rw [hz]
 have G1 := Lib.hid h1
 have G2 := Lib.hid h2
 obtain ⟨r1, k1⟩ := h1.raw
 obtain ⟨r2, k2⟩ := h2.raw
 obtain ⟨A1, n1, c1, rfl, hc1, hm1, hl1, d1⟩ := h1
 obtain ⟨A2, n2, c2, rfl, hc2, hm2, hl2, d2⟩ := h2
 obtain ⟨s1, hs1⟩ : ∃ s, decide (z1 < 0) = s := ⟨_, rfl⟩
 obtain ⟨s2, hs2⟩ : ∃ s, decide (z2 < 0) = s := ⟨_, rfl⟩
 rw [hs1] at r1 k1 G1 ⊢
 rw [hs2] at r2 k2 G2 ⊢
 have H := Lib.hid (And.intro hz (And.intro hs1 hs2))
 have D1 := Lib.hid d1
 have D2 := Lib.hid d2
 have R1 := Lib.hid (And.intro r1 k1)
 have R2 := Lib.hid (And.intro r2 k2)
 clear hz hs1 hs2 d1 d2 r1 k1 r2 k2
 go_enter Tryz.func126, Tryz.ntmps126
 have hW := ((((Below.refl w.heap.size w).alloc (Nat.le_refl _) (.cells #[.bool s1, .slice A1 n1 c1] 35)).alloc (by simp) (.cells #[.bool s2, .slice A2 n2 c2] 35)).alloc (by simp; omega) (.cells #[.bool false, .slice none 0 0] 35))
 go_wp2_with fail
 have o3 : Own (((w.alloc (.cells #[.bool s1, .slice A1 n1 c1] 35)).alloc (.cells #[.bool s2, .slice A2 n2 c2] 35)).alloc (.cells #[.bool false, .slice none 0 0] 35)) w.heap.size #[.bool s1, .slice A1 n1 c1] := (by repeat' (first | ((refine Own.new ?_); (focus (first | rfl | omega | (simp; done) | (simp; omega)))) | assumption | refine Own.alloc ?_ _ | refine Own.drew ?_ | (refine Own.far ?_ ?_ _; rotate_left; (focus (first | rfl | omega | (simp; done) | (simp; omega))))))
 have o4 : Own (((w.alloc (.cells #[.bool s1, .slice A1 n1 c1] 35)).alloc (.cells #[.bool s2, .slice A2 n2 c2] 35)).alloc (.cells #[.bool false, .slice none 0 0] 35)) (w.heap.size + 1) #[.bool s2, .slice A2 n2 c2] := (by repeat' (first | ((refine Own.new ?_); (focus (first | rfl | omega | (simp; done) | (simp; omega)))) | assumption | refine Own.alloc ?_ _ | refine Own.drew ?_ | (refine Own.far ?_ ?_ _; rotate_left; (focus (first | rfl | omega | (simp; done) | (simp; omega))))))
 have o6 : Own (((w.alloc (.cells #[.bool s1, .slice A1 n1 c1] 35)).alloc (.cells #[.bool s2, .slice A2 n2 c2] 35)).alloc (.cells #[.bool false, .slice none 0 0] 35)) (w.heap.size + 1 + 1) #[.bool false, .slice none 0 0] := (by repeat' (first | ((refine Own.new ?_); (focus (first | rfl | omega | (simp; done) | (simp; omega)))) | assumption | refine Own.alloc ?_ _ | refine Own.drew ?_ | (refine Own.far ?_ ?_ _; rotate_left; (focus (first | rfl | omega | (simp; done) | (simp; omega))))))
 generalize (((w.alloc (.cells #[.bool s1, .slice A1 n1 c1] 35)).alloc (.cells #[.bool s2, .slice A2 n2 c2] 35)).alloc (.cells #[.bool false, .slice none 0 0] 35)) = W0 at *
 have q := num_Mul (G1.out.below hW) (G2.out.below hW)
 rw [H.out.1] at q
 refine Calls.mono q ?_
 rintro e u1 ⟨⟨b, rfl, g2, g3, g1⟩, hb⟩
 obtain ⟨A9, n9, c9, hsl⟩ := slN_form z b
 simp only [numV]
 rw [hsl]
 obtain ⟨ok, hok⟩ : ∃ s, fits z = s := ⟨_, rfl⟩
 rw [hok]
 have HSL := Lib.hid hsl
 have hk := (Below.refl u1.heap.size u1).alloc (Nat.le_refl _) (.cells #[.bool (sgnN z), .slice A9 n9 c9] 35)
 have hbz := hb.size
 have HB := Lib.hid (And.intro (Nat.lt_of_lt_of_le o6.lt g2) (And.intro g3 (g1.below hk)))
 have hw := hW.trans ((hb.trans (hk.mono hbz)).mono hW.size)
 have p2 := (o6.below hb).below hk
 have p2c := p2.cell
 have p2f := p2.thaw
 have p2z := p2.lt
 clear hsl hok g1 g2 g3 hk hb o3 o4
 go_wp2
 refine retC (b := w.heap.size + 1 + 1) (v := .agg #[.bool (sgnN z), .slice A9 n9 c9]) ((p2.set 0 _).set 1 _) (fun w' hw' => by simp [results, Tryz.results126, go_sem, hw']) rfl ⟨⟨b, by rw [numV, HSL.out], (HB.out.2.2.far (p := ⟨w.heap.size + 1 + 1, 0, none⟩) (by simp; have := HB.out.1; omega) _).far (p := ⟨w.heap.size + 1 + 1, 1, none⟩) (by simp; have := HB.out.1; omega) _, by have := HB.out.1; omega, by have := HB.out.2.1; simp; omega⟩, (hw.setCell (by simp; omega) _).setCell (by simp; omega) _⟩
end Go.Proofs.YtflgngjocgiojaaGreat
