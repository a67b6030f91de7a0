/- As region_sink, with the operations in another order. No condition. -/
import Derived.Test.YtflgngjocgiojaaGreatRatB
import Derived.Test.YtflgngjocgiojaaGreatNumM
import Derived.Test.YtflgngjocgiojaaGreatLift
namespace Go.Proofs.YtflgngjocgiojaaGreat
open Go.RowKit

set_option maxRecDepth 100000 in
set_option maxHeartbeats 2000000 in
theorem ratio_right2 {w : World} {b : Nat} {s1 s2 : Bool} {A1 A2 : Option Addr} {n1 n2 c1 c2 : Nat} {z1 z2 : Int} (o : Own w b #[.bool s1, .slice A1 n1 c1, .bool s2, .slice A2 n2 c2]) (h1 : NumAt w (.agg #[.bool s1, .slice A1 n1 c1]) z1) (h2 : NumAt w (.agg #[.bool s2, .slice A2 n2 c2]) z2) :
  Calls Tryz.prog 62 #[.slice (some ⟨b, 0, none⟩) 2 2] w fun r w' => r = .returned (.bool true) ∧ Below w.heap.size w w' := by
 have G1 := Lib.hid h1
 have G2 := Lib.hid h2
 clear h1 h2
 have hW := Below.refl w.heap.size w
 go_enter Tryz.func62, Tryz.ntmps62
 go_wp2
 go_loopw [7] (fun i wr => ∃ k : Nat, k ≤ 2 ∧ i = .int .i64 k ∧ Below w.heap.size w wr) (fun i _ => 2 - (intOf i).toNat)
 case atStart => exact ⟨0, by omega, rfl, hW⟩
 case round =>
  clear hW
  obtain ⟨k, hk, rfl, hW⟩ := hrel
  have p := o.below hW
  have hz := hW.size
  have pc := p.cell
  have pz := p.lt
  have H1 := Lib.hid (NumAt.below G1.out hW)
  have H2 := Lib.hid (NumAt.below G2.out hW)
  by_cases h2 : k = 2
  ·subst h2
   go_wp2
   go_ret
   exact ⟨rfl, hW⟩
  ·by_cases h0 : k = 0
   ·subst h0
    have hA := (Below.refl wr.heap.size wr).alloc (Nat.le_refl _) (.cells #[.bool s1, .slice A1 n1 c1] 35)
    have hWA := hW.trans (hA.mono hz)
    have R := Lib.hid (NumAt.raw (NumAt.below H1.out hA))
    go_wp2_with fail
    have q := num_Right R.out.1
    rw [R.out.2] at q
    refine Calls.mono q ?_
    clear q
    rintro e u ⟨rfl, hb⟩
    have hWB := hWA.trans (hb.mono hWA.size)
    go_wp2
    go_roundw
    case rel => exact ⟨0 + 1, by omega, by go_num, hWB⟩
    case measure => simp [intOf]
   ·obtain rfl : k = 1 := by omega
    have hA := (Below.refl wr.heap.size wr).alloc (Nat.le_refl _) (.cells #[.bool s2, .slice A2 n2 c2] 35)
    have hWA := hW.trans (hA.mono hz)
    have R := Lib.hid (NumAt.raw (NumAt.below H2.out hA))
    go_wp2_with fail
    have q := num_Right R.out.1
    rw [R.out.2] at q
    refine Calls.mono q ?_
    clear q
    rintro e u ⟨rfl, hb⟩
    have hWB := hWA.trans (hb.mono hWA.size)
    go_wp2
    go_roundw
    case rel => exact ⟨1 + 1, by omega, by go_num, hWB⟩
    case measure => simp [intOf]
end Go.Proofs.YtflgngjocgiojaaGreat
namespace Go.Proofs.YtflgngjocgiojaaGreat
open Go.RowKit

/-- v is the pair of numbers p, q. -/
def RatAt (w : World) (v : Value) (p q : Int) : Prop := ∃ s1 A1 n1 c1 s2 A2 n2 c2, v = .agg #[.bool s1, .slice A1 n1 c1, .bool s2, .slice A2 n2 c2] ∧ NumAt w (.agg #[.bool s1, .slice A1 n1 c1]) p ∧ NumAt w (.agg #[.bool s2, .slice A2 n2 c2]) q
def goodQ (p q : Int) : Bool := decide (0 < q) && (Nat.gcd p.natAbs q.natAbs == 1)
theorem cmp_zero {w : World} {v1 : Value} {z1 o : Int} (ho : ordI z1 0 = o) (h1 : NumAt w v1 z1) : Calls Tryz.prog 26 #[v1, zeroN] w fun r w' => r = .returned (.int .i64 o) ∧ Below w.heap.size w w' := by
 have q := num_Cmp h1 (num_zero w)
 rw [ho] at q
 exact q
theorem one_fits : fits 1 = true := fits_small (by decide)
theorem cmp_one {w : World} {v1 v2 : Value} {z1 o : Int} (ho : ordI z1 1 = o) (h1 : NumAt w v1 z1) (h2 : NumAt w v2 1) : Calls Tryz.prog 26 #[v1, v2] w fun r w' => r = .returned (.int .i64 o) ∧ Below w.heap.size w w' := by
 have q := num_Cmp h1 h2
 rw [ho] at q
 exact q
/-- A maker: a number. -/
def valB (T : List Nat) (z : Int) : EBS T where
 val p := numV z p.1
 R p u := p.1 ∉ T ∧ NumO u p.1 z
 st _ _ _ h k := ⟨h.1, fun h1 h2 => (h.2 h1 h2).upd k h.1⟩
theorem valB_val {T : List Nat} {z : Int} {p : Nat × Nat} : (valB T z).val p = numV z p.1 := rfl
set_option maxRecDepth 100000 in
set_option maxHeartbeats 2000000 in
theorem ratio_Right {w : World} {v1 : Value} {p q : Int} (h : RatAt w v1 p q) : Calls Tryz.prog 25 #[v1] w fun r w' => r = .returned (.bool (goodQ p q)) ∧ Below w.heap.size w w' := by
 obtain ⟨ok, hok⟩ : ∃ z, goodQ p q = z := ⟨_, rfl⟩
 rw [hok]
 obtain ⟨s1, A1, n1, c1, s2, A2, n2, c2, rfl, h1, h2⟩ := h
 have G1 := Lib.hid h1
 have G2 := Lib.hid h2
 have HOK := Lib.hid hok
 clear h1 h2 hok
 have hW := (Below.refl w.heap.size w).alloc (Nat.le_refl _) (.cells #[.bool s1, .slice A1 n1 c1, .bool s2, .slice A2 n2 c2] 37)
 have o1 : Own (w.alloc (.cells #[.bool s1, .slice A1 n1 c1, .bool s2, .slice A2 n2 c2] 37)) w.heap.size #[.bool s1, .slice A1 n1 c1, .bool s2, .slice A2 n2 c2] := (by repeat' (first | ((refine Own.new ?_); (focus (first | rfl | omega | (simp; done) | (simp; omega)))) | assumption | refine Own.alloc ?_ _ | refine Own.drew ?_ | (refine Own.far ?_ ?_ _; rotate_left; (focus (first | rfl | omega | (simp; done) | (simp; omega))))))
 have hord := ordI_range q 0
 obtain ⟨o, ho⟩ : ∃ o, ordI q 0 = o := ⟨_, rfl⟩
 rw [ho] at hord
 have HO := Lib.hid (And.intro ho hord)
 clear ho hord
 go_enter Tryz.func25, Tryz.ntmps25
 go_wp2
 generalize (w.alloc (.cells #[.bool s1, .slice A1 n1 c1, .bool s2, .slice A2 n2 c2] 37)) = W0 at *
 refine region_gen (T := []) [.make 4 [] (ownB [] #[.bool s1, .slice A1 n1 c1, .bool s2, .slice A2 n2 c2] (fun p => .slice (some ⟨p, 0, none⟩) 2 2)), .need 5 [4], .need 6 []] 14 0 40 (fun _ _ => True) (fun _ _ _ _ _ => trivial) trivial (by kernel_rfl) (by kernel_rfl) (by rfl) ?_
 unfold genWalk
 apply Exists.intro
 apply And.intro
 ·apply Piece.mk
  ·intro f v hv hr hne
   simp only [List.take_succ_cons, List.take_zero, List.drop_zero, Nat.reduceSub]
   have d1 := fun y => (o1.later (v := v) (T := []) (by simp) y).cell
   repeat (go_big_quiet_step (fail))
   refine wpQuiet_nil ?_
   exact rfl
  ·intro f; kernel_rfl
  ·intro f f' hf; kernel_rfl
 simp only [List.take_succ_cons, List.take_zero, List.drop_succ_cons, List.drop_zero, Nat.reduceAdd, oneOp]
 refine ⟨fun f => ⟨rfl, fun u hu _ => ?_⟩, ?_⟩
 ·refine make_own (e := 35) (by (try simp only [Act.put, List.setIfInBounds_toArray, List.set_cons_zero, List.set_cons_succ]); (try simp only [newB_val, numB_val, ownB_val]); go_simp) (by simp)
 unfold genWalk
 apply Exists.intro
 apply And.intro
 ·apply Piece.mk
  ·intro f v hv hr hne
   simp only [List.take_zero, List.drop_succ_cons, List.drop_zero, Nat.reduceSub]
   (try simp only [Act.put, List.setIfInBounds_toArray, List.set_cons_zero, List.set_cons_succ])
   (try simp only [ownB_val])
   repeat (go_big_quiet_step (fail))
   refine wpQuiet_nil ?_
   exact rfl
  ·intro f; kernel_rfl
  ·intro f f' hf; simp
 unfold genWalk
 apply Exists.intro
 apply And.intro
 ·apply Piece.mk
  ·intro f v hv hr hne
   simp only [List.take_succ_cons, List.take_zero, List.drop_succ_cons, List.drop_zero, Nat.reduceSub]
   (try simp only [Act.put, List.setIfInBounds_toArray, List.set_cons_zero, List.set_cons_succ])
   (try simp only [newB_val, numB_val, ownB_val])
   have h4 : Own v (f 4).1 #[.bool s1, .slice A1 n1 c1, .bool s2, .slice A2 n2 c2] := (hr 4 (by simp)).2
   have k4 := fun x : Later [] W0 v => Own.below h4 x.g
   have L1 := fun x : Later [] W0 v => NumAt.keeps (G1.out.below hW) x.h
   have L2 := fun x : Later [] W0 v => NumAt.keeps (G2.out.below hW) x.h
   repeat (go_big_quiet_step ((go_at_call 62; with_reducible exact lateB (ratio_right2 (k4 _) (L1 _) (L2 _)))))
   refine wpQuiet_nil ?_
   exact rfl
  ·intro f; kernel_rfl
  ·intro f f' hf; first | (simp; done) | (simp [hf 4 (by simp)])
 unfold genWalk
 apply Exists.intro
 apply And.intro
 ·apply Piece.mk
  ·intro f v hv hr hne
   simp only [List.take_succ_cons, List.take_zero, List.drop_succ_cons, List.drop_zero, Nat.reduceSub]
   (try simp only [Act.put, List.setIfInBounds_toArray, List.set_cons_zero, List.set_cons_succ])
   (try simp only [newB_val, numB_val, ownB_val])
   have d1 := fun y => (o1.later (v := v) (T := []) (by simp) y).cell
   have L2 := fun x : Later [] W0 v => NumAt.keeps (G2.out.below hW) x.h
   repeat (go_big_quiet_step (first | (go_at_call 63; with_reducible exact lateB ratio_zero) | (go_at_call 26; with_reducible exact lateB (cmp_zero HO.out.1 (L2 _)))))
   refine wpQuiet_nil ?_
   exact rfl
  ·intro f; kernel_rfl
  ·intro f f' hf; simp
 intro f u' hup hph hmade hdist
 refine effc_nil ?_
 simp only
 (try simp only [Act.put, List.setIfInBounds_toArray, List.set_cons_zero, List.set_cons_succ])
 (try simp only [newB_val, numB_val, ownB_val])
 clear hmade hdist hph
 have hwU : Below w.heap.size w u' := Upd.below hW hup (by simp)
 have o9 := o1.upd hup (by simp)
 have M1 := Lib.hid (NumAt.keeps (G1.out.below hW) (Upd.keeps (Keeps.refl _ _) hup))
 have M2 := Lib.hid (NumAt.keeps (G2.out.below hW) (Upd.keeps (Keeps.refl _ _) hup))
 generalize (f 4).1 = b4 at *
 clear f hup o1 hW
 have hzU := hwU.size
 have o9c := o9.cell
 by_cases hle : o ≤ 0
 ·go_wp2
  go_ret
  refine ⟨?_, hwU⟩
  have e1 := HO.out.1
  have e2 : ¬ 0 < q := fun h => by rw [ordI_gt (by omega)] at e1; omega
  have e3 := HOK.out
  unfold goodQ at e3
  rw [decide_eq_false e2] at e3
  rw [← e3]
  rfl
 ·go_wp2_with fail
  have hq0 : 0 < q := by
   have e1 := HO.out.1
   apply Classical.byContradiction
   intro h
   have e2 : o ≤ 0 := by
    rcases Int.lt_trichotomy q 0 with h2 | h2 | h2
    ·rw [ordI_lt h2] at e1; omega
    ·rw [h2, ordI_eq] at e1; omega
    ·exact absurd h2 h
   omega
  have HQ0 := Lib.hid hq0
  clear hq0
  obtain ⟨g, hg⟩ : ∃ g : Nat, Nat.gcd p.natAbs q.natAbs = g := ⟨_, rfl⟩
  have hgf : fits (g : Int) = true := fits_le (b := q) (by rw [← hg]; exact Nat.le_of_dvd (by have := HQ0.out; omega) (Nat.gcd_dvd_right _ _)) (NumAt.fits M2.out)
  have qq := num_Gcd M1.out M2.out
  rw [hg] at qq
  have HGF := Lib.hid (And.intro hg hgf)
  clear hg hgf
  refine Calls.mono qq ?_
  clear qq
  rintro e u1 ⟨⟨b, rfl, h1, h2, h3⟩, hb⟩
  rw [HGF.out.2]
  have hk := (Below.refl u1.heap.size u1).alloc (Nat.le_refl _) (.cells #[.bool (sgnN g), slN g b] 35)
  have o3 : Own (u1.alloc (.cells #[.bool (sgnN g), slN g b] 35)) u1.heap.size #[.bool (sgnN g), slN g b] := Own.new rfl
  have hw1 := hwU.trans ((hb.trans (hk.mono hb.size)).mono hzU)
  have N1 := Lib.hid (NumO.at_ (NumO.below h3 hk) HGF.out.2)
  obtain ⟨A9, n9, c9, hsl⟩ := slN_form g b
  simp only [numV] at N1 ⊢
  rw [hsl] at o3 N1 hk hw1 ⊢
  clear h1 h2 h3 hb hk hsl o9 o9c
  go_wp2
  generalize (u1.alloc (.cells #[.bool (sgnN (g : Int)), .slice A9 n9 c9] 35)) = u2 at *
  obtain ⟨r, hr⟩ : ∃ r, ordI (g : Int) 1 = r := ⟨_, rfl⟩
  have HR := Lib.hid hr
  clear hr
  refine region_gen (T := []) [.make 1 [] (valB _ 1), .need 2 [1], .need 3 []] 4 0 40 (fun _ _ => True) (fun _ _ _ _ _ => trivial) trivial (by kernel_rfl) (by kernel_rfl) (by rfl) ?_
  unfold genWalk
  apply Exists.intro
  apply And.intro
  ·apply Piece.mk
   ·intro f v hv hr hne
    simp only [List.take_succ_cons, List.take_zero, List.drop_zero, Nat.reduceSub]
    have d3 := fun y => (o3.later (v := v) (T := []) (by simp) y).cell
    repeat (go_big_quiet_step (fail))
    refine wpQuiet_nil ?_
    exact rfl
   ·intro f; kernel_rfl
   ·intro f f' hf; kernel_rfl
  simp only [List.take_succ_cons, List.take_zero, List.drop_succ_cons, List.drop_zero, Nat.reduceAdd, oneOp]
  refine ⟨fun f => ⟨rfl, fun u hu _ => ?_⟩, ?_⟩
  ·refine make_call (f := 69) (args := #[]) (by (try simp only [Act.put, List.setIfInBounds_toArray, List.set_cons_zero, List.set_cons_succ]); go_simp) ?_
   refine Calls.mono (ratio_one (w := u)) ?_
   rintro e wx ⟨⟨b, rfl, q1, q2, q3⟩, hbx⟩
   exact ⟨(b, 0), rfl, q2, q3, hbx, by simp, q1⟩
  unfold genWalk
  apply Exists.intro
  apply And.intro
  ·apply Piece.mk
   ·intro f v hv hr hne
    simp only [List.take_zero, List.drop_succ_cons, List.drop_zero, Nat.reduceSub]
    (try simp only [Act.put, List.setIfInBounds_toArray, List.set_cons_zero, List.set_cons_succ])
    (try simp only [valB_val])
    repeat (go_big_quiet_step (fail))
    refine wpQuiet_nil ?_
    exact rfl
   ·intro f; kernel_rfl
   ·intro f f' hf; simp
  unfold genWalk
  apply Exists.intro
  apply And.intro
  ·apply Piece.mk
   ·intro f v hv hr hne
    simp only [List.take_succ_cons, List.take_zero, List.drop_succ_cons, List.drop_zero, Nat.reduceSub]
    (try simp only [Act.put, List.setIfInBounds_toArray, List.set_cons_zero, List.set_cons_succ])
    (try simp only [valB_val])
    have h1 : NumO v (f 1).1 1 := (hr 1 (by simp)).2
    have k1 := fun x : Later [] u2 v => NumO.at_ (NumO.below h1 x.g) one_fits
    have K1 := fun x : Later [] u2 v => NumAt.keeps N1.out x.h
    repeat (go_big_quiet_step ((go_at_call 26; with_reducible exact lateB (cmp_one HR.out (K1 _) (k1 _)))))
    refine wpQuiet_nil ?_
    exact rfl
   ·intro f; kernel_rfl
   ·intro f f' hf; first | (simp; done) | (simp [hf 1 (by simp)])
  unfold genWalk
  apply Exists.intro
  apply And.intro
  ·apply Piece.mk
   ·intro f v hv hr hne
    simp only [List.take_succ_cons, List.take_zero, List.drop_succ_cons, List.drop_zero, Nat.reduceSub]
    (try simp only [Act.put, List.setIfInBounds_toArray, List.set_cons_zero, List.set_cons_succ])
    (try simp only [valB_val])
    repeat (go_big_quiet_step (fail))
    refine wpQuiet_nil ?_
    exact rfl
   ·intro f; kernel_rfl
   ·intro f f' hf; simp
  intro f u3 hup hph hmade hdist
  simp only
  (try simp only [Act.put, List.setIfInBounds_toArray, List.set_cons_zero, List.set_cons_succ])
  clear hmade hdist hph
  refine effc_mem (by rfl) (fun K hK => ?_)
  go_simp
  refine hK _ _ (Upd.keeps (Keeps.refl _ _) hup) (fun u4 hu4 => ?_)
  clear hK K
  refine effc_nil ?_
  (try simp only [Act.put, List.setIfInBounds_toArray, List.set_cons_zero, List.set_cons_succ])
  have hw4 : Below w.heap.size w u4 := (Upd.below hw1 hup (by simp)).trans (hu4.mono (Upd.below hw1 hup (by simp)).size)
  clear hup hu4
  go_wp2
  go_ret
  refine ⟨?_, hw4⟩
  have e3 := HOK.out
  unfold goodQ at e3
  rw [decide_eq_true HQ0.out, Bool.true_and, HGF.out.1] at e3
  have e4 : (r == 0) = (g == 1) := by
   rw [← HR.out]
   rcases Nat.lt_trichotomy g 1 with h | h | h
   ·obtain rfl : g = 0 := by omega
    rfl
   ·rw [h]; rfl
   ·rw [ordI_gt (by omega)]
    exact (beq_eq_false_iff_ne.2 (show g ≠ 1 by omega)).symm
  show Ending.returned (.bool (r == 0)) = _
  rw [e4, e3]
end Go.Proofs.YtflgngjocgiojaaGreat
namespace Go.Proofs.YtflgngjocgiojaaGreat
open Go.RowKit

theorem RatAt.below {w w' : World} {v : Value} {p q : Int} (h : RatAt w v p q) (hb : Below w.heap.size w w') : RatAt w' v p q := by
 obtain ⟨s1, A1, n1, c1, s2, A2, n2, c2, e, h1, h2⟩ := h
 exact ⟨s1, A1, n1, c1, s2, A2, n2, c2, e, h1.below hb, h2.below hb⟩
set_option maxRecDepth 100000 in
set_option maxHeartbeats 2000000 in
theorem ratio_Sign {w : World} {v1 : Value} {p q : Int} (h : RatAt w v1 p q) (hg : goodQ p q = true) : Calls Tryz.prog 24 #[v1] w fun r w' => r = .returned (.int .i64 (ordI p 0)) ∧ Below w.heap.size w w' := by
 obtain ⟨o, ho⟩ : ∃ z, ordI p 0 = z := ⟨_, rfl⟩
 rw [ho]
 have H := Lib.hid h
 obtain ⟨s1, A1, n1, c1, s2, A2, n2, c2, rfl, h1, h2⟩ := h
 have G1 := Lib.hid h1
 have HO := Lib.hid (And.intro ho hg)
 clear h1 h2 ho hg
 have hW := (Below.refl w.heap.size w).alloc (Nat.le_refl _) (.cells #[.bool s1, .slice A1 n1 c1, .bool s2, .slice A2 n2 c2] 37)
 have o1 : Own (w.alloc (.cells #[.bool s1, .slice A1 n1 c1, .bool s2, .slice A2 n2 c2] 37)) w.heap.size #[.bool s1, .slice A1 n1 c1, .bool s2, .slice A2 n2 c2] := (by repeat' (first | ((refine Own.new ?_); (focus (first | rfl | omega | (simp; done) | (simp; omega)))) | assumption | refine Own.alloc ?_ _ | refine Own.drew ?_ | (refine Own.far ?_ ?_ _; rotate_left; (focus (first | rfl | omega | (simp; done) | (simp; omega))))))
 go_enter Tryz.func24, Tryz.ntmps24
 go_wp2_with fail
 generalize (w.alloc (.cells #[.bool s1, .slice A1 n1 c1, .bool s2, .slice A2 n2 c2] 37)) = W0 at *
 have qq := ratio_Right (H.out.below hW)
 rw [HO.out.2] at qq
 refine Calls.mono qq ?_
 clear qq
 rintro e u1 ⟨rfl, hb⟩
 have hw1 := hW.trans (hb.mono hW.size)
 have o2 := o1.below hb
 have K1 := Lib.hid (G1.out.below hw1)
 clear hb o1 hW
 go_wp2
 refine region_late 4 [] (by kernel_rfl) (by kernel_rfl) (by rfl) ?_
 apply Exists.intro
 refine ⟨fun v hv hne => ?_, fun u hu => ?_⟩
 ·simp only [List.take_succ_cons, List.take_zero]
  have d1 := fun y => (o2.later (v := v) (T := []) (by simp) y).cell
  have L1 := fun x : Later [] u1 v => NumAt.keeps K1.out x.h
  repeat (go_big_quiet_step (first | (go_at_call 63; with_reducible exact lateB ratio_zero) | (go_at_call 26; with_reducible exact lateB (cmp_zero HO.out.1 (L1 _)))))
  refine wpQuiet_nil ?_
  exact rfl
 simp only [List.drop_succ_cons, List.drop_zero]
 refine late_mem (fun K hK => ?_)
 go_simp
 refine hK _ _ (Keeps.of_below hu) (fun u3 hu3 => ?_)
 clear hK K
 refine late_nil ?_
 (try simp only [Act.put, List.setIfInBounds_toArray, List.set_cons_zero, List.set_cons_succ])
 have hw3 := (hw1.trans (hu.mono hw1.size)).trans (hu3.mono (by have := hu.size; have := hw1.size; omega))
 go_wp2
 go_ret
 exact ⟨rfl, hw3⟩
end Go.Proofs.YtflgngjocgiojaaGreat
namespace Go.Proofs.YtflgngjocgiojaaGreat
open Go.RowKit

/-- A product and whether it fits. -/
def prodV (z : Int) (b : Nat) : Value := .agg #[.bool (sgnN z), slN z b, .bool (fits z)]
def RetP (w : World) (z : Int) (r : Ending) (w' : World) : Prop := (∃ b, r = .returned (prodV z b) ∧ NumO w' b z ∧ w.heap.size ≤ b ∧ b < w'.heap.size) ∧ Below w.heap.size w w'
set_option maxRecDepth 100000 in
set_option maxHeartbeats 2000000 in
theorem ratio_times {w : World} {v1 v2 : Value} {z1 z2 : Int} (h1 : NumAt w v1 z1) (h2 : NumAt w v2 z2) : Calls Tryz.prog 73 #[v1, v2] w (RetP w (z1 * z2)) := by
 obtain ⟨z, hz⟩ : ∃ z, z1 * z2 = z := ⟨_, rfl⟩
 rw [hz]
 have G1 := Lib.hid h1
 have G2 := Lib.hid h2
 obtain ⟨r1, k1⟩ := h1.raw
 obtain ⟨r2, k2⟩ := h2.raw
 obtain ⟨A1, n1, c1, rfl, hc1, hm1, hl1, d1⟩ := h1
 obtain ⟨A2, n2, c2, rfl, hc2, hm2, hl2, d2⟩ := h2
 obtain ⟨s1, hs1⟩ : ∃ s, decide (z1 < 0) = s := ⟨_, rfl⟩
 obtain ⟨s2, hs2⟩ : ∃ s, decide (z2 < 0) = s := ⟨_, rfl⟩
 rw [hs1] at r1 k1 G1 ⊢
 rw [hs2] at r2 k2 G2 ⊢
 have H := Lib.hid (And.intro hz (And.intro hs1 hs2))
 have D1 := Lib.hid d1
 have D2 := Lib.hid d2
 have R1 := Lib.hid (And.intro r1 k1)
 have R2 := Lib.hid (And.intro r2 k2)
 clear hz hs1 hs2 d1 d2 r1 k1 r2 k2
 go_enter Tryz.func73, Tryz.ntmps73
 have hW := ((((Below.refl w.heap.size w).alloc (Nat.le_refl _) (.cells #[.bool s1, .slice A1 n1 c1] 35)).alloc (by simp) (.cells #[.bool s2, .slice A2 n2 c2] 35)).alloc (by simp; omega) (.cells #[.bool false, .slice none 0 0, .bool false] 113))
 go_wp2_with fail
 have o6 : Own (((w.alloc (.cells #[.bool s1, .slice A1 n1 c1] 35)).alloc (.cells #[.bool s2, .slice A2 n2 c2] 35)).alloc (.cells #[.bool false, .slice none 0 0, .bool false] 113)) (w.heap.size + 1 + 1) #[.bool false, .slice none 0 0, .bool false] := (by repeat' (first | ((refine Own.new ?_); (focus (first | rfl | omega | (simp; done) | (simp; omega)))) | assumption | refine Own.alloc ?_ _ | refine Own.drew ?_ | (refine Own.far ?_ ?_ _; rotate_left; (focus (first | rfl | omega | (simp; done) | (simp; omega))))))
 generalize (((w.alloc (.cells #[.bool s1, .slice A1 n1 c1] 35)).alloc (.cells #[.bool s2, .slice A2 n2 c2] 35)).alloc (.cells #[.bool false, .slice none 0 0, .bool false] 113)) = W0 at *
 have q := num_Mul (G1.out.below hW) (G2.out.below hW)
 rw [H.out.1] at q
 refine Calls.mono q ?_
 rintro e u1 ⟨⟨b, rfl, g2, g3, g1⟩, hb⟩
 obtain ⟨A9, n9, c9, hsl⟩ := slN_form z b
 simp only [numV]
 rw [hsl]
 obtain ⟨ok, hok⟩ : ∃ s, fits z = s := ⟨_, rfl⟩
 rw [hok]
 have HSL := Lib.hid (And.intro hsl hok)
 have hk := (Below.refl u1.heap.size u1).alloc (Nat.le_refl _) (.cells #[.bool (sgnN z), .slice A9 n9 c9] 35)
 have hbz := hb.size
 have HB := Lib.hid (And.intro (Nat.lt_of_lt_of_le o6.lt g2) (And.intro g3 (g1.below hk)))
 have hw := hW.trans ((hb.trans (hk.mono hbz)).mono hW.size)
 have p2 := (o6.below hb).below hk
 have p2c := p2.cell
 have p2f := p2.thaw
 have p2z := p2.lt
 clear hsl hok g1 g2 g3 hk hb
 go_wp2
 refine retC (b := w.heap.size + 1 + 1) (v := .agg #[.bool (sgnN z), .slice A9 n9 c9, .bool ok]) (((p2.set 0 _).set 1 _).set 2 _) (fun w' hw' => by simp [results, Tryz.results73, go_sem, hw']) rfl ⟨⟨b, by rw [prodV, HSL.out.1, HSL.out.2], ((HB.out.2.2.far (p := ⟨w.heap.size + 1 + 1, 0, none⟩) (by simp; have := HB.out.1; omega) _).far (p := ⟨w.heap.size + 1 + 1, 1, none⟩) (by simp; have := HB.out.1; omega) _).far (p := ⟨w.heap.size + 1 + 1, 2, none⟩) (by simp; have := HB.out.1; omega) _, by have := HB.out.1; omega, by have := HB.out.2.1; simp; omega⟩, ((hw.setCell (by simp; omega) _).setCell (by simp; omega) _).setCell (by simp; omega) _⟩
end Go.Proofs.YtflgngjocgiojaaGreat
namespace Go.Proofs.YtflgngjocgiojaaGreat
open Go.RowKit

def rnE (σ : Nat → Nat) (e : Edge) : Edge := { e with on := σ e.on }
def rnO (σ : Nat → Nat) (o : Oper) : Oper := { o with after := o.after.map (rnE σ), guard := o.guard.map fun g => (σ g.1, g.2) }
section
variable {P : Program} {ops ops' : Array Oper} {σ : Nat → Nat} {md : Region.Mode}
theorem wp_rn {Q : Exit → Act → World → Prop} {K : Act → World → Prop} {a : Act} {w : World} (o : Oper) : (rnO σ o).wp P a w K Q = o.wp P a w K Q := rfl
theorem mem_ready {listed : Array Bool} {i : Nat} : i ∈ Region.ready md ops listed ↔ listed.getD i true = false ∧ ∃ o, ops[i]? = some o ∧ ∀ e ∈ o.after, Region.binds md e = true → listed.getD e.on false = true := by
 unfold Region.ready
 rw [List.mem_filter, List.mem_range, Bool.and_eq_true]
 constructor
 ·rintro ⟨h1, h2, h3⟩
  have ho : ops[i]? = some ops[i] := Array.getElem?_eq_getElem h1
  refine ⟨by simpa using h2, _, ho, fun e he hb => ?_⟩
  rw [ho] at h3
  simp only [Option.map_some, Option.getD_some] at h3
  have q := Array.all_eq_true'.1 h3 e he
  simpa [hb] using q
 ·rintro ⟨h1, o, ho, h2⟩
  refine ⟨(Array.getElem?_eq_some_iff.1 ho).1, by simpa using h1, ?_⟩
  rw [ho]
  simp only [Option.map_some, Option.getD_some]
  rw [Array.all_eq_true']
  intro e he
  cases hb : Region.binds md e with
  | false => simp
  | true => simpa using h2 e he hb
/-- ops' holds the operations of ops, number i at place σ i. -/
structure Perm (ops ops' : Array Oper) (σ : Nat → Nat) : Prop where
 size : ops'.size = ops.size
 lt : ∀ i, i < ops.size → σ i < ops.size
 inj : ∀ i j, i < ops.size → j < ops.size → σ i = σ j → i = j
 on : ∀ j, j < ops.size → ∃ i, i < ops.size ∧ σ i = j
 at_ : ∀ (i : Nat) (o : Oper), ops[i]? = some o → ops'[σ i]? = some (rnO σ o)
 edge : ∀ (i : Nat) (o : Oper), ops[i]? = some o → ∀ e ∈ o.after, e.on < ops.size
 guard : ∀ (i : Nat) (o : Oper), ops[i]? = some o → ∀ g, o.guard = some g → g.1 < ops.size
theorem Perm.yielded (p : Perm ops ops' σ) {t : Array Value} {j : Nat} (hj : j < ops.size) : yielded ops' t (σ j) = yielded ops t j := by
 have ho : ops[j]? = some ops[j] := Array.getElem?_eq_getElem hj
 unfold Go.yielded
 rw [p.at_ j _ ho, ho]
 rfl
theorem Perm.wanted (p : Perm ops ops' σ) {t : Array Value} {i : Nat} {o : Oper} (ho : ops[i]? = some o) : Region.wanted (rnO σ o) (Go.yielded ops' t) = Region.wanted o (Go.yielded ops t) := by
 unfold Region.wanted rnO
 cases hg : o.guard with
 | none => rfl
 | some g =>
  obtain ⟨j, b⟩ := g
  simp only [Option.map_some]
  rw [p.yielded (p.guard i o ho _ hg)]
theorem Perm.ready (p : Perm ops ops' σ) {listed listed' : Array Bool} (h : ∀ i, i < ops.size → listed'[σ i]? = listed[i]?) {i : Nat} (hi : i < ops.size) :
  σ i ∈ Region.ready md ops' listed' ↔ i ∈ Region.ready md ops listed := by
 have ho : ops[i]? = some ops[i] := Array.getElem?_eq_getElem hi
 have gd : ∀ j d, j < ops.size → listed'.getD (σ j) d = listed.getD j d := fun j d hj => by
  rw [Array.getD_eq_getD_getElem?, Array.getD_eq_getD_getElem?, h j hj]
 rw [mem_ready, mem_ready, gd i true hi]
 refine and_congr_right fun _ => ?_
 constructor
 ·rintro ⟨o', ho', he⟩
  rw [p.at_ i _ ho] at ho'
  cases ho'
  refine ⟨_, ho, fun e hm hb => ?_⟩
  have q := he (rnE σ e) (Array.mem_map.2 ⟨e, hm, rfl⟩) hb
  exact (gd e.on false (p.edge i _ ho e hm)).symm.trans q
 ·rintro ⟨o, ho2, he⟩
  refine ⟨_, p.at_ i o ho2, fun e' hm hb => ?_⟩
  obtain ⟨e, hm2, rfl⟩ := Array.mem_map.1 hm
  exact (gd e.on false (p.edge i o ho2 e hm2)).trans (he e hm2 hb)
theorem ready_lt {listed : Array Bool} {i : Nat} (h : i ∈ Region.ready md ops listed) : i < ops.size := by
 obtain ⟨_, o, ho, _⟩ := mem_ready.1 h
 exact (Array.getElem?_eq_some_iff.1 ho).1
theorem Perm.empty (p : Perm ops ops' σ) {listed listed' : Array Bool} (h : ∀ i, i < ops.size → listed'[σ i]? = listed[i]?) :
  Region.ready md ops' listed' = [] ↔ Region.ready md ops listed = [] := by
 constructor
 ·intro e
  rw [List.eq_nil_iff_forall_not_mem]
  intro i hi
  have := (p.ready h (ready_lt hi)).2 hi
  rw [e] at this
  cases this
 ·intro e
  rw [List.eq_nil_iff_forall_not_mem]
  intro j hj
  have hl := ready_lt hj
  rw [p.size] at hl
  obtain ⟨i, hi, rfl⟩ := p.on j hl
  have := (p.ready h hi).1 hj
  rw [e] at this
  cases this
theorem perm_main {Q : Exit → Act → World → Prop} (p : Perm ops ops' σ) : ∀ (fuel : Nat) (listed listed' : Array Bool) (a : Act) (w : World), listed.size = ops.size → listed'.size = ops.size →
  (∀ i, i < ops.size → listed'[σ i]? = listed[i]?) → wpAny P md ops' Q fuel listed' a w → wpAny P md ops Q fuel listed a w := by
 intro fuel
 induction fuel with
 | zero =>
  intro listed listed' a w h1 h2 h hw
  exact ⟨(p.empty h).1 hw.1, hw.2⟩
 | succ fuel ih =>
  intro listed listed' a w h1 h2 h hw
  refine ⟨fun e => hw.1 ((p.empty h).2 e), fun i hi => ?_⟩
  have hil := ready_lt hi
  have ho : ops[i]? = some ops[i] := Array.getElem?_eq_getElem hil
  have q := hw.2 (σ i) ((p.ready h hil).2 hi)
  have step : ∀ a w, wpAny P md ops' Q fuel (listed'.setIfInBounds (σ i) true) a w → wpAny P md ops Q fuel (listed.setIfInBounds i true) a w := fun a w hk =>
   ih _ _ a w (by simpa using h1) (by simpa using h2) (fun j hj => by
    rw [Array.getElem?_setIfInBounds, Array.getElem?_setIfInBounds]
    by_cases e : i = j
    ·subst e
     have := p.lt i hj
     rw [if_pos rfl, if_pos rfl, if_pos (by omega), if_pos (by omega)]
    ·rw [if_neg (fun e2 => e (p.inj i j hil hj e2)), if_neg e]
     exact h j hj) hk
  unfold wpOp at q ⊢
  rw [p.at_ i _ ho] at q
  rw [ho]
  simp only [] at q ⊢
  rw [p.wanted ho] at q
  by_cases hwt : Region.wanted ops[i] (Go.yielded ops a.tmps) = true
  ·rw [if_pos hwt] at q ⊢
   rw [wp_rn] at q
   rcases q with q | ⟨q1, q2⟩
   ·exact .inl (Oper.wp_mono step q)
   ·exact .inr ⟨q1, q2⟩
  ·rw [if_neg hwt] at q ⊢
   exact step _ _ q
end
def noOper : Oper := { dst := none, op := .move (.const undef), type := 0, pos := "", after := #[], guard := none }
def tab (τ : List Nat) (j : Nat) : Nat := τ.getD j j
def pickO (σ : Nat → Nat) : Option Oper → Oper
 | some o => rnO σ o
 | none => noOper
def permOps (l : List Oper) (π τ : List Nat) : List Oper := π.map fun i => pickO (tab τ) l[i]?
def permFit (l : List Oper) (π τ : List Nat) : Bool :=
 decide (π.length = l.length) && decide (τ.length = l.length) && ((List.range l.length).all fun i => decide (tab τ i < l.length) && decide (π[tab τ i]? = some i)) &&
 ((List.range l.length).all fun j => decide (π.getD j l.length < l.length) && decide (tab τ (π.getD j l.length) = j)) &&
 (l.all fun o => (o.after.all fun e => decide (e.on < l.length)) && (match o.guard with | none => true | some g => decide (g.1 < l.length)))
theorem perm_of {l : List Oper} {π τ : List Nat} (h : permFit l π τ = true) : Perm l.toArray (permOps l π τ).toArray (tab τ) := by
 simp only [permFit, Bool.and_eq_true, decide_eq_true_eq, List.all_eq_true, List.mem_range] at h
 obtain ⟨⟨⟨⟨h1, h2⟩, h3⟩, h4⟩, h5⟩ := h
 refine ⟨by simp [permOps, h1], fun i hi => by have := h3 i (by simpa using hi); simpa using this.1, fun i j hi hj e => ?_, fun j hj => ?_, fun i o ho => ?_, fun i o ho e he => ?_, fun i o ho g hg => ?_⟩
 ·have q1 := (h3 i (by simpa using hi)).2
  have q2 := (h3 j (by simpa using hj)).2
  rw [e, q2] at q1
  exact (Option.some.inj q1).symm
 ·have q := h4 j (by simpa using hj)
  exact ⟨_, by simpa using q.1, q.2⟩
 ·have hi : i < l.length := by have := (Array.getElem?_eq_some_iff.1 ho).1; simpa using this
  have q := (h3 i hi).2
  have ho' : l[i]? = some o := by simpa using ho
  simp only [permOps, List.getElem?_toArray, List.getElem?_map, q, Option.map_some, ho', pickO]
 ·have ho' : l[i]? = some o := by simpa using ho
  have q := (h5 o (List.mem_of_getElem? ho')).1
  have := Array.all_eq_true'.1 q e he
  simpa using this
 ·have ho' : l[i]? = some o := by simpa using ho
  have q := (h5 o (List.mem_of_getElem? ho')).2
  rw [hg] at q
  simpa using q
section
variable {P : Program} {T : List Nat} {w : World} {Q : Exit → Act → World → Prop}
theorem region_gen_any {a : Act} {l : List Oper} (cs : List (Cut T)) (c ns N : Nat) (Ph : Nat → World → Prop) (hPB : ∀ k u u', Ph k u → Below u.heap.size u u' → Ph k u') (hP0 : Ph 0 w)
  (hB : genFit l (kdAt [] 0 cs) c ns N = true) (hp : cutsOk l c a.tmps.size 0 cs = true)
  (h : genWalk P l T w Ph (kdAt [] 0 cs) c 0 0 [] cs (fun _ => a) (fun A => ∀ f u', Upd T w u' → Ph ns u' → (∀ m, m < c → (kdAt [] 0 cs m).isMake = true → Made T w (kdAt [] 0 cs) f m u') →
   (∀ m m', m < c → m' < c → (kdAt [] 0 cs m).isMake = true → (kdAt [] 0 cs m').isMake = true → m ≠ m' → (f m).1 ≠ (f m').1) → effChain P l.toArray T w (Q .normal) (l.drop c) (A f) u')) : wpAny P .any l.toArray Q l.toArray.size (Array.replicate l.toArray.size false) a w.drew := by
 obtain ⟨F, hcl⟩ := genFit_of hB
 obtain ⟨va, Af, hK, hY, hloc⟩ := gen_walk (P := P) (w := w) (Ph := Ph) (kd := kdAt [] 0 cs) hcl a.tmps.size cs 0 0 [] (fun _ => a) _ hp (fun _ => rfl) (fun _ _ _ => rfl) h
 have hw0 : Below w.heap.size w w.drew := (Below.refl _ _).drew
 have hlen : (List.range' 0 (c - 0)).length = c := by simp
 refine gen_main (P := P) (T := T) (w := w) (Q := Q) (va := fun f i => if i < c then va f i else undef) F hPB (fun f f' i hnm hn => ?_) l.toArray.size (List.range' 0 (c - 0)) (l.drop c) c (Array.replicate l.toArray.size false) a w.drew 0 (fun _ => True)
  (by rw [hlen]; simp; omega) (by simp) (by simp; omega) (Nat.le_refl _) (fun i => by rw [List.getElem?_drop]; simp) List.pairwise_lt_range'
  (fun i hi => by have := List.mem_range'_1.1 hi; simp; omega)
  (fun i hi => by
   have hi' : i < l.length := by simpa using hi
   rw [List.mem_range'_1]
   simp [hi']
   omega)
  (fun i o _ hi => by
   rw [Array.getD_eq_getD_getElem?, Array.getElem?_replicate] at hi
   split at hi <;> simp at hi)
  ⟨fun _ => (0, 0), trivial⟩ (fun _ _ _ _ _ => trivial) (fun f f' _ _ m h1 _ h3 => absurd (List.mem_range'_1.2 (by omega)) h3) (fun f _ => ?_) (Keeps.of_below hw0)
  (fun i n hi _ _ => ⟨fun _ => Nat.zero_le _, fun _ => List.mem_range'_1.2 (by omega)⟩) (Nat.zero_le _)
  (.inl ⟨rfl, hPB _ _ _ hP0 hw0, fun f _ m h1 _ h3 => absurd (List.mem_range'_1.2 (by omega)) h3, fun f _ m m' h1 _ _ _ h3 _ => absurd (List.mem_range'_1.2 (by omega)) h3, fun f _ u' h1 h2 h3 h4 => ?_⟩)
 ·by_cases hi : i < c
  ·rw [if_pos hi, if_pos hi]; exact hloc f f' i (by omega) hi hnm hn
  ·rw [if_neg hi, if_neg hi]
 ·have e : (List.range' 0 (c - 0)).map (fun i => if i < c then va f i else undef) = (List.range' 0 (c - 0)).map (va f) := List.map_congr_left (fun x hx => by have := List.mem_range'_1.1 hx; exact if_pos (by omega))
  rw [e]; exact (hY f).1
 ·have e : (List.range' 0 (c - 0)).map (fun i => if i < c then va f i else undef) = (List.range' 0 (c - 0)).map (va f) := List.map_congr_left (fun x hx => by have := List.mem_range'_1.1 hx; exact if_pos (by omega))
  rw [e, (hY f).2]
  exact hK f u' ((Upd.of_below hw0).trans h1) h2 h3 h4
/-- As region_gen, with the operations in the order π (operation number i has place τ i). -/
theorem region_genp {id : Nat} {a : Act} {l : List Oper} (π τ : List Nat) (l' : List Oper) (hl : permOps l π τ = l') (hf : permFit l π τ = true) (cs : List (Cut T)) (c ns N : Nat) (Ph : Nat → World → Prop) (hPB : ∀ k u u', Ph k u → Below u.heap.size u u' → Ph k u') (hP0 : Ph 0 w)
  (hm : P.follows .mixedOrders = true) (hB : genFit l' (kdAt [] 0 cs) c ns N = true) (hp : cutsOk l' c a.tmps.size 0 cs = true)
  (h : genWalk P l' T w Ph (kdAt [] 0 cs) c 0 0 [] cs (fun _ => a) (fun A => ∀ f u', Upd T w u' → Ph ns u' → (∀ m, m < c → (kdAt [] 0 cs m).isMake = true → Made T w (kdAt [] 0 cs) f m u') →
   (∀ m m', m < c → m' < c → (kdAt [] 0 cs m).isMake = true → (kdAt [] 0 cs m').isMake = true → m ≠ m' → (f m).1 ≠ (f m').1) → effChain P l'.toArray T w (Q .normal) (l'.drop c) (A f) u')) : (Code.region id l.toArray true).wp P Q a w := by
 subst hl
 have p := perm_of hf
 refine wp_region_any hm ?_
 have q := region_gen_any cs c ns N Ph hPB hP0 hB hp h
 rw [p.size] at q
 refine perm_main p _ _ _ _ _ (by simp) (by simp) (fun i hi => ?_) q
 have := p.lt i hi
 rw [Array.getElem?_replicate, Array.getElem?_replicate, if_pos this, if_pos hi]
end
end Go.Proofs.YtflgngjocgiojaaGreat
namespace Go.Proofs.YtflgngjocgiojaaGreat
open Go.RowKit

section
variable {P : Program} {T : List Nat} {w : World} {Q : Exit → Act → World → Prop}
theorem region_sinkp {id : Nat} {a : Act} {l : List Oper} (π τ : List Nat) (l' : List Oper) (hl : permOps l π τ = l') (hf : permFit l π τ = true) (n : Nat) (T : List Nat) (hm : P.follows .mixedOrders = true) (hB : lateFit l' n (l'.length - n) = true) (hp : placesFit (l'.take n) a.tmps.size = true)
  (h : ∃ A, (∀ v, Keeps T w v → Nonempty (Later T w v) → wpQuiet P l'.toArray (fun w' => ∃ x : Later T w v, w' = x.u) (fun a' => a' = A) (l'.take n) a) ∧
   (∀ u, Below w.heap.size w u → wpSink P l'.toArray n true T w (Q .normal) (l'.drop n) A u)) : (Code.region id l.toArray true).wp P Q a w := by
 subst hl
 have p := perm_of hf
 refine wp_region_any hm ?_
 have hnl : n + ((permOps l π τ).length - n) ≤ (permOps l π τ).length := by simp only [lateFit, Bool.and_eq_true, decide_eq_true_eq] at hB; exact hB.2
 have e1 : (permOps l π τ).drop (n + ((permOps l π τ).length - n)) = [] := List.drop_eq_nil_of_le (by omega)
 have e2 : ((permOps l π τ).drop n).take ((permOps l π τ).length - n) = (permOps l π τ).drop n := List.take_of_length_le (by simp)
 have e3 : (n + ((permOps l π τ).length - n) == (permOps l π τ).length) = true := by simp; omega
 have q := sink_any (P := P) (w := w) (Q := Q) (a := a) (l := permOps l π τ) n ((permOps l π τ).length - n) T hB (by rw [e1, List.append_nil]; exact hp) (by rw [e1, List.append_nil, e2, e3]; exact h)
 rw [p.size] at q
 refine perm_main p _ _ _ _ _ (by simp) (by simp) (fun i hi => ?_) q
 have := p.lt i hi
 rw [Array.getElem?_replicate, Array.getElem?_replicate, if_pos this, if_pos hi]
end
end Go.Proofs.YtflgngjocgiojaaGreat
