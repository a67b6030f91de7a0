/- Ratio: times. -/
import Derived.Test.YtflgngjocgiojaaGreatRatA
namespace Go.Proofs.YtflgngjocgiojaaGreat
open Go.RowKit

theorem NumAt.keeps {w u : World} {v : Value} {z : Int} (h : NumAt w v z) (hk : Keeps [] w u) : NumAt u v z := by
 obtain ⟨A, n, c, e, h1, h2, h3, h4⟩ := h
 exact ⟨A, n, c, e, h1, h2, h3, h4.keeps hk⟩
set_option maxRecDepth 100000 in
set_option maxHeartbeats 2000000 in
theorem ratio_minus {w : World} {v1 : Value} {z1 : Int} (h1 : NumAt w v1 z1) : Calls Tryz.prog 64 #[v1] w (RetV w (-z1)) := by
 obtain ⟨z, hz⟩ : ∃ z, -z1 = z := ⟨_, rfl⟩
 rw [hz]
 have G1 := Lib.hid h1
 have HZ := Lib.hid hz
 obtain ⟨A1, n1, c1, rfl, hc1, hm1, hl1, d1⟩ := h1
 obtain ⟨s1, hs1⟩ : ∃ s, decide (z1 < 0) = s := ⟨_, rfl⟩
 rw [hs1] at G1 ⊢
 have HF : Hid (fits z = true) := Lib.hid (fits_le (by omega) (NumAt.fits G1.out))
 clear hz hs1 d1
 have hW := ((Below.refl w.heap.size w).alloc (Nat.le_refl _) (.cells #[.bool s1, .slice A1 n1 c1] 35)).alloc (by simp) (.cells #[.bool false, .slice none 0 0] 35)
 have o1 : Own ((w.alloc (.cells #[.bool s1, .slice A1 n1 c1] 35)).alloc (.cells #[.bool false, .slice none 0 0] 35)) w.heap.size #[.bool s1, .slice A1 n1 c1] := (by repeat' (first | ((refine Own.new ?_); (focus (first | rfl | omega | (simp; done) | (simp; omega)))) | assumption | refine Own.alloc ?_ _ | refine Own.drew ?_ | (refine Own.far ?_ ?_ _; rotate_left; (focus (first | rfl | omega | (simp; done) | (simp; omega))))))
 have o2 : Own ((w.alloc (.cells #[.bool s1, .slice A1 n1 c1] 35)).alloc (.cells #[.bool false, .slice none 0 0] 35)) (w.heap.size + 1) #[.bool false, .slice none 0 0] := (by repeat' (first | ((refine Own.new ?_); (focus (first | rfl | omega | (simp; done) | (simp; omega)))) | assumption | refine Own.alloc ?_ _ | refine Own.drew ?_ | (refine Own.far ?_ ?_ _; rotate_left; (focus (first | rfl | omega | (simp; done) | (simp; omega))))))
 go_enter Tryz.func64, Tryz.ntmps64
 go_wp2
 generalize ((w.alloc (.cells #[.bool s1, .slice A1 n1 c1] 35)).alloc (.cells #[.bool false, .slice none 0 0] 35)) = W0 at *
 have hz0 := hW.size
 have o2l := o2.lt
 refine region_gen (T := []) [.make 2 [] (numB _ z), .need 3 [2], .need 5 [], .make 6 [] (ownB [] #[.bool false, .slice none 0 0] (fun p => .pointer (some ⟨p, 0, none⟩)))] 7 0 40 (fun _ _ => True) (fun _ _ _ _ _ => trivial) trivial (by kernel_rfl) (by kernel_rfl) (by rfl) ?_
 unfold genWalk
 apply Exists.intro
 apply And.intro
 ·apply Piece.mk
  ·intro f v hv hr hne
   simp only [List.take_succ_cons, List.take_zero, List.drop_zero, Nat.reduceSub]
   have d1 := fun y => (o1.later (v := v) (T := []) (by simp) y).cell
   repeat (go_big_quiet_step ((go_at_call 63; with_reducible exact lateB ratio_zero)))
   refine wpQuiet_nil ?_
   exact rfl
  ·intro f; kernel_rfl
  ·intro f f' hf; kernel_rfl
 simp only [List.take_succ_cons, List.take_zero, List.drop_succ_cons, List.drop_zero, Nat.reduceAdd, oneOp]
 refine ⟨fun f => ⟨rfl, fun u hu _ => ?_⟩, ?_⟩
 ·refine make_call (f := 104) (args := #[zeroN, .agg #[.bool s1, .slice A1 n1 c1]]) (by (try simp only [Act.put, List.setIfInBounds_toArray, List.set_cons_zero, List.set_cons_succ]); (try simp only [newB_val, numB_val, ownB_val]); go_simp) ?_
  have q := num_Sub (w := u) (num_zero u) (G1.out.keeps (Keeps.of_below hW |>.more hu (by simp)))
  rw [Int.zero_sub, HZ.out] at q
  refine q.mono ?_
  rintro e wx ⟨⟨b, rfl, q1, q2, q3⟩, hbx⟩
  exact ⟨(b, 0), rfl, q1, q2, hbx, by simp, q3⟩
 unfold genWalk
 apply Exists.intro
 apply And.intro
 ·apply Piece.mk
  ·intro f v hv hr hne
   simp only [List.take_zero, List.drop_succ_cons, List.drop_zero, Nat.reduceSub]
   (try simp only [Act.put, List.setIfInBounds_toArray, List.set_cons_zero, List.set_cons_succ])
   (try simp only [numB_val])
   repeat (go_big_quiet_step (fail))
   refine wpQuiet_nil ?_
   exact rfl
  ·intro f; kernel_rfl
  ·intro f f' hf; simp
 unfold genWalk
 apply Exists.intro
 apply And.intro
 ·apply Piece.mk
  ·intro f v hv hr hne
   simp only [List.take_succ_cons, List.take_zero, List.drop_succ_cons, List.drop_zero, Nat.reduceSub]
   (try simp only [Act.put, List.setIfInBounds_toArray, List.set_cons_zero, List.set_cons_succ])
   (try simp only [newB_val, numB_val, ownB_val])
   repeat (go_big_quiet_step (fail))
   refine wpQuiet_nil ?_
   exact rfl
  ·intro f; kernel_rfl
  ·intro f f' hf; first | (simp; done) | (simp [hf 2 (by simp)])
 unfold genWalk
 apply Exists.intro
 apply And.intro
 ·apply Piece.mk
  ·intro f v hv hr hne
   simp only [List.take_succ_cons, List.take_zero, List.drop_succ_cons, List.drop_zero, Nat.reduceSub]
   (try simp only [Act.put, List.setIfInBounds_toArray, List.set_cons_zero, List.set_cons_succ])
   (try simp only [newB_val, numB_val, ownB_val])
   repeat (go_big_quiet_step (fail))
   refine wpQuiet_nil ?_
   exact rfl
  ·intro f; kernel_rfl
  ·intro f f' hf; simp
 simp only [List.take_succ_cons, List.take_zero, List.drop_succ_cons, List.drop_zero, Nat.reduceAdd, oneOp]
 refine ⟨fun f => ⟨rfl, fun u hu _ => ?_⟩, ?_⟩
 ·refine make_own (e := 35) (by (try simp only [Act.put, List.setIfInBounds_toArray, List.set_cons_zero, List.set_cons_succ]); (try simp only [newB_val, numB_val, ownB_val]); go_simp) (by simp)
 unfold genWalk
 apply Exists.intro
 apply And.intro
 ·apply Piece.mk
  ·intro f v hv hr hne
   simp only [List.take_zero, List.drop_succ_cons, List.drop_zero, Nat.reduceSub]
   (try simp only [Act.put, List.setIfInBounds_toArray, List.set_cons_zero, List.set_cons_succ])
   (try simp only [ownB_val])
   repeat (go_big_quiet_step (fail))
   refine wpQuiet_nil ?_
   exact rfl
  ·intro f; kernel_rfl
  ·intro f f' hf; simp
 intro f u' hup hph hmade hdist
 obtain ⟨⟨_, oN⟩, loN, hiN⟩ := hmade 2 (by omega) rfl
 obtain ⟨⟨_, o3⟩, lo3, hi3⟩ := hmade 6 (by omega) rfl
 have hne := hdist 2 6 (by omega) (by omega) rfl rfl (by omega)
 replace oN : NumO u' (f 2).1 z := oN
 replace o3 : Own u' (f 6).1 #[.bool false, .slice none 0 0] := o3
 clear hmade hdist hph
 simp only
 (try simp only [Act.put, List.setIfInBounds_toArray, List.set_cons_zero, List.set_cons_succ])
 (try simp only [newB_val, numB_val, ownB_val])
 generalize (f 2).1 = b9 at *
 generalize (f 6).1 = b3 at *
 clear f
 have hw1 : Below w.heap.size w u' := Upd.below hW hup (by simp)
 have p2 := o2.upd hup (by simp)
 have hkT := Upd.keeps (Keeps.refl _ _) hup
 obtain ⟨A9, n9, c9, hsl⟩ := slN_form z b9
 simp only [numV]
 rw [hsl]
 have HSL := Lib.hid hsl
 clear hsl o1 o2
 have o3c := o3.cell
 have o3f := o3.thaw
 refine effc_mem (by rfl) (fun K hK => ?_)
 go_simp
 refine hK _ _ ((hkT.new lo3 _).new lo3 _) (fun u1 hu1 => ?_)
 clear hK K
 have hs1 := hu1.size
 simp [World.setCell] at hs1
 have hw2 := ((hw1.setCell (p := ⟨b3, 0, none⟩) (by simp; omega) (.bool (sgnN z))).setCell (p := ⟨b3, 1, none⟩) (by simp; omega) (.slice A9 n9 c9)).trans (hu1.mono (by simp [World.setCell]; exact hw1.size))
 have k3 := ((o3.set 0 (.bool (sgnN z))).set 1 (.slice A9 n9 c9)).below hu1
 have k2 := ((p2.far (p := ⟨b3, 0, none⟩) (by simp; omega) (.bool (sgnN z))).far (p := ⟨b3, 1, none⟩) (by simp; omega) (.slice A9 n9 c9)).below hu1
 have N1 := Lib.hid (And.intro (Nat.lt_of_lt_of_le o2l loN) (And.intro (Nat.lt_of_lt_of_le hiN hs1) (((oN.far (p := ⟨b3, 0, none⟩) (by simp; omega) (.bool (sgnN z))).far (p := ⟨b3, 1, none⟩) (by simp; omega) (.slice A9 n9 c9)).below hu1)))
 have hk1 := ((hkT.new lo3 (.bool (sgnN z)) (p := ⟨b3, 0, none⟩)).new lo3 (.slice A9 n9 c9) (p := ⟨b3, 1, none⟩)).later hu1
 clear o3c o3f o3 p2 oN hkT hu1
 refine effc_mem (by rfl) (fun K hK => ?_)
 go_simp
 refine hK _ _ hk1 (fun u2 hu2 => ?_)
 clear hK K
 refine effc_nil ?_
 (try simp only [Act.put, List.setIfInBounds_toArray, List.set_cons_zero, List.set_cons_succ])
 have hw3 := hw2.trans (hu2.mono hw2.size)
 have j3 := k3.below hu2
 have j2 := k2.below hu2
 have j3c := j3.cell
 have j2c := j2.cell
 have j2f := j2.thaw
 have j2z := j2.lt
 have N2 := Lib.hid (And.intro N1.out.1 (And.intro (Nat.lt_of_lt_of_le N1.out.2.1 hu2.size) (N1.out.2.2.below hu2)))
 clear k3 k2 hk1 hu2 N1
 go_wp2
 refine retC (b := w.heap.size + 1) (v := .agg #[.bool (sgnN z), .slice A9 n9 c9]) ((j2.set 0 _).set 1 _) (fun w' hw' => by simp [results, Tryz.results64, go_sem, hw']) rfl ⟨⟨b9, by rw [numV, HSL.out], (N2.out.2.2.far (p := ⟨w.heap.size + 1, 0, none⟩) (by simp; have := N2.out.1; omega) _).far (p := ⟨w.heap.size + 1, 1, none⟩) (by simp; have := N2.out.1; omega) _, by have := N2.out.1; omega, by have := N2.out.2.1; simp; omega⟩, (hw3.setCell (by simp) _).setCell (by simp) _⟩
end Go.Proofs.YtflgngjocgiojaaGreat
namespace Go.Proofs.YtflgngjocgiojaaGreat
open Go.RowKit

set_option maxRecDepth 100000 in
set_option maxHeartbeats 2000000 in
theorem ratio_right2 {w : World} {b : Nat} {s1 s2 : Bool} {A1 A2 : Option Addr} {n1 n2 c1 c2 : Nat} {z1 z2 : Int} (o : Own w b #[.bool s1, .slice A1 n1 c1, .bool s2, .slice A2 n2 c2]) (h1 : NumAt w (.agg #[.bool s1, .slice A1 n1 c1]) z1) (h2 : NumAt w (.agg #[.bool s2, .slice A2 n2 c2]) z2) :
  Calls Tryz.prog 62 #[.slice (some ⟨b, 0, none⟩) 2 2] w fun r w' => r = .returned (.bool true) ∧ Below w.heap.size w w' := by
 have G1 := Lib.hid h1
 have G2 := Lib.hid h2
 clear h1 h2
 have hW := Below.refl w.heap.size w
 go_enter Tryz.func62, Tryz.ntmps62
 go_wp2
 go_loopw [7] (fun i wr => ∃ k : Nat, k ≤ 2 ∧ i = .int .i64 k ∧ Below w.heap.size w wr) (fun i _ => 2 - (intOf i).toNat)
 case atStart => exact ⟨0, by omega, rfl, hW⟩
 case round =>
  clear hW
  obtain ⟨k, hk, rfl, hW⟩ := hrel
  have p := o.below hW
  have hz := hW.size
  have pc := p.cell
  have pz := p.lt
  have H1 := Lib.hid (NumAt.below G1.out hW)
  have H2 := Lib.hid (NumAt.below G2.out hW)
  by_cases h2 : k = 2
  ·subst h2
   go_wp2
   go_ret
   exact ⟨rfl, hW⟩
  ·by_cases h0 : k = 0
   ·subst h0
    have hA := (Below.refl wr.heap.size wr).alloc (Nat.le_refl _) (.cells #[.bool s1, .slice A1 n1 c1] 35)
    have hWA := hW.trans (hA.mono hz)
    have R := Lib.hid (NumAt.raw (NumAt.below H1.out hA))
    go_wp2_with fail
    have q := num_Right R.out.1
    rw [R.out.2] at q
    refine Calls.mono q ?_
    clear q
    rintro e u ⟨rfl, hb⟩
    have hWB := hWA.trans (hb.mono hWA.size)
    go_wp2
    go_roundw
    case rel => exact ⟨0 + 1, by omega, by go_num, hWB⟩
    case measure => simp [intOf]
   ·obtain rfl : k = 1 := by omega
    have hA := (Below.refl wr.heap.size wr).alloc (Nat.le_refl _) (.cells #[.bool s2, .slice A2 n2 c2] 35)
    have hWA := hW.trans (hA.mono hz)
    have R := Lib.hid (NumAt.raw (NumAt.below H2.out hA))
    go_wp2_with fail
    have q := num_Right R.out.1
    rw [R.out.2] at q
    refine Calls.mono q ?_
    clear q
    rintro e u ⟨rfl, hb⟩
    have hWB := hWA.trans (hb.mono hWA.size)
    go_wp2
    go_roundw
    case rel => exact ⟨1 + 1, by omega, by go_num, hWB⟩
    case measure => simp [intOf]
end Go.Proofs.YtflgngjocgiojaaGreat
namespace Go.Proofs.YtflgngjocgiojaaGreat
open Go.RowKit

/-- v is the pair of numbers p, q. -/
def RatAt (w : World) (v : Value) (p q : Int) : Prop := ∃ s1 A1 n1 c1 s2 A2 n2 c2, v = .agg #[.bool s1, .slice A1 n1 c1, .bool s2, .slice A2 n2 c2] ∧ NumAt w (.agg #[.bool s1, .slice A1 n1 c1]) p ∧ NumAt w (.agg #[.bool s2, .slice A2 n2 c2]) q
def goodQ (p q : Int) : Bool := decide (0 < q) && (Nat.gcd p.natAbs q.natAbs == 1)
theorem cmp_zero {w : World} {v1 : Value} {z1 o : Int} (ho : ordI z1 0 = o) (h1 : NumAt w v1 z1) : Calls Tryz.prog 26 #[v1, zeroN] w fun r w' => r = .returned (.int .i64 o) ∧ Below w.heap.size w w' := by
 have q := num_Cmp h1 (num_zero w)
 rw [ho] at q
 exact q
theorem one_fits : fits 1 = true := fits_small (by decide)
theorem cmp_one {w : World} {v1 v2 : Value} {z1 o : Int} (ho : ordI z1 1 = o) (h1 : NumAt w v1 z1) (h2 : NumAt w v2 1) : Calls Tryz.prog 26 #[v1, v2] w fun r w' => r = .returned (.int .i64 o) ∧ Below w.heap.size w w' := by
 have q := num_Cmp h1 h2
 rw [ho] at q
 exact q
/-- A maker: a number. -/
def valB (T : List Nat) (z : Int) : EBS T where
 val p := numV z p.1
 R p u := p.1 ∉ T ∧ NumO u p.1 z
 st _ _ _ h k := ⟨h.1, fun h1 h2 => (h.2 h1 h2).upd k h.1⟩
theorem valB_val {T : List Nat} {z : Int} {p : Nat × Nat} : (valB T z).val p = numV z p.1 := rfl
set_option maxRecDepth 100000 in
set_option maxHeartbeats 2000000 in
theorem ratio_Right {w : World} {v1 : Value} {p q : Int} (h : RatAt w v1 p q) : Calls Tryz.prog 25 #[v1] w fun r w' => r = .returned (.bool (goodQ p q)) ∧ Below w.heap.size w w' := by
 obtain ⟨ok, hok⟩ : ∃ z, goodQ p q = z := ⟨_, rfl⟩
 rw [hok]
 obtain ⟨s1, A1, n1, c1, s2, A2, n2, c2, rfl, h1, h2⟩ := h
 have G1 := Lib.hid h1
 have G2 := Lib.hid h2
 have HOK := Lib.hid hok
 clear h1 h2 hok
 have hW := (Below.refl w.heap.size w).alloc (Nat.le_refl _) (.cells #[.bool s1, .slice A1 n1 c1, .bool s2, .slice A2 n2 c2] 37)
 have o1 : Own (w.alloc (.cells #[.bool s1, .slice A1 n1 c1, .bool s2, .slice A2 n2 c2] 37)) w.heap.size #[.bool s1, .slice A1 n1 c1, .bool s2, .slice A2 n2 c2] := (by repeat' (first | ((refine Own.new ?_); (focus (first | rfl | omega | (simp; done) | (simp; omega)))) | assumption | refine Own.alloc ?_ _ | refine Own.drew ?_ | (refine Own.far ?_ ?_ _; rotate_left; (focus (first | rfl | omega | (simp; done) | (simp; omega))))))
 have hord := ordI_range q 0
 obtain ⟨o, ho⟩ : ∃ o, ordI q 0 = o := ⟨_, rfl⟩
 rw [ho] at hord
 have HO := Lib.hid (And.intro ho hord)
 clear ho hord
 go_enter Tryz.func25, Tryz.ntmps25
 go_wp2
 generalize (w.alloc (.cells #[.bool s1, .slice A1 n1 c1, .bool s2, .slice A2 n2 c2] 37)) = W0 at *
 refine region_gen (T := []) [.make 4 [] (ownB [] #[.bool s1, .slice A1 n1 c1, .bool s2, .slice A2 n2 c2] (fun p => .slice (some ⟨p, 0, none⟩) 2 2)), .need 5 [4], .need 6 []] 14 0 40 (fun _ _ => True) (fun _ _ _ _ _ => trivial) trivial (by kernel_rfl) (by kernel_rfl) (by rfl) ?_
 unfold genWalk
 apply Exists.intro
 apply And.intro
 ·apply Piece.mk
  ·intro f v hv hr hne
   simp only [List.take_succ_cons, List.take_zero, List.drop_zero, Nat.reduceSub]
   have d1 := fun y => (o1.later (v := v) (T := []) (by simp) y).cell
   repeat (go_big_quiet_step (fail))
   refine wpQuiet_nil ?_
   exact rfl
  ·intro f; kernel_rfl
  ·intro f f' hf; kernel_rfl
 simp only [List.take_succ_cons, List.take_zero, List.drop_succ_cons, List.drop_zero, Nat.reduceAdd, oneOp]
 refine ⟨fun f => ⟨rfl, fun u hu _ => ?_⟩, ?_⟩
 ·refine make_own (e := 35) (by (try simp only [Act.put, List.setIfInBounds_toArray, List.set_cons_zero, List.set_cons_succ]); (try simp only [newB_val, numB_val, ownB_val]); go_simp) (by simp)
 unfold genWalk
 apply Exists.intro
 apply And.intro
 ·apply Piece.mk
  ·intro f v hv hr hne
   simp only [List.take_zero, List.drop_succ_cons, List.drop_zero, Nat.reduceSub]
   (try simp only [Act.put, List.setIfInBounds_toArray, List.set_cons_zero, List.set_cons_succ])
   (try simp only [ownB_val])
   repeat (go_big_quiet_step (fail))
   refine wpQuiet_nil ?_
   exact rfl
  ·intro f; kernel_rfl
  ·intro f f' hf; simp
 unfold genWalk
 apply Exists.intro
 apply And.intro
 ·apply Piece.mk
  ·intro f v hv hr hne
   simp only [List.take_succ_cons, List.take_zero, List.drop_succ_cons, List.drop_zero, Nat.reduceSub]
   (try simp only [Act.put, List.setIfInBounds_toArray, List.set_cons_zero, List.set_cons_succ])
   (try simp only [newB_val, numB_val, ownB_val])
   have h4 : Own v (f 4).1 #[.bool s1, .slice A1 n1 c1, .bool s2, .slice A2 n2 c2] := (hr 4 (by simp)).2
   have k4 := fun x : Later [] W0 v => Own.below h4 x.g
   have L1 := fun x : Later [] W0 v => NumAt.keeps (G1.out.below hW) x.h
   have L2 := fun x : Later [] W0 v => NumAt.keeps (G2.out.below hW) x.h
   repeat (go_big_quiet_step ((go_at_call 62; with_reducible exact lateB (ratio_right2 (k4 _) (L1 _) (L2 _)))))
   refine wpQuiet_nil ?_
   exact rfl
  ·intro f; kernel_rfl
  ·intro f f' hf; first | (simp; done) | (simp [hf 4 (by simp)])
 unfold genWalk
 apply Exists.intro
 apply And.intro
 ·apply Piece.mk
  ·intro f v hv hr hne
   simp only [List.take_succ_cons, List.take_zero, List.drop_succ_cons, List.drop_zero, Nat.reduceSub]
   (try simp only [Act.put, List.setIfInBounds_toArray, List.set_cons_zero, List.set_cons_succ])
   (try simp only [newB_val, numB_val, ownB_val])
   have d1 := fun y => (o1.later (v := v) (T := []) (by simp) y).cell
   have L2 := fun x : Later [] W0 v => NumAt.keeps (G2.out.below hW) x.h
   repeat (go_big_quiet_step (first | (go_at_call 63; with_reducible exact lateB ratio_zero) | (go_at_call 26; with_reducible exact lateB (cmp_zero HO.out.1 (L2 _)))))
   refine wpQuiet_nil ?_
   exact rfl
  ·intro f; kernel_rfl
  ·intro f f' hf; simp
 intro f u' hup hph hmade hdist
 refine effc_nil ?_
 simp only
 (try simp only [Act.put, List.setIfInBounds_toArray, List.set_cons_zero, List.set_cons_succ])
 (try simp only [newB_val, numB_val, ownB_val])
 clear hmade hdist hph
 have hwU : Below w.heap.size w u' := Upd.below hW hup (by simp)
 have o9 := o1.upd hup (by simp)
 have M1 := Lib.hid (NumAt.keeps (G1.out.below hW) (Upd.keeps (Keeps.refl _ _) hup))
 have M2 := Lib.hid (NumAt.keeps (G2.out.below hW) (Upd.keeps (Keeps.refl _ _) hup))
 generalize (f 4).1 = b4 at *
 clear f hup o1 hW
 have hzU := hwU.size
 have o9c := o9.cell
 by_cases hle : o ≤ 0
 ·go_wp2
  go_ret
  refine ⟨?_, hwU⟩
  have e1 := HO.out.1
  have e2 : ¬ 0 < q := fun h => by rw [ordI_gt (by omega)] at e1; omega
  have e3 := HOK.out
  unfold goodQ at e3
  rw [decide_eq_false e2] at e3
  rw [← e3]
  rfl
 ·go_wp2_with fail
  have hq0 : 0 < q := by
   have e1 := HO.out.1
   apply Classical.byContradiction
   intro h
   have e2 : o ≤ 0 := by
    rcases Int.lt_trichotomy q 0 with h2 | h2 | h2
    ·rw [ordI_lt h2] at e1; omega
    ·rw [h2, ordI_eq] at e1; omega
    ·exact absurd h2 h
   omega
  have HQ0 := Lib.hid hq0
  clear hq0
  obtain ⟨g, hg⟩ : ∃ g : Nat, Nat.gcd p.natAbs q.natAbs = g := ⟨_, rfl⟩
  have hgf : fits (g : Int) = true := fits_le (b := q) (by rw [← hg]; exact Nat.le_of_dvd (by have := HQ0.out; omega) (Nat.gcd_dvd_right _ _)) (NumAt.fits M2.out)
  have qq := num_Gcd M1.out M2.out
  rw [hg] at qq
  have HGF := Lib.hid (And.intro hg hgf)
  clear hg hgf
  refine Calls.mono qq ?_
  clear qq
  rintro e u1 ⟨⟨b, rfl, h1, h2, h3⟩, hb⟩
  rw [HGF.out.2]
  have hk := (Below.refl u1.heap.size u1).alloc (Nat.le_refl _) (.cells #[.bool (sgnN g), slN g b] 35)
  have o3 : Own (u1.alloc (.cells #[.bool (sgnN g), slN g b] 35)) u1.heap.size #[.bool (sgnN g), slN g b] := Own.new rfl
  have hw1 := hwU.trans ((hb.trans (hk.mono hb.size)).mono hzU)
  have N1 := Lib.hid (NumO.at_ (NumO.below h3 hk) HGF.out.2)
  obtain ⟨A9, n9, c9, hsl⟩ := slN_form g b
  simp only [numV] at N1 ⊢
  rw [hsl] at o3 N1 hk hw1 ⊢
  clear h1 h2 h3 hb hk hsl o9 o9c
  go_wp2
  generalize (u1.alloc (.cells #[.bool (sgnN (g : Int)), .slice A9 n9 c9] 35)) = u2 at *
  obtain ⟨r, hr⟩ : ∃ r, ordI (g : Int) 1 = r := ⟨_, rfl⟩
  have HR := Lib.hid hr
  clear hr
  refine region_gen (T := []) [.make 1 [] (valB _ 1), .need 2 [1], .need 3 []] 4 0 40 (fun _ _ => True) (fun _ _ _ _ _ => trivial) trivial (by kernel_rfl) (by kernel_rfl) (by rfl) ?_
  unfold genWalk
  apply Exists.intro
  apply And.intro
  ·apply Piece.mk
   ·intro f v hv hr hne
    simp only [List.take_succ_cons, List.take_zero, List.drop_zero, Nat.reduceSub]
    have d3 := fun y => (o3.later (v := v) (T := []) (by simp) y).cell
    repeat (go_big_quiet_step (fail))
    refine wpQuiet_nil ?_
    exact rfl
   ·intro f; kernel_rfl
   ·intro f f' hf; kernel_rfl
  simp only [List.take_succ_cons, List.take_zero, List.drop_succ_cons, List.drop_zero, Nat.reduceAdd, oneOp]
  refine ⟨fun f => ⟨rfl, fun u hu _ => ?_⟩, ?_⟩
  ·refine make_call (f := 69) (args := #[]) (by (try simp only [Act.put, List.setIfInBounds_toArray, List.set_cons_zero, List.set_cons_succ]); go_simp) ?_
   refine Calls.mono (ratio_one (w := u)) ?_
   rintro e wx ⟨⟨b, rfl, q1, q2, q3⟩, hbx⟩
   exact ⟨(b, 0), rfl, q2, q3, hbx, by simp, q1⟩
  unfold genWalk
  apply Exists.intro
  apply And.intro
  ·apply Piece.mk
   ·intro f v hv hr hne
    simp only [List.take_zero, List.drop_succ_cons, List.drop_zero, Nat.reduceSub]
    (try simp only [Act.put, List.setIfInBounds_toArray, List.set_cons_zero, List.set_cons_succ])
    (try simp only [valB_val])
    repeat (go_big_quiet_step (fail))
    refine wpQuiet_nil ?_
    exact rfl
   ·intro f; kernel_rfl
   ·intro f f' hf; simp
  unfold genWalk
  apply Exists.intro
  apply And.intro
  ·apply Piece.mk
   ·intro f v hv hr hne
    simp only [List.take_succ_cons, List.take_zero, List.drop_succ_cons, List.drop_zero, Nat.reduceSub]
    (try simp only [Act.put, List.setIfInBounds_toArray, List.set_cons_zero, List.set_cons_succ])
    (try simp only [valB_val])
    have h1 : NumO v (f 1).1 1 := (hr 1 (by simp)).2
    have k1 := fun x : Later [] u2 v => NumO.at_ (NumO.below h1 x.g) one_fits
    have K1 := fun x : Later [] u2 v => NumAt.keeps N1.out x.h
    repeat (go_big_quiet_step ((go_at_call 26; with_reducible exact lateB (cmp_one HR.out (K1 _) (k1 _)))))
    refine wpQuiet_nil ?_
    exact rfl
   ·intro f; kernel_rfl
   ·intro f f' hf; first | (simp; done) | (simp [hf 1 (by simp)])
  unfold genWalk
  apply Exists.intro
  apply And.intro
  ·apply Piece.mk
   ·intro f v hv hr hne
    simp only [List.take_succ_cons, List.take_zero, List.drop_succ_cons, List.drop_zero, Nat.reduceSub]
    (try simp only [Act.put, List.setIfInBounds_toArray, List.set_cons_zero, List.set_cons_succ])
    (try simp only [valB_val])
    repeat (go_big_quiet_step (fail))
    refine wpQuiet_nil ?_
    exact rfl
   ·intro f; kernel_rfl
   ·intro f f' hf; simp
  intro f u3 hup hph hmade hdist
  simp only
  (try simp only [Act.put, List.setIfInBounds_toArray, List.set_cons_zero, List.set_cons_succ])
  clear hmade hdist hph
  refine effc_mem (by rfl) (fun K hK => ?_)
  go_simp
  refine hK _ _ (Upd.keeps (Keeps.refl _ _) hup) (fun u4 hu4 => ?_)
  clear hK K
  refine effc_nil ?_
  (try simp only [Act.put, List.setIfInBounds_toArray, List.set_cons_zero, List.set_cons_succ])
  have hw4 : Below w.heap.size w u4 := (Upd.below hw1 hup (by simp)).trans (hu4.mono (Upd.below hw1 hup (by simp)).size)
  clear hup hu4
  go_wp2
  go_ret
  refine ⟨?_, hw4⟩
  have e3 := HOK.out
  unfold goodQ at e3
  rw [decide_eq_true HQ0.out, Bool.true_and, HGF.out.1] at e3
  have e4 : (r == 0) = (g == 1) := by
   rw [← HR.out]
   rcases Nat.lt_trichotomy g 1 with h | h | h
   ·obtain rfl : g = 0 := by omega
    rfl
   ·rw [h]; rfl
   ·rw [ordI_gt (by omega)]
    exact (beq_eq_false_iff_ne.2 (show g ≠ 1 by omega)).symm
  show Ending.returned (.bool (r == 0)) = _
  rw [e4, e3]
end Go.Proofs.YtflgngjocgiojaaGreat
namespace Go.Proofs.YtflgngjocgiojaaGreat
open Go.RowKit

theorem RatAt.below {w w' : World} {v : Value} {p q : Int} (h : RatAt w v p q) (hb : Below w.heap.size w w') : RatAt w' v p q := by
 obtain ⟨s1, A1, n1, c1, s2, A2, n2, c2, e, h1, h2⟩ := h
 exact ⟨s1, A1, n1, c1, s2, A2, n2, c2, e, h1.below hb, h2.below hb⟩
set_option maxRecDepth 100000 in
set_option maxHeartbeats 2000000 in
theorem ratio_Sign {w : World} {v1 : Value} {p q : Int} (h : RatAt w v1 p q) (hg : goodQ p q = true) : Calls Tryz.prog 24 #[v1] w fun r w' => r = .returned (.int .i64 (ordI p 0)) ∧ Below w.heap.size w w' := by
 obtain ⟨o, ho⟩ : ∃ z, ordI p 0 = z := ⟨_, rfl⟩
 rw [ho]
 have H := Lib.hid h
 obtain ⟨s1, A1, n1, c1, s2, A2, n2, c2, rfl, h1, h2⟩ := h
 have G1 := Lib.hid h1
 have HO := Lib.hid (And.intro ho hg)
 clear h1 h2 ho hg
 have hW := (Below.refl w.heap.size w).alloc (Nat.le_refl _) (.cells #[.bool s1, .slice A1 n1 c1, .bool s2, .slice A2 n2 c2] 37)
 have o1 : Own (w.alloc (.cells #[.bool s1, .slice A1 n1 c1, .bool s2, .slice A2 n2 c2] 37)) w.heap.size #[.bool s1, .slice A1 n1 c1, .bool s2, .slice A2 n2 c2] := (by repeat' (first | ((refine Own.new ?_); (focus (first | rfl | omega | (simp; done) | (simp; omega)))) | assumption | refine Own.alloc ?_ _ | refine Own.drew ?_ | (refine Own.far ?_ ?_ _; rotate_left; (focus (first | rfl | omega | (simp; done) | (simp; omega))))))
 go_enter Tryz.func24, Tryz.ntmps24
 go_wp2_with fail
 generalize (w.alloc (.cells #[.bool s1, .slice A1 n1 c1, .bool s2, .slice A2 n2 c2] 37)) = W0 at *
 have qq := ratio_Right (H.out.below hW)
 rw [HO.out.2] at qq
 refine Calls.mono qq ?_
 clear qq
 rintro e u1 ⟨rfl, hb⟩
 have hw1 := hW.trans (hb.mono hW.size)
 have o2 := o1.below hb
 have K1 := Lib.hid (G1.out.below hw1)
 clear hb o1 hW
 go_wp2
 refine region_late 4 [] (by kernel_rfl) (by kernel_rfl) (by rfl) ?_
 apply Exists.intro
 refine ⟨fun v hv hne => ?_, fun u hu => ?_⟩
 ·simp only [List.take_succ_cons, List.take_zero]
  have d1 := fun y => (o2.later (v := v) (T := []) (by simp) y).cell
  have L1 := fun x : Later [] u1 v => NumAt.keeps K1.out x.h
  repeat (go_big_quiet_step (first | (go_at_call 63; with_reducible exact lateB ratio_zero) | (go_at_call 26; with_reducible exact lateB (cmp_zero HO.out.1 (L1 _)))))
  refine wpQuiet_nil ?_
  exact rfl
 simp only [List.drop_succ_cons, List.drop_zero]
 refine late_mem (fun K hK => ?_)
 go_simp
 refine hK _ _ (Keeps.of_below hu) (fun u3 hu3 => ?_)
 clear hK K
 refine late_nil ?_
 (try simp only [Act.put, List.setIfInBounds_toArray, List.set_cons_zero, List.set_cons_succ])
 have hw3 := (hw1.trans (hu.mono hw1.size)).trans (hu3.mono (by have := hu.size; have := hw1.size; omega))
 go_wp2
 go_ret
 exact ⟨rfl, hw3⟩
end Go.Proofs.YtflgngjocgiojaaGreat
namespace Go.Proofs.YtflgngjocgiojaaGreat
open Go.RowKit

/-- A product and whether it fits. -/
def prodV (z : Int) (b : Nat) : Value := .agg #[.bool (sgnN z), slN z b, .bool (fits z)]
def RetP (w : World) (z : Int) (r : Ending) (w' : World) : Prop := (∃ b, r = .returned (prodV z b) ∧ NumO w' b z ∧ w.heap.size ≤ b ∧ b < w'.heap.size) ∧ Below w.heap.size w w'
set_option maxRecDepth 100000 in
set_option maxHeartbeats 2000000 in
theorem ratio_times {w : World} {v1 v2 : Value} {z1 z2 : Int} (h1 : NumAt w v1 z1) (h2 : NumAt w v2 z2) : Calls Tryz.prog 73 #[v1, v2] w (RetP w (z1 * z2)) := by
 obtain ⟨z, hz⟩ : ∃ z, z1 * z2 = z := ⟨_, rfl⟩
 rw [hz]
 have G1 := Lib.hid h1
 have G2 := Lib.hid h2
 obtain ⟨r1, k1⟩ := h1.raw
 obtain ⟨r2, k2⟩ := h2.raw
 obtain ⟨A1, n1, c1, rfl, hc1, hm1, hl1, d1⟩ := h1
 obtain ⟨A2, n2, c2, rfl, hc2, hm2, hl2, d2⟩ := h2
 obtain ⟨s1, hs1⟩ : ∃ s, decide (z1 < 0) = s := ⟨_, rfl⟩
 obtain ⟨s2, hs2⟩ : ∃ s, decide (z2 < 0) = s := ⟨_, rfl⟩
 rw [hs1] at r1 k1 G1 ⊢
 rw [hs2] at r2 k2 G2 ⊢
 have H := Lib.hid (And.intro hz (And.intro hs1 hs2))
 have D1 := Lib.hid d1
 have D2 := Lib.hid d2
 have R1 := Lib.hid (And.intro r1 k1)
 have R2 := Lib.hid (And.intro r2 k2)
 clear hz hs1 hs2 d1 d2 r1 k1 r2 k2
 go_enter Tryz.func73, Tryz.ntmps73
 have hW := ((((Below.refl w.heap.size w).alloc (Nat.le_refl _) (.cells #[.bool s1, .slice A1 n1 c1] 35)).alloc (by simp) (.cells #[.bool s2, .slice A2 n2 c2] 35)).alloc (by simp; omega) (.cells #[.bool false, .slice none 0 0, .bool false] 113))
 go_wp2_with fail
 have o6 : Own (((w.alloc (.cells #[.bool s1, .slice A1 n1 c1] 35)).alloc (.cells #[.bool s2, .slice A2 n2 c2] 35)).alloc (.cells #[.bool false, .slice none 0 0, .bool false] 113)) (w.heap.size + 1 + 1) #[.bool false, .slice none 0 0, .bool false] := (by repeat' (first | ((refine Own.new ?_); (focus (first | rfl | omega | (simp; done) | (simp; omega)))) | assumption | refine Own.alloc ?_ _ | refine Own.drew ?_ | (refine Own.far ?_ ?_ _; rotate_left; (focus (first | rfl | omega | (simp; done) | (simp; omega))))))
 generalize (((w.alloc (.cells #[.bool s1, .slice A1 n1 c1] 35)).alloc (.cells #[.bool s2, .slice A2 n2 c2] 35)).alloc (.cells #[.bool false, .slice none 0 0, .bool false] 113)) = W0 at *
 have q := num_Mul (G1.out.below hW) (G2.out.below hW)
 rw [H.out.1] at q
 refine Calls.mono q ?_
 rintro e u1 ⟨⟨b, rfl, g2, g3, g1⟩, hb⟩
 obtain ⟨A9, n9, c9, hsl⟩ := slN_form z b
 simp only [numV]
 rw [hsl]
 obtain ⟨ok, hok⟩ : ∃ s, fits z = s := ⟨_, rfl⟩
 rw [hok]
 have HSL := Lib.hid (And.intro hsl hok)
 have hk := (Below.refl u1.heap.size u1).alloc (Nat.le_refl _) (.cells #[.bool (sgnN z), .slice A9 n9 c9] 35)
 have hbz := hb.size
 have HB := Lib.hid (And.intro (Nat.lt_of_lt_of_le o6.lt g2) (And.intro g3 (g1.below hk)))
 have hw := hW.trans ((hb.trans (hk.mono hbz)).mono hW.size)
 have p2 := (o6.below hb).below hk
 have p2c := p2.cell
 have p2f := p2.thaw
 have p2z := p2.lt
 clear hsl hok g1 g2 g3 hk hb
 go_wp2
 refine retC (b := w.heap.size + 1 + 1) (v := .agg #[.bool (sgnN z), .slice A9 n9 c9, .bool ok]) (((p2.set 0 _).set 1 _).set 2 _) (fun w' hw' => by simp [results, Tryz.results73, go_sem, hw']) rfl ⟨⟨b, by rw [prodV, HSL.out.1, HSL.out.2], ((HB.out.2.2.far (p := ⟨w.heap.size + 1 + 1, 0, none⟩) (by simp; have := HB.out.1; omega) _).far (p := ⟨w.heap.size + 1 + 1, 1, none⟩) (by simp; have := HB.out.1; omega) _).far (p := ⟨w.heap.size + 1 + 1, 2, none⟩) (by simp; have := HB.out.1; omega) _, by have := HB.out.1; omega, by have := HB.out.2.1; simp; omega⟩, ((hw.setCell (by simp; omega) _).setCell (by simp; omega) _).setCell (by simp; omega) _⟩
end Go.Proofs.YtflgngjocgiojaaGreat
