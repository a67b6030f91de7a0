/- The law PlanePrims returns true. The components are int64, and the factor is not negative. -/
import Derived.Test.YthijnggeoinlfaaSan7
import Derived.Test.YthijnggeoinlfaaPrimsM
namespace Go.Proofs.Ythijnggeoinlfaa
open Go.RowKit

theorem prime_cell {k : Nat} (h : k < 6) : ∃ m : Nat, 2 ≤ m ∧ #[Value.int .i64 2, .int .i64 3, .int .i64 5, .int .i64 7, .int .i64 11, .int .i64 13][k]? = some (.int .i64 m) := by
  match k, h with
  | 0, _ => exact ⟨2, by omega, rfl⟩
  | 1, _ => exact ⟨3, by omega, rfl⟩
  | 2, _ => exact ⟨5, by omega, rfl⟩
  | 3, _ => exact ⟨7, by omega, rfl⟩
  | 4, _ => exact ⟨11, by omega, rfl⟩
  | 5, _ => exact ⟨13, by omega, rfl⟩

set_option maxRecDepth 100000 in
set_option maxHeartbeats 4000000 in
theorem law7_Prims_zero (x y z n : Int) (hn : 0 ≤ n) (hn2 : n ≤ 65535) (hx : x.tmod 1099511627776 = 0) (hy : y.tmod 1099511627776 = 0) (hz0 : z.tmod 1099511627776 = 0) (w : World) :
    Calls Try.prog 4 #[vV x y z, .int .u16 n] w fun r w' => r = .returned (.bool true) ∧ Below w.heap.size w w' := by
  have HV := Lib.hid (show vV (x.tmod 1099511627776) (y.tmod 1099511627776) (z.tmod 1099511627776) = vV 0 0 0 by rw [hx, hy, hz0])
  have HP := Lib.hid (show Value.tuple #[(vPrim ⟨0, 0, 0⟩).v, .int .i64 (vGcd ⟨0, 0, 0⟩)] = .tuple #[vV 0 0 0, .int .i64 0] by rw [show vPrim ⟨0, 0, 0⟩ = ⟨0, 0, 0⟩ by unfold vPrim; rw [if_pos (by decide)], show vGcd ⟨0, 0, 0⟩ = 0 by decide])
  clear hx hy hz0
  go_enter Try.func4, Try.ntmps4
  go_wp2_with fail
  refine Calls.mono (law7_sanity _) ?_
  rintro e w1 ⟨rfl, hbx⟩
  have ov : Own w1 (w.heap.size) #[.int .i64 x, .int .i64 y, .int .i64 z] := Own.below (by repeat' (first | ((refine Own.new ?_); (focus (first | rfl | omega | (simp; done) | (simp; omega)))) | assumption | refine Own.alloc ?_ _ | refine Own.drew ?_ | (refine Own.far ?_ ?_ _; rotate_left; (focus (first | rfl | omega | (simp; done) | (simp; omega)))))) hbx
  have ovc := ov.cell
  have ovf := ov.thaw
  have ovz := ov.lt
  have hw : Below w.heap.size w w1 := Below.hop (by repeat' (first | exact Below.refl _ _ | assumption | (refine Below.alloc ?_ ?_ _; rotate_left; (focus (first | rfl | omega | (simp; done) | (simp; omega)))) | (refine Below.setCell ?_ ?_ _; rotate_left; (focus (first | rfl | omega | (simp; done) | (simp; omega)))) | refine Below.drew ?_)) hbx
  have hz := hw.size
  clear hbx
  go_wp2_with fail
  refine Calls.mono (callv (law7_vec _ _ _ _) (HV.out : _ = vV 0 0 0)) ?_
  rintro e w2 ⟨rfl, hbx⟩
  replace ov : Own w2 (w.heap.size) #[.int .i64 x, .int .i64 y, .int .i64 z] := Own.below (by repeat' (first | ((refine Own.new ?_); (focus (first | rfl | omega | (simp; done) | (simp; omega)))) | assumption | refine Own.alloc ?_ _ | refine Own.drew ?_ | (refine Own.far ?_ ?_ _; rotate_left; (focus (first | rfl | omega | (simp; done) | (simp; omega)))))) hbx
  replace ovc := ov.cell
  replace ovf := ov.thaw
  replace ovz := ov.lt
  replace hw : Below w.heap.size w w2 := Below.hop (by repeat' (first | exact Below.refl _ _ | assumption | (refine Below.alloc ?_ ?_ _; rotate_left; (focus (first | rfl | omega | (simp; done) | (simp; omega)))) | (refine Below.setCell ?_ ?_ _; rotate_left; (focus (first | rfl | omega | (simp; done) | (simp; omega)))) | refine Below.drew ?_)) hbx
  replace hz := hw.size
  clear hbx
  go_wp2_with fail
  refine Calls.mono (callv (plane_Prim 0 0 0 (i64s rfl) (i64s rfl) (i64s rfl) _) (HP.out : _ = .tuple #[vV 0 0 0, .int .i64 0])) ?_
  rintro e w3 ⟨rfl, hbx⟩
  replace ov : Own w3 (w.heap.size) #[.int .i64 0, .int .i64 0, .int .i64 0] := (((ov.set 0 _).set 1 _).set 2 _).below hbx
  replace ovc := ov.cell
  replace ovf := ov.thaw
  replace ovz := ov.lt
  replace hw : Below w.heap.size w w3 := Below.hop (by repeat' (first | exact Below.refl _ _ | assumption | (refine Below.alloc ?_ ?_ _; rotate_left; (focus (first | rfl | omega | (simp; done) | (simp; omega)))) | (refine Below.setCell ?_ ?_ _; rotate_left; (focus (first | rfl | omega | (simp; done) | (simp; omega)))) | refine Below.drew ?_)) hbx
  replace hz := hw.size
  clear hbx
  go_wp2
  go_ret
  exact ⟨rfl, (by repeat' (first | exact Below.refl _ _ | assumption | (refine Below.alloc ?_ ?_ _; rotate_left; (focus (first | rfl | omega | (simp; done) | (simp; omega)))) | (refine Below.setCell ?_ ?_ _; rotate_left; (focus (first | rfl | omega | (simp; done) | (simp; omega)))) | refine Below.drew ?_))⟩

set_option maxRecDepth 100000 in
set_option maxHeartbeats 4000000 in
theorem law7_Prims_0 (x y z n a b c p q r g : Int) (hn : 0 ≤ n) (hn2 : n ≤ 65535) (hx : x.tmod 1099511627776 = a) (hy : y.tmod 1099511627776 = b) (hz0 : z.tmod 1099511627776 = c)
    (hne : ¬ a = 0) (la : Lt40 a) (lb : Lt40 b) (lc : Lt40 c) (s : PrimsLaw a b c (1 + n % 1000) p q r g) (w : World) :
    Calls Try.prog 4 #[vV x y z, .int .u16 n] w fun r w' => r = .returned (.bool true) ∧ Below w.heap.size w w' := by
  have HV := Lib.hid (show vV (x.tmod 1099511627776) (y.tmod 1099511627776) (z.tmod 1099511627776) = vV a b c by rw [hx, hy, hz0])
  have HP := Lib.hid (show Value.tuple #[(vPrim ⟨a, b, c⟩).v, .int .i64 (vGcd ⟨a, b, c⟩)] = .tuple #[vV p q r, .int .i64 g] by rw [s.ep, s.eg])
  have HA := Lib.hid la.i64
  have HB := Lib.hid lb.i64
  have HC := Lib.hid lc.i64
  have spf := s.pf
  have sgf := s.gf
  obtain ⟨a2, ha2⟩ : ∃ a2, wrap64 (a * (1 + n % 1000)) = a2 := ⟨_, rfl⟩
  have A2 := Lib.hid (show I64 a2 by rw [← ha2]; exact wr_I _)
  rw [ha2] at spf sgf
  obtain ⟨b2, hb2⟩ : ∃ b2, wrap64 (b * (1 + n % 1000)) = b2 := ⟨_, rfl⟩
  have B2 := Lib.hid (show I64 b2 by rw [← hb2]; exact wr_I _)
  rw [hb2] at spf sgf
  obtain ⟨c2, hc2⟩ : ∃ c2, wrap64 (c * (1 + n % 1000)) = c2 := ⟨_, rfl⟩
  have C2 := Lib.hid (show I64 c2 by rw [← hc2]; exact wr_I _)
  rw [hc2] at spf sgf
  have H2 := Lib.hid (show vV (wrap64 (a * (1 + n % 1000))) (wrap64 (b * (1 + n % 1000))) (wrap64 (c * (1 + n % 1000))) = vV a2 b2 c2 by rw [ha2, hb2, hc2])
  have HP2 := Lib.hid (show Value.tuple #[(vPrim ⟨a2, b2, c2⟩).v, .int .i64 (vGcd ⟨a2, b2, c2⟩)] = .tuple #[vV p q r, .int .i64 (wrap64 (g * (1 + n % 1000)))] by rw [spf, sgf])
  clear ha2 hb2 hc2 spf sgf
  have HB3 := Lib.hid (show vV (wrap64 (p * g)) (wrap64 (q * g)) (wrap64 (r * g)) = vV a b c by rw [s.ea, s.eb, s.ec])
  have g1 : ¬ g < 1 := by have := s.g1; omega
  have g2 : decide (g < 1) = false := by simpa using g1
  have PP := Lib.hid (show (veq (vPrim ⟨p, q, r⟩) ⟨p, q, r⟩ && vGcd ⟨p, q, r⟩ == 1) = true by rw [s.pp, s.gp]; simp [veq])
  have S := Lib.hid s
  clear s hx hy hz0 la lb lc
  go_enter Try.func4, Try.ntmps4
  go_wp2_with fail
  refine Calls.mono (law7_sanity _) ?_
  rintro e w1 ⟨rfl, hbx⟩
  have ov : Own w1 (w.heap.size) #[.int .i64 x, .int .i64 y, .int .i64 z] := Own.below (by repeat' (first | ((refine Own.new ?_); (focus (first | rfl | omega | (simp; done) | (simp; omega)))) | assumption | refine Own.alloc ?_ _ | refine Own.drew ?_ | (refine Own.far ?_ ?_ _; rotate_left; (focus (first | rfl | omega | (simp; done) | (simp; omega)))))) hbx
  have ovc := ov.cell
  have ovf := ov.thaw
  have ovz := ov.lt
  have hw : Below w.heap.size w w1 := Below.hop (by repeat' (first | exact Below.refl _ _ | assumption | (refine Below.alloc ?_ ?_ _; rotate_left; (focus (first | rfl | omega | (simp; done) | (simp; omega)))) | (refine Below.setCell ?_ ?_ _; rotate_left; (focus (first | rfl | omega | (simp; done) | (simp; omega)))) | refine Below.drew ?_)) hbx
  have hz := hw.size
  clear hbx
  go_wp2_with fail
  refine Calls.mono (callv (law7_vec _ _ _ _) (HV.out : _ = vV a b c)) ?_
  rintro e w2 ⟨rfl, hbx⟩
  replace ov : Own w2 (w.heap.size) #[.int .i64 x, .int .i64 y, .int .i64 z] := Own.below (by repeat' (first | ((refine Own.new ?_); (focus (first | rfl | omega | (simp; done) | (simp; omega)))) | assumption | refine Own.alloc ?_ _ | refine Own.drew ?_ | (refine Own.far ?_ ?_ _; rotate_left; (focus (first | rfl | omega | (simp; done) | (simp; omega)))))) hbx
  replace ovc := ov.cell
  replace ovf := ov.thaw
  replace ovz := ov.lt
  replace hw : Below w.heap.size w w2 := Below.hop (by repeat' (first | exact Below.refl _ _ | assumption | (refine Below.alloc ?_ ?_ _; rotate_left; (focus (first | rfl | omega | (simp; done) | (simp; omega)))) | (refine Below.setCell ?_ ?_ _; rotate_left; (focus (first | rfl | omega | (simp; done) | (simp; omega)))) | refine Below.drew ?_)) hbx
  replace hz := hw.size
  clear hbx
  go_wp2_with fail
  refine Calls.mono (callv (plane_Prim a b c HA.out HB.out HC.out _) (HP.out : _ = .tuple #[vV p q r, .int .i64 g])) ?_
  rintro e w3 ⟨rfl, hbx⟩
  replace ov : Own w3 (w.heap.size) #[.int .i64 a, .int .i64 b, .int .i64 c] := (((ov.set 0 _).set 1 _).set 2 _).below hbx
  replace ovc := ov.cell
  replace ovf := ov.thaw
  replace ovz := ov.lt
  replace hw : Below w.heap.size w w3 := Below.hop (by repeat' (first | exact Below.refl _ _ | assumption | (refine Below.alloc ?_ ?_ _; rotate_left; (focus (first | rfl | omega | (simp; done) | (simp; omega)))) | (refine Below.setCell ?_ ?_ _; rotate_left; (focus (first | rfl | omega | (simp; done) | (simp; omega)))) | refine Below.drew ?_)) hbx
  replace hz := hw.size
  clear hbx
  go_wp2_with fail
  refine Calls.mono (callv (law7_vec _ _ _ _) (H2.out : _ = vV a2 b2 c2)) ?_
  rintro e w4 ⟨rfl, hbx⟩
  have ou : Own w4 (w3.heap.size) #[.int .i64 p, .int .i64 q, .int .i64 r] := Own.below (by repeat' (first | ((refine Own.new ?_); (focus (first | rfl | omega | (simp; done) | (simp; omega)))) | assumption | refine Own.alloc ?_ _ | refine Own.drew ?_ | (refine Own.far ?_ ?_ _; rotate_left; (focus (first | rfl | omega | (simp; done) | (simp; omega)))))) hbx
  have ouc := ou.cell
  have ouf := ou.thaw
  have ouz := ou.lt
  replace ov : Own w4 (w.heap.size) #[.int .i64 a, .int .i64 b, .int .i64 c] := Own.below (by repeat' (first | ((refine Own.new ?_); (focus (first | rfl | omega | (simp; done) | (simp; omega)))) | assumption | refine Own.alloc ?_ _ | refine Own.drew ?_ | (refine Own.far ?_ ?_ _; rotate_left; (focus (first | rfl | omega | (simp; done) | (simp; omega)))))) hbx
  replace ovc := ov.cell
  replace ovf := ov.thaw
  replace ovz := ov.lt
  replace hw : Below w.heap.size w w4 := Below.hop (by repeat' (first | exact Below.refl _ _ | assumption | (refine Below.alloc ?_ ?_ _; rotate_left; (focus (first | rfl | omega | (simp; done) | (simp; omega)))) | (refine Below.setCell ?_ ?_ _; rotate_left; (focus (first | rfl | omega | (simp; done) | (simp; omega)))) | refine Below.drew ?_)) hbx
  replace hz := hw.size
  clear hbx
  go_wp2_with fail
  refine Calls.mono (callv (plane_Prim a2 b2 c2 A2.out B2.out C2.out _) (HP2.out : _ = .tuple #[vV p q r, .int .i64 (wrap64 (g * (1 + n % 1000)))])) ?_
  rintro e w5 ⟨rfl, hbx⟩
  replace ov : Own w5 (w.heap.size) #[.int .i64 a, .int .i64 b, .int .i64 c] := Own.below (by repeat' (first | ((refine Own.new ?_); (focus (first | rfl | omega | (simp; done) | (simp; omega)))) | assumption | refine Own.alloc ?_ _ | refine Own.drew ?_ | (refine Own.far ?_ ?_ _; rotate_left; (focus (first | rfl | omega | (simp; done) | (simp; omega)))))) hbx
  replace ovc := ov.cell
  replace ovf := ov.thaw
  replace ovz := ov.lt
  replace ou : Own w5 (w3.heap.size) #[.int .i64 p, .int .i64 q, .int .i64 r] := Own.below (by repeat' (first | ((refine Own.new ?_); (focus (first | rfl | omega | (simp; done) | (simp; omega)))) | assumption | refine Own.alloc ?_ _ | refine Own.drew ?_ | (refine Own.far ?_ ?_ _; rotate_left; (focus (first | rfl | omega | (simp; done) | (simp; omega)))))) hbx
  replace ouc := ou.cell
  replace ouf := ou.thaw
  replace ouz := ou.lt
  replace hw : Below w.heap.size w w5 := Below.hop (by repeat' (first | exact Below.refl _ _ | assumption | (refine Below.alloc ?_ ?_ _; rotate_left; (focus (first | rfl | omega | (simp; done) | (simp; omega)))) | (refine Below.setCell ?_ ?_ _; rotate_left; (focus (first | rfl | omega | (simp; done) | (simp; omega)))) | refine Below.drew ?_)) hbx
  replace hz := hw.size
  clear hbx
  go_wp2_with fail
  have ow : Own (w5.alloc (.cells #[.int .i64 p, .int .i64 q, .int .i64 r] 24)) (w5.heap.size) #[.int .i64 p, .int .i64 q, .int .i64 r] := Own.new rfl
  replace ov : Own (w5.alloc (.cells #[.int .i64 p, .int .i64 q, .int .i64 r] 24)) (w.heap.size) #[.int .i64 a, .int .i64 b, .int .i64 c] := (by repeat' (first | ((refine Own.new ?_); (focus (first | rfl | omega | (simp; done) | (simp; omega)))) | assumption | refine Own.alloc ?_ _ | refine Own.drew ?_ | (refine Own.far ?_ ?_ _; rotate_left; (focus (first | rfl | omega | (simp; done) | (simp; omega))))))
  clear ovc ovf ovz
  replace ou : Own (w5.alloc (.cells #[.int .i64 p, .int .i64 q, .int .i64 r] 24)) (w3.heap.size) #[.int .i64 p, .int .i64 q, .int .i64 r] := (by repeat' (first | ((refine Own.new ?_); (focus (first | rfl | omega | (simp; done) | (simp; omega)))) | assumption | refine Own.alloc ?_ _ | refine Own.drew ?_ | (refine Own.far ?_ ?_ _; rotate_left; (focus (first | rfl | omega | (simp; done) | (simp; omega))))))
  clear ouc ouf ouz
  replace hw : Below w.heap.size w (w5.alloc (.cells #[.int .i64 p, .int .i64 q, .int .i64 r] 24)) := (by repeat' (first | exact Below.refl _ _ | assumption | (refine Below.alloc ?_ ?_ _; rotate_left; (focus (first | rfl | omega | (simp; done) | (simp; omega)))) | (refine Below.setCell ?_ ?_ _; rotate_left; (focus (first | rfl | omega | (simp; done) | (simp; omega)))) | refine Below.drew ?_))
  generalize w5.alloc (.cells #[.int .i64 p, .int .i64 q, .int .i64 r] 24) = w6 at *
  have ovc := ov.cell
  have ovf := ov.thaw
  have ovz := ov.lt
  have ouc := ou.cell
  have ouf := ou.thaw
  have ouz := ou.lt
  have owc := ow.cell
  have owf := ow.thaw
  have owz := ow.lt
  replace hz := hw.size
  refine region_late 31 [] (by kernel_rfl) (by kernel_rfl) (by rfl) ?_
  apply Exists.intro
  refine ⟨fun v hv hne => ?_, fun u hu => ?_⟩
  · simp only [List.take_succ_cons, List.take_zero]
    have dov := fun x => (ov.later (v := v) (T := []) (by simp) x).cell
    have dou := fun x => (ou.later (v := v) (T := []) (by simp) x).cell
    have dow := fun x => (ow.later (v := v) (T := []) (by simp) x).cell
    repeat (go_big_quiet_step ((first | (go_at_call 22; with_reducible exact lateB (callv (law7_vec _ _ _ _) (HB3.out : _ = vV a b c))))))
    refine wpQuiet_nil ?_
    exact rfl
  · simp only [List.drop_succ_cons, List.drop_zero]
    replace ov := ov.below hu
    replace ou := ou.below hu
    replace ow := ow.below hu
    replace hw := Below.hop hw hu
    replace hz := hw.size
    clear hu
    refine late_nil ?_
    (try simp only [Act.put, List.setIfInBounds_toArray, List.set_cons_zero, List.set_cons_succ])
    have ovc := ov.cell
    have ovf := ov.thaw
    have ovz := ov.lt
    have ouc := ou.cell
    have ouf := ou.thaw
    have ouz := ou.lt
    have owc := ow.cell
    have owf := ow.thaw
    have owz := ow.lt
    go_wp2
    have oe : Own (u.alloc (.cells #[.int .i64 2, .int .i64 3, .int .i64 5, .int .i64 7, .int .i64 11, .int .i64 13] 3)) (u.heap.size) #[.int .i64 2, .int .i64 3, .int .i64 5, .int .i64 7, .int .i64 11, .int .i64 13] := Own.new rfl
    replace ov : Own (u.alloc (.cells #[.int .i64 2, .int .i64 3, .int .i64 5, .int .i64 7, .int .i64 11, .int .i64 13] 3)) (w.heap.size) #[.int .i64 a, .int .i64 b, .int .i64 c] := (by repeat' (first | ((refine Own.new ?_); (focus (first | rfl | omega | (simp; done) | (simp; omega)))) | assumption | refine Own.alloc ?_ _ | refine Own.drew ?_ | (refine Own.far ?_ ?_ _; rotate_left; (focus (first | rfl | omega | (simp; done) | (simp; omega))))))
    clear ovc ovf ovz
    replace ou : Own (u.alloc (.cells #[.int .i64 2, .int .i64 3, .int .i64 5, .int .i64 7, .int .i64 11, .int .i64 13] 3)) (w3.heap.size) #[.int .i64 p, .int .i64 q, .int .i64 r] := (by repeat' (first | ((refine Own.new ?_); (focus (first | rfl | omega | (simp; done) | (simp; omega)))) | assumption | refine Own.alloc ?_ _ | refine Own.drew ?_ | (refine Own.far ?_ ?_ _; rotate_left; (focus (first | rfl | omega | (simp; done) | (simp; omega))))))
    clear ouc ouf ouz
    replace ow : Own (u.alloc (.cells #[.int .i64 2, .int .i64 3, .int .i64 5, .int .i64 7, .int .i64 11, .int .i64 13] 3)) (w5.heap.size) #[.int .i64 p, .int .i64 q, .int .i64 r] := (by repeat' (first | ((refine Own.new ?_); (focus (first | rfl | omega | (simp; done) | (simp; omega)))) | assumption | refine Own.alloc ?_ _ | refine Own.drew ?_ | (refine Own.far ?_ ?_ _; rotate_left; (focus (first | rfl | omega | (simp; done) | (simp; omega))))))
    clear owc owf owz
    replace hw : Below w.heap.size w (u.alloc (.cells #[.int .i64 2, .int .i64 3, .int .i64 5, .int .i64 7, .int .i64 11, .int .i64 13] 3)) := (by repeat' (first | exact Below.refl _ _ | assumption | (refine Below.alloc ?_ ?_ _; rotate_left; (focus (first | rfl | omega | (simp; done) | (simp; omega)))) | (refine Below.setCell ?_ ?_ _; rotate_left; (focus (first | rfl | omega | (simp; done) | (simp; omega)))) | refine Below.drew ?_))
    generalize u.alloc (.cells #[.int .i64 2, .int .i64 3, .int .i64 5, .int .i64 7, .int .i64 11, .int .i64 13] 3) = w7 at *
    have ovc := ov.cell
    have ovf := ov.thaw
    have ovz := ov.lt
    have ouc := ou.cell
    have ouf := ou.thaw
    have ouz := ou.lt
    have owc := ow.cell
    have owf := ow.thaw
    have owz := ow.lt
    have oec := oe.cell
    have oef := oe.thaw
    have oez := oe.lt
    replace hz := hw.size
    go_loop [12, 96] (fun _ i => ∃ k : Nat, k ≤ 6 ∧ i = .int .i64 k) (fun _ i => 6 - (intOf i).toNat)
    case atStart => exact ⟨0, by omega, rfl⟩
    case round =>
      obtain ⟨k, hk, rfl⟩ := hrel
      by_cases hlt : k < 6
      · have hlt2 : (k : Int) < 6 := by omega
        obtain ⟨m, hm, hcell⟩ := (prime_cell hlt).elim fun m h => (⟨m, h.1, (oec k).trans h.2⟩ : ∃ m : Nat, 2 ≤ m ∧ w7.cell? ⟨u.heap.size, k, none⟩ = some (.int .i64 m))
        have hm0 : ¬ (m : Int) = 0 := by omega
        have hm1 : ((m : Int) == 0) = false := by simpa using hm0
        have hd := S.out.d m hm
        clear oec
        by_cases h1 : p.tmod m = 0
        · by_cases h2 : q.tmod m = 0
          · have h3 : ¬ r.tmod m = 0 := fun h => hd ⟨h1, h2, h⟩
            clear hd
            go_wp2
            go_round
            case rel => exact ⟨k + 1, by omega, by go_num⟩
            case measure => simp [intOf]; omega
          · clear hd
            go_wp2
            go_round
            case rel => exact ⟨k + 1, by omega, by go_num⟩
            case measure => simp [intOf]; omega
        · clear hd
          go_wp2
          go_round
          case rel => exact ⟨k + 1, by omega, by go_num⟩
          case measure => simp [intOf]; omega
      · obtain rfl : k = 6 := by omega
        go_wp2_with fail
        refine Calls.mono (callv (law7_prim p q r p q r 1 S.out.ia S.out.ib S.out.ic _) (congrArg Value.bool (show _ = true from PP.out))) ?_
        rintro e w8 ⟨rfl, hbx⟩
        replace ov : Own w8 (w.heap.size) #[.int .i64 a, .int .i64 b, .int .i64 c] := Own.below (by repeat' (first | ((refine Own.new ?_); (focus (first | rfl | omega | (simp; done) | (simp; omega)))) | assumption | refine Own.alloc ?_ _ | refine Own.drew ?_ | (refine Own.far ?_ ?_ _; rotate_left; (focus (first | rfl | omega | (simp; done) | (simp; omega)))))) hbx
        replace ovc := ov.cell
        replace ovf := ov.thaw
        replace ovz := ov.lt
        replace ou : Own w8 (w3.heap.size) #[.int .i64 p, .int .i64 q, .int .i64 r] := Own.below (by repeat' (first | ((refine Own.new ?_); (focus (first | rfl | omega | (simp; done) | (simp; omega)))) | assumption | refine Own.alloc ?_ _ | refine Own.drew ?_ | (refine Own.far ?_ ?_ _; rotate_left; (focus (first | rfl | omega | (simp; done) | (simp; omega)))))) hbx
        replace ouc := ou.cell
        replace ouf := ou.thaw
        replace ouz := ou.lt
        replace ow : Own w8 (w5.heap.size) #[.int .i64 p, .int .i64 q, .int .i64 r] := Own.below (by repeat' (first | ((refine Own.new ?_); (focus (first | rfl | omega | (simp; done) | (simp; omega)))) | assumption | refine Own.alloc ?_ _ | refine Own.drew ?_ | (refine Own.far ?_ ?_ _; rotate_left; (focus (first | rfl | omega | (simp; done) | (simp; omega)))))) hbx
        replace owc := ow.cell
        replace owf := ow.thaw
        replace owz := ow.lt
        replace oe : Own w8 (u.heap.size) #[.int .i64 2, .int .i64 3, .int .i64 5, .int .i64 7, .int .i64 11, .int .i64 13] := Own.below (by repeat' (first | ((refine Own.new ?_); (focus (first | rfl | omega | (simp; done) | (simp; omega)))) | assumption | refine Own.alloc ?_ _ | refine Own.drew ?_ | (refine Own.far ?_ ?_ _; rotate_left; (focus (first | rfl | omega | (simp; done) | (simp; omega)))))) hbx
        replace oec := oe.cell
        replace oef := oe.thaw
        replace oez := oe.lt
        replace hw : Below w.heap.size w w8 := Below.hop (by repeat' (first | exact Below.refl _ _ | assumption | (refine Below.alloc ?_ ?_ _; rotate_left; (focus (first | rfl | omega | (simp; done) | (simp; omega)))) | (refine Below.setCell ?_ ?_ _; rotate_left; (focus (first | rfl | omega | (simp; done) | (simp; omega)))) | refine Below.drew ?_)) hbx
        replace hz := hw.size
        clear hbx
        go_wp2
        go_ret
        exact ⟨rfl, hw⟩

set_option maxRecDepth 100000 in
set_option maxHeartbeats 4000000 in
theorem law7_Prims_1 (x y z n b c p q r g : Int) (hn : 0 ≤ n) (hn2 : n ≤ 65535) (hx : x.tmod 1099511627776 = 0) (hy : y.tmod 1099511627776 = b) (hz0 : z.tmod 1099511627776 = c)
    (hne : ¬ b = 0) (la : Lt40 0) (lb : Lt40 b) (lc : Lt40 c) (s : PrimsLaw 0 b c (1 + n % 1000) p q r g) (w : World) :
    Calls Try.prog 4 #[vV x y z, .int .u16 n] w fun r w' => r = .returned (.bool true) ∧ Below w.heap.size w w' := by
  have HV := Lib.hid (show vV (x.tmod 1099511627776) (y.tmod 1099511627776) (z.tmod 1099511627776) = vV 0 b c by rw [hx, hy, hz0])
  have HP := Lib.hid (show Value.tuple #[(vPrim ⟨0, b, c⟩).v, .int .i64 (vGcd ⟨0, b, c⟩)] = .tuple #[vV p q r, .int .i64 g] by rw [s.ep, s.eg])
  have HA := Lib.hid la.i64
  have HB := Lib.hid lb.i64
  have HC := Lib.hid lc.i64
  have spf := s.pf
  have sgf := s.gf
  have A2 := Lib.hid (show I64 0 from ⟨by omega, by omega⟩)
  obtain ⟨b2, hb2⟩ : ∃ b2, wrap64 (b * (1 + n % 1000)) = b2 := ⟨_, rfl⟩
  have B2 := Lib.hid (show I64 b2 by rw [← hb2]; exact wr_I _)
  rw [hb2] at spf sgf
  obtain ⟨c2, hc2⟩ : ∃ c2, wrap64 (c * (1 + n % 1000)) = c2 := ⟨_, rfl⟩
  have C2 := Lib.hid (show I64 c2 by rw [← hc2]; exact wr_I _)
  rw [hc2] at spf sgf
  rw [Int.zero_mul, wr_zero] at spf sgf
  have H2 := Lib.hid (show vV 0 (wrap64 (b * (1 + n % 1000))) (wrap64 (c * (1 + n % 1000))) = vV 0 b2 c2 by rw [hb2, hc2])
  have HP2 := Lib.hid (show Value.tuple #[(vPrim ⟨0, b2, c2⟩).v, .int .i64 (vGcd ⟨0, b2, c2⟩)] = .tuple #[vV p q r, .int .i64 (wrap64 (g * (1 + n % 1000)))] by rw [spf, sgf])
  clear hb2 hc2 spf sgf
  have HB3 := Lib.hid (show vV (wrap64 (p * g)) (wrap64 (q * g)) (wrap64 (r * g)) = vV 0 b c by rw [s.ea, s.eb, s.ec])
  have g1 : ¬ g < 1 := by have := s.g1; omega
  have g2 : decide (g < 1) = false := by simpa using g1
  have PP := Lib.hid (show (veq (vPrim ⟨p, q, r⟩) ⟨p, q, r⟩ && vGcd ⟨p, q, r⟩ == 1) = true by rw [s.pp, s.gp]; simp [veq])
  have S := Lib.hid s
  clear s hx hy hz0 la lb lc
  go_enter Try.func4, Try.ntmps4
  go_wp2_with fail
  refine Calls.mono (law7_sanity _) ?_
  rintro e w1 ⟨rfl, hbx⟩
  have ov : Own w1 (w.heap.size) #[.int .i64 x, .int .i64 y, .int .i64 z] := Own.below (by repeat' (first | ((refine Own.new ?_); (focus (first | rfl | omega | (simp; done) | (simp; omega)))) | assumption | refine Own.alloc ?_ _ | refine Own.drew ?_ | (refine Own.far ?_ ?_ _; rotate_left; (focus (first | rfl | omega | (simp; done) | (simp; omega)))))) hbx
  have ovc := ov.cell
  have ovf := ov.thaw
  have ovz := ov.lt
  have hw : Below w.heap.size w w1 := Below.hop (by repeat' (first | exact Below.refl _ _ | assumption | (refine Below.alloc ?_ ?_ _; rotate_left; (focus (first | rfl | omega | (simp; done) | (simp; omega)))) | (refine Below.setCell ?_ ?_ _; rotate_left; (focus (first | rfl | omega | (simp; done) | (simp; omega)))) | refine Below.drew ?_)) hbx
  have hz := hw.size
  clear hbx
  go_wp2_with fail
  refine Calls.mono (callv (law7_vec _ _ _ _) (HV.out : _ = vV 0 b c)) ?_
  rintro e w2 ⟨rfl, hbx⟩
  replace ov : Own w2 (w.heap.size) #[.int .i64 x, .int .i64 y, .int .i64 z] := Own.below (by repeat' (first | ((refine Own.new ?_); (focus (first | rfl | omega | (simp; done) | (simp; omega)))) | assumption | refine Own.alloc ?_ _ | refine Own.drew ?_ | (refine Own.far ?_ ?_ _; rotate_left; (focus (first | rfl | omega | (simp; done) | (simp; omega)))))) hbx
  replace ovc := ov.cell
  replace ovf := ov.thaw
  replace ovz := ov.lt
  replace hw : Below w.heap.size w w2 := Below.hop (by repeat' (first | exact Below.refl _ _ | assumption | (refine Below.alloc ?_ ?_ _; rotate_left; (focus (first | rfl | omega | (simp; done) | (simp; omega)))) | (refine Below.setCell ?_ ?_ _; rotate_left; (focus (first | rfl | omega | (simp; done) | (simp; omega)))) | refine Below.drew ?_)) hbx
  replace hz := hw.size
  clear hbx
  go_wp2_with fail
  refine Calls.mono (callv (plane_Prim 0 b c HA.out HB.out HC.out _) (HP.out : _ = .tuple #[vV p q r, .int .i64 g])) ?_
  rintro e w3 ⟨rfl, hbx⟩
  replace ov : Own w3 (w.heap.size) #[.int .i64 0, .int .i64 b, .int .i64 c] := (((ov.set 0 _).set 1 _).set 2 _).below hbx
  replace ovc := ov.cell
  replace ovf := ov.thaw
  replace ovz := ov.lt
  replace hw : Below w.heap.size w w3 := Below.hop (by repeat' (first | exact Below.refl _ _ | assumption | (refine Below.alloc ?_ ?_ _; rotate_left; (focus (first | rfl | omega | (simp; done) | (simp; omega)))) | (refine Below.setCell ?_ ?_ _; rotate_left; (focus (first | rfl | omega | (simp; done) | (simp; omega)))) | refine Below.drew ?_)) hbx
  replace hz := hw.size
  clear hbx
  go_wp2_with fail
  refine Calls.mono (callv (law7_vec _ _ _ _) (H2.out : _ = vV 0 b2 c2)) ?_
  rintro e w4 ⟨rfl, hbx⟩
  have ou : Own w4 (w3.heap.size) #[.int .i64 p, .int .i64 q, .int .i64 r] := Own.below (by repeat' (first | ((refine Own.new ?_); (focus (first | rfl | omega | (simp; done) | (simp; omega)))) | assumption | refine Own.alloc ?_ _ | refine Own.drew ?_ | (refine Own.far ?_ ?_ _; rotate_left; (focus (first | rfl | omega | (simp; done) | (simp; omega)))))) hbx
  have ouc := ou.cell
  have ouf := ou.thaw
  have ouz := ou.lt
  replace ov : Own w4 (w.heap.size) #[.int .i64 0, .int .i64 b, .int .i64 c] := Own.below (by repeat' (first | ((refine Own.new ?_); (focus (first | rfl | omega | (simp; done) | (simp; omega)))) | assumption | refine Own.alloc ?_ _ | refine Own.drew ?_ | (refine Own.far ?_ ?_ _; rotate_left; (focus (first | rfl | omega | (simp; done) | (simp; omega)))))) hbx
  replace ovc := ov.cell
  replace ovf := ov.thaw
  replace ovz := ov.lt
  replace hw : Below w.heap.size w w4 := Below.hop (by repeat' (first | exact Below.refl _ _ | assumption | (refine Below.alloc ?_ ?_ _; rotate_left; (focus (first | rfl | omega | (simp; done) | (simp; omega)))) | (refine Below.setCell ?_ ?_ _; rotate_left; (focus (first | rfl | omega | (simp; done) | (simp; omega)))) | refine Below.drew ?_)) hbx
  replace hz := hw.size
  clear hbx
  go_wp2_with fail
  refine Calls.mono (callv (plane_Prim 0 b2 c2 A2.out B2.out C2.out _) (HP2.out : _ = .tuple #[vV p q r, .int .i64 (wrap64 (g * (1 + n % 1000)))])) ?_
  rintro e w5 ⟨rfl, hbx⟩
  replace ov : Own w5 (w.heap.size) #[.int .i64 0, .int .i64 b, .int .i64 c] := Own.below (by repeat' (first | ((refine Own.new ?_); (focus (first | rfl | omega | (simp; done) | (simp; omega)))) | assumption | refine Own.alloc ?_ _ | refine Own.drew ?_ | (refine Own.far ?_ ?_ _; rotate_left; (focus (first | rfl | omega | (simp; done) | (simp; omega)))))) hbx
  replace ovc := ov.cell
  replace ovf := ov.thaw
  replace ovz := ov.lt
  replace ou : Own w5 (w3.heap.size) #[.int .i64 p, .int .i64 q, .int .i64 r] := Own.below (by repeat' (first | ((refine Own.new ?_); (focus (first | rfl | omega | (simp; done) | (simp; omega)))) | assumption | refine Own.alloc ?_ _ | refine Own.drew ?_ | (refine Own.far ?_ ?_ _; rotate_left; (focus (first | rfl | omega | (simp; done) | (simp; omega)))))) hbx
  replace ouc := ou.cell
  replace ouf := ou.thaw
  replace ouz := ou.lt
  replace hw : Below w.heap.size w w5 := Below.hop (by repeat' (first | exact Below.refl _ _ | assumption | (refine Below.alloc ?_ ?_ _; rotate_left; (focus (first | rfl | omega | (simp; done) | (simp; omega)))) | (refine Below.setCell ?_ ?_ _; rotate_left; (focus (first | rfl | omega | (simp; done) | (simp; omega)))) | refine Below.drew ?_)) hbx
  replace hz := hw.size
  clear hbx
  go_wp2_with fail
  have ow : Own (w5.alloc (.cells #[.int .i64 p, .int .i64 q, .int .i64 r] 24)) (w5.heap.size) #[.int .i64 p, .int .i64 q, .int .i64 r] := Own.new rfl
  replace ov : Own (w5.alloc (.cells #[.int .i64 p, .int .i64 q, .int .i64 r] 24)) (w.heap.size) #[.int .i64 0, .int .i64 b, .int .i64 c] := (by repeat' (first | ((refine Own.new ?_); (focus (first | rfl | omega | (simp; done) | (simp; omega)))) | assumption | refine Own.alloc ?_ _ | refine Own.drew ?_ | (refine Own.far ?_ ?_ _; rotate_left; (focus (first | rfl | omega | (simp; done) | (simp; omega))))))
  clear ovc ovf ovz
  replace ou : Own (w5.alloc (.cells #[.int .i64 p, .int .i64 q, .int .i64 r] 24)) (w3.heap.size) #[.int .i64 p, .int .i64 q, .int .i64 r] := (by repeat' (first | ((refine Own.new ?_); (focus (first | rfl | omega | (simp; done) | (simp; omega)))) | assumption | refine Own.alloc ?_ _ | refine Own.drew ?_ | (refine Own.far ?_ ?_ _; rotate_left; (focus (first | rfl | omega | (simp; done) | (simp; omega))))))
  clear ouc ouf ouz
  replace hw : Below w.heap.size w (w5.alloc (.cells #[.int .i64 p, .int .i64 q, .int .i64 r] 24)) := (by repeat' (first | exact Below.refl _ _ | assumption | (refine Below.alloc ?_ ?_ _; rotate_left; (focus (first | rfl | omega | (simp; done) | (simp; omega)))) | (refine Below.setCell ?_ ?_ _; rotate_left; (focus (first | rfl | omega | (simp; done) | (simp; omega)))) | refine Below.drew ?_))
  generalize w5.alloc (.cells #[.int .i64 p, .int .i64 q, .int .i64 r] 24) = w6 at *
  have ovc := ov.cell
  have ovf := ov.thaw
  have ovz := ov.lt
  have ouc := ou.cell
  have ouf := ou.thaw
  have ouz := ou.lt
  have owc := ow.cell
  have owf := ow.thaw
  have owz := ow.lt
  replace hz := hw.size
  refine region_late 31 [] (by kernel_rfl) (by kernel_rfl) (by rfl) ?_
  apply Exists.intro
  refine ⟨fun v hv hne => ?_, fun u hu => ?_⟩
  · simp only [List.take_succ_cons, List.take_zero]
    have dov := fun x => (ov.later (v := v) (T := []) (by simp) x).cell
    have dou := fun x => (ou.later (v := v) (T := []) (by simp) x).cell
    have dow := fun x => (ow.later (v := v) (T := []) (by simp) x).cell
    repeat (go_big_quiet_step ((first | (go_at_call 22; with_reducible exact lateB (callv (law7_vec _ _ _ _) (HB3.out : _ = vV 0 b c))))))
    refine wpQuiet_nil ?_
    exact rfl
  · simp only [List.drop_succ_cons, List.drop_zero]
    replace ov := ov.below hu
    replace ou := ou.below hu
    replace ow := ow.below hu
    replace hw := Below.hop hw hu
    replace hz := hw.size
    clear hu
    refine late_nil ?_
    (try simp only [Act.put, List.setIfInBounds_toArray, List.set_cons_zero, List.set_cons_succ])
    have ovc := ov.cell
    have ovf := ov.thaw
    have ovz := ov.lt
    have ouc := ou.cell
    have ouf := ou.thaw
    have ouz := ou.lt
    have owc := ow.cell
    have owf := ow.thaw
    have owz := ow.lt
    go_wp2
    have oe : Own (u.alloc (.cells #[.int .i64 2, .int .i64 3, .int .i64 5, .int .i64 7, .int .i64 11, .int .i64 13] 3)) (u.heap.size) #[.int .i64 2, .int .i64 3, .int .i64 5, .int .i64 7, .int .i64 11, .int .i64 13] := Own.new rfl
    replace ov : Own (u.alloc (.cells #[.int .i64 2, .int .i64 3, .int .i64 5, .int .i64 7, .int .i64 11, .int .i64 13] 3)) (w.heap.size) #[.int .i64 0, .int .i64 b, .int .i64 c] := (by repeat' (first | ((refine Own.new ?_); (focus (first | rfl | omega | (simp; done) | (simp; omega)))) | assumption | refine Own.alloc ?_ _ | refine Own.drew ?_ | (refine Own.far ?_ ?_ _; rotate_left; (focus (first | rfl | omega | (simp; done) | (simp; omega))))))
    clear ovc ovf ovz
    replace ou : Own (u.alloc (.cells #[.int .i64 2, .int .i64 3, .int .i64 5, .int .i64 7, .int .i64 11, .int .i64 13] 3)) (w3.heap.size) #[.int .i64 p, .int .i64 q, .int .i64 r] := (by repeat' (first | ((refine Own.new ?_); (focus (first | rfl | omega | (simp; done) | (simp; omega)))) | assumption | refine Own.alloc ?_ _ | refine Own.drew ?_ | (refine Own.far ?_ ?_ _; rotate_left; (focus (first | rfl | omega | (simp; done) | (simp; omega))))))
    clear ouc ouf ouz
    replace ow : Own (u.alloc (.cells #[.int .i64 2, .int .i64 3, .int .i64 5, .int .i64 7, .int .i64 11, .int .i64 13] 3)) (w5.heap.size) #[.int .i64 p, .int .i64 q, .int .i64 r] := (by repeat' (first | ((refine Own.new ?_); (focus (first | rfl | omega | (simp; done) | (simp; omega)))) | assumption | refine Own.alloc ?_ _ | refine Own.drew ?_ | (refine Own.far ?_ ?_ _; rotate_left; (focus (first | rfl | omega | (simp; done) | (simp; omega))))))
    clear owc owf owz
    replace hw : Below w.heap.size w (u.alloc (.cells #[.int .i64 2, .int .i64 3, .int .i64 5, .int .i64 7, .int .i64 11, .int .i64 13] 3)) := (by repeat' (first | exact Below.refl _ _ | assumption | (refine Below.alloc ?_ ?_ _; rotate_left; (focus (first | rfl | omega | (simp; done) | (simp; omega)))) | (refine Below.setCell ?_ ?_ _; rotate_left; (focus (first | rfl | omega | (simp; done) | (simp; omega)))) | refine Below.drew ?_))
    generalize u.alloc (.cells #[.int .i64 2, .int .i64 3, .int .i64 5, .int .i64 7, .int .i64 11, .int .i64 13] 3) = w7 at *
    have ovc := ov.cell
    have ovf := ov.thaw
    have ovz := ov.lt
    have ouc := ou.cell
    have ouf := ou.thaw
    have ouz := ou.lt
    have owc := ow.cell
    have owf := ow.thaw
    have owz := ow.lt
    have oec := oe.cell
    have oef := oe.thaw
    have oez := oe.lt
    replace hz := hw.size
    go_loop [12, 96] (fun _ i => ∃ k : Nat, k ≤ 6 ∧ i = .int .i64 k) (fun _ i => 6 - (intOf i).toNat)
    case atStart => exact ⟨0, by omega, rfl⟩
    case round =>
      obtain ⟨k, hk, rfl⟩ := hrel
      by_cases hlt : k < 6
      · have hlt2 : (k : Int) < 6 := by omega
        obtain ⟨m, hm, hcell⟩ := (prime_cell hlt).elim fun m h => (⟨m, h.1, (oec k).trans h.2⟩ : ∃ m : Nat, 2 ≤ m ∧ w7.cell? ⟨u.heap.size, k, none⟩ = some (.int .i64 m))
        have hm0 : ¬ (m : Int) = 0 := by omega
        have hm1 : ((m : Int) == 0) = false := by simpa using hm0
        have hd := S.out.d m hm
        clear oec
        by_cases h1 : p.tmod m = 0
        · by_cases h2 : q.tmod m = 0
          · have h3 : ¬ r.tmod m = 0 := fun h => hd ⟨h1, h2, h⟩
            clear hd
            go_wp2
            go_round
            case rel => exact ⟨k + 1, by omega, by go_num⟩
            case measure => simp [intOf]; omega
          · clear hd
            go_wp2
            go_round
            case rel => exact ⟨k + 1, by omega, by go_num⟩
            case measure => simp [intOf]; omega
        · clear hd
          go_wp2
          go_round
          case rel => exact ⟨k + 1, by omega, by go_num⟩
          case measure => simp [intOf]; omega
      · obtain rfl : k = 6 := by omega
        go_wp2_with fail
        refine Calls.mono (callv (law7_prim p q r p q r 1 S.out.ia S.out.ib S.out.ic _) (congrArg Value.bool (show _ = true from PP.out))) ?_
        rintro e w8 ⟨rfl, hbx⟩
        replace ov : Own w8 (w.heap.size) #[.int .i64 0, .int .i64 b, .int .i64 c] := Own.below (by repeat' (first | ((refine Own.new ?_); (focus (first | rfl | omega | (simp; done) | (simp; omega)))) | assumption | refine Own.alloc ?_ _ | refine Own.drew ?_ | (refine Own.far ?_ ?_ _; rotate_left; (focus (first | rfl | omega | (simp; done) | (simp; omega)))))) hbx
        replace ovc := ov.cell
        replace ovf := ov.thaw
        replace ovz := ov.lt
        replace ou : Own w8 (w3.heap.size) #[.int .i64 p, .int .i64 q, .int .i64 r] := Own.below (by repeat' (first | ((refine Own.new ?_); (focus (first | rfl | omega | (simp; done) | (simp; omega)))) | assumption | refine Own.alloc ?_ _ | refine Own.drew ?_ | (refine Own.far ?_ ?_ _; rotate_left; (focus (first | rfl | omega | (simp; done) | (simp; omega)))))) hbx
        replace ouc := ou.cell
        replace ouf := ou.thaw
        replace ouz := ou.lt
        replace ow : Own w8 (w5.heap.size) #[.int .i64 p, .int .i64 q, .int .i64 r] := Own.below (by repeat' (first | ((refine Own.new ?_); (focus (first | rfl | omega | (simp; done) | (simp; omega)))) | assumption | refine Own.alloc ?_ _ | refine Own.drew ?_ | (refine Own.far ?_ ?_ _; rotate_left; (focus (first | rfl | omega | (simp; done) | (simp; omega)))))) hbx
        replace owc := ow.cell
        replace owf := ow.thaw
        replace owz := ow.lt
        replace oe : Own w8 (u.heap.size) #[.int .i64 2, .int .i64 3, .int .i64 5, .int .i64 7, .int .i64 11, .int .i64 13] := Own.below (by repeat' (first | ((refine Own.new ?_); (focus (first | rfl | omega | (simp; done) | (simp; omega)))) | assumption | refine Own.alloc ?_ _ | refine Own.drew ?_ | (refine Own.far ?_ ?_ _; rotate_left; (focus (first | rfl | omega | (simp; done) | (simp; omega)))))) hbx
        replace oec := oe.cell
        replace oef := oe.thaw
        replace oez := oe.lt
        replace hw : Below w.heap.size w w8 := Below.hop (by repeat' (first | exact Below.refl _ _ | assumption | (refine Below.alloc ?_ ?_ _; rotate_left; (focus (first | rfl | omega | (simp; done) | (simp; omega)))) | (refine Below.setCell ?_ ?_ _; rotate_left; (focus (first | rfl | omega | (simp; done) | (simp; omega)))) | refine Below.drew ?_)) hbx
        replace hz := hw.size
        clear hbx
        go_wp2
        go_ret
        exact ⟨rfl, hw⟩

set_option maxRecDepth 100000 in
set_option maxHeartbeats 4000000 in
theorem law7_Prims_2 (x y z n c p q r g : Int) (hn : 0 ≤ n) (hn2 : n ≤ 65535) (hx : x.tmod 1099511627776 = 0) (hy : y.tmod 1099511627776 = 0) (hz0 : z.tmod 1099511627776 = c)
    (hne : ¬ c = 0) (la : Lt40 0) (lb : Lt40 0) (lc : Lt40 c) (s : PrimsLaw 0 0 c (1 + n % 1000) p q r g) (w : World) :
    Calls Try.prog 4 #[vV x y z, .int .u16 n] w fun r w' => r = .returned (.bool true) ∧ Below w.heap.size w w' := by
  have HV := Lib.hid (show vV (x.tmod 1099511627776) (y.tmod 1099511627776) (z.tmod 1099511627776) = vV 0 0 c by rw [hx, hy, hz0])
  have HP := Lib.hid (show Value.tuple #[(vPrim ⟨0, 0, c⟩).v, .int .i64 (vGcd ⟨0, 0, c⟩)] = .tuple #[vV p q r, .int .i64 g] by rw [s.ep, s.eg])
  have HA := Lib.hid la.i64
  have HB := Lib.hid lb.i64
  have HC := Lib.hid lc.i64
  have spf := s.pf
  have sgf := s.gf
  have A2 := Lib.hid (show I64 0 from ⟨by omega, by omega⟩)
  have B2 := Lib.hid (show I64 0 from ⟨by omega, by omega⟩)
  obtain ⟨c2, hc2⟩ : ∃ c2, wrap64 (c * (1 + n % 1000)) = c2 := ⟨_, rfl⟩
  have C2 := Lib.hid (show I64 c2 by rw [← hc2]; exact wr_I _)
  rw [hc2] at spf sgf
  rw [Int.zero_mul, wr_zero] at spf sgf
  have H2 := Lib.hid (show vV 0 0 (wrap64 (c * (1 + n % 1000))) = vV 0 0 c2 by rw [hc2])
  have HP2 := Lib.hid (show Value.tuple #[(vPrim ⟨0, 0, c2⟩).v, .int .i64 (vGcd ⟨0, 0, c2⟩)] = .tuple #[vV p q r, .int .i64 (wrap64 (g * (1 + n % 1000)))] by rw [spf, sgf])
  clear hc2 spf sgf
  have HB3 := Lib.hid (show vV (wrap64 (p * g)) (wrap64 (q * g)) (wrap64 (r * g)) = vV 0 0 c by rw [s.ea, s.eb, s.ec])
  have g1 : ¬ g < 1 := by have := s.g1; omega
  have g2 : decide (g < 1) = false := by simpa using g1
  have PP := Lib.hid (show (veq (vPrim ⟨p, q, r⟩) ⟨p, q, r⟩ && vGcd ⟨p, q, r⟩ == 1) = true by rw [s.pp, s.gp]; simp [veq])
  have S := Lib.hid s
  clear s hx hy hz0 la lb lc
  go_enter Try.func4, Try.ntmps4
  go_wp2_with fail
  refine Calls.mono (law7_sanity _) ?_
  rintro e w1 ⟨rfl, hbx⟩
  have ov : Own w1 (w.heap.size) #[.int .i64 x, .int .i64 y, .int .i64 z] := Own.below (by repeat' (first | ((refine Own.new ?_); (focus (first | rfl | omega | (simp; done) | (simp; omega)))) | assumption | refine Own.alloc ?_ _ | refine Own.drew ?_ | (refine Own.far ?_ ?_ _; rotate_left; (focus (first | rfl | omega | (simp; done) | (simp; omega)))))) hbx
  have ovc := ov.cell
  have ovf := ov.thaw
  have ovz := ov.lt
  have hw : Below w.heap.size w w1 := Below.hop (by repeat' (first | exact Below.refl _ _ | assumption | (refine Below.alloc ?_ ?_ _; rotate_left; (focus (first | rfl | omega | (simp; done) | (simp; omega)))) | (refine Below.setCell ?_ ?_ _; rotate_left; (focus (first | rfl | omega | (simp; done) | (simp; omega)))) | refine Below.drew ?_)) hbx
  have hz := hw.size
  clear hbx
  go_wp2_with fail
  refine Calls.mono (callv (law7_vec _ _ _ _) (HV.out : _ = vV 0 0 c)) ?_
  rintro e w2 ⟨rfl, hbx⟩
  replace ov : Own w2 (w.heap.size) #[.int .i64 x, .int .i64 y, .int .i64 z] := Own.below (by repeat' (first | ((refine Own.new ?_); (focus (first | rfl | omega | (simp; done) | (simp; omega)))) | assumption | refine Own.alloc ?_ _ | refine Own.drew ?_ | (refine Own.far ?_ ?_ _; rotate_left; (focus (first | rfl | omega | (simp; done) | (simp; omega)))))) hbx
  replace ovc := ov.cell
  replace ovf := ov.thaw
  replace ovz := ov.lt
  replace hw : Below w.heap.size w w2 := Below.hop (by repeat' (first | exact Below.refl _ _ | assumption | (refine Below.alloc ?_ ?_ _; rotate_left; (focus (first | rfl | omega | (simp; done) | (simp; omega)))) | (refine Below.setCell ?_ ?_ _; rotate_left; (focus (first | rfl | omega | (simp; done) | (simp; omega)))) | refine Below.drew ?_)) hbx
  replace hz := hw.size
  clear hbx
  go_wp2_with fail
  refine Calls.mono (callv (plane_Prim 0 0 c HA.out HB.out HC.out _) (HP.out : _ = .tuple #[vV p q r, .int .i64 g])) ?_
  rintro e w3 ⟨rfl, hbx⟩
  replace ov : Own w3 (w.heap.size) #[.int .i64 0, .int .i64 0, .int .i64 c] := (((ov.set 0 _).set 1 _).set 2 _).below hbx
  replace ovc := ov.cell
  replace ovf := ov.thaw
  replace ovz := ov.lt
  replace hw : Below w.heap.size w w3 := Below.hop (by repeat' (first | exact Below.refl _ _ | assumption | (refine Below.alloc ?_ ?_ _; rotate_left; (focus (first | rfl | omega | (simp; done) | (simp; omega)))) | (refine Below.setCell ?_ ?_ _; rotate_left; (focus (first | rfl | omega | (simp; done) | (simp; omega)))) | refine Below.drew ?_)) hbx
  replace hz := hw.size
  clear hbx
  go_wp2_with fail
  refine Calls.mono (callv (law7_vec _ _ _ _) (H2.out : _ = vV 0 0 c2)) ?_
  rintro e w4 ⟨rfl, hbx⟩
  have ou : Own w4 (w3.heap.size) #[.int .i64 p, .int .i64 q, .int .i64 r] := Own.below (by repeat' (first | ((refine Own.new ?_); (focus (first | rfl | omega | (simp; done) | (simp; omega)))) | assumption | refine Own.alloc ?_ _ | refine Own.drew ?_ | (refine Own.far ?_ ?_ _; rotate_left; (focus (first | rfl | omega | (simp; done) | (simp; omega)))))) hbx
  have ouc := ou.cell
  have ouf := ou.thaw
  have ouz := ou.lt
  replace ov : Own w4 (w.heap.size) #[.int .i64 0, .int .i64 0, .int .i64 c] := Own.below (by repeat' (first | ((refine Own.new ?_); (focus (first | rfl | omega | (simp; done) | (simp; omega)))) | assumption | refine Own.alloc ?_ _ | refine Own.drew ?_ | (refine Own.far ?_ ?_ _; rotate_left; (focus (first | rfl | omega | (simp; done) | (simp; omega)))))) hbx
  replace ovc := ov.cell
  replace ovf := ov.thaw
  replace ovz := ov.lt
  replace hw : Below w.heap.size w w4 := Below.hop (by repeat' (first | exact Below.refl _ _ | assumption | (refine Below.alloc ?_ ?_ _; rotate_left; (focus (first | rfl | omega | (simp; done) | (simp; omega)))) | (refine Below.setCell ?_ ?_ _; rotate_left; (focus (first | rfl | omega | (simp; done) | (simp; omega)))) | refine Below.drew ?_)) hbx
  replace hz := hw.size
  clear hbx
  go_wp2_with fail
  refine Calls.mono (callv (plane_Prim 0 0 c2 A2.out B2.out C2.out _) (HP2.out : _ = .tuple #[vV p q r, .int .i64 (wrap64 (g * (1 + n % 1000)))])) ?_
  rintro e w5 ⟨rfl, hbx⟩
  replace ov : Own w5 (w.heap.size) #[.int .i64 0, .int .i64 0, .int .i64 c] := Own.below (by repeat' (first | ((refine Own.new ?_); (focus (first | rfl | omega | (simp; done) | (simp; omega)))) | assumption | refine Own.alloc ?_ _ | refine Own.drew ?_ | (refine Own.far ?_ ?_ _; rotate_left; (focus (first | rfl | omega | (simp; done) | (simp; omega)))))) hbx
  replace ovc := ov.cell
  replace ovf := ov.thaw
  replace ovz := ov.lt
  replace ou : Own w5 (w3.heap.size) #[.int .i64 p, .int .i64 q, .int .i64 r] := Own.below (by repeat' (first | ((refine Own.new ?_); (focus (first | rfl | omega | (simp; done) | (simp; omega)))) | assumption | refine Own.alloc ?_ _ | refine Own.drew ?_ | (refine Own.far ?_ ?_ _; rotate_left; (focus (first | rfl | omega | (simp; done) | (simp; omega)))))) hbx
  replace ouc := ou.cell
  replace ouf := ou.thaw
  replace ouz := ou.lt
  replace hw : Below w.heap.size w w5 := Below.hop (by repeat' (first | exact Below.refl _ _ | assumption | (refine Below.alloc ?_ ?_ _; rotate_left; (focus (first | rfl | omega | (simp; done) | (simp; omega)))) | (refine Below.setCell ?_ ?_ _; rotate_left; (focus (first | rfl | omega | (simp; done) | (simp; omega)))) | refine Below.drew ?_)) hbx
  replace hz := hw.size
  clear hbx
  go_wp2_with fail
  have ow : Own (w5.alloc (.cells #[.int .i64 p, .int .i64 q, .int .i64 r] 24)) (w5.heap.size) #[.int .i64 p, .int .i64 q, .int .i64 r] := Own.new rfl
  replace ov : Own (w5.alloc (.cells #[.int .i64 p, .int .i64 q, .int .i64 r] 24)) (w.heap.size) #[.int .i64 0, .int .i64 0, .int .i64 c] := (by repeat' (first | ((refine Own.new ?_); (focus (first | rfl | omega | (simp; done) | (simp; omega)))) | assumption | refine Own.alloc ?_ _ | refine Own.drew ?_ | (refine Own.far ?_ ?_ _; rotate_left; (focus (first | rfl | omega | (simp; done) | (simp; omega))))))
  clear ovc ovf ovz
  replace ou : Own (w5.alloc (.cells #[.int .i64 p, .int .i64 q, .int .i64 r] 24)) (w3.heap.size) #[.int .i64 p, .int .i64 q, .int .i64 r] := (by repeat' (first | ((refine Own.new ?_); (focus (first | rfl | omega | (simp; done) | (simp; omega)))) | assumption | refine Own.alloc ?_ _ | refine Own.drew ?_ | (refine Own.far ?_ ?_ _; rotate_left; (focus (first | rfl | omega | (simp; done) | (simp; omega))))))
  clear ouc ouf ouz
  replace hw : Below w.heap.size w (w5.alloc (.cells #[.int .i64 p, .int .i64 q, .int .i64 r] 24)) := (by repeat' (first | exact Below.refl _ _ | assumption | (refine Below.alloc ?_ ?_ _; rotate_left; (focus (first | rfl | omega | (simp; done) | (simp; omega)))) | (refine Below.setCell ?_ ?_ _; rotate_left; (focus (first | rfl | omega | (simp; done) | (simp; omega)))) | refine Below.drew ?_))
  generalize w5.alloc (.cells #[.int .i64 p, .int .i64 q, .int .i64 r] 24) = w6 at *
  have ovc := ov.cell
  have ovf := ov.thaw
  have ovz := ov.lt
  have ouc := ou.cell
  have ouf := ou.thaw
  have ouz := ou.lt
  have owc := ow.cell
  have owf := ow.thaw
  have owz := ow.lt
  replace hz := hw.size
  refine region_late 31 [] (by kernel_rfl) (by kernel_rfl) (by rfl) ?_
  apply Exists.intro
  refine ⟨fun v hv hne => ?_, fun u hu => ?_⟩
  · simp only [List.take_succ_cons, List.take_zero]
    have dov := fun x => (ov.later (v := v) (T := []) (by simp) x).cell
    have dou := fun x => (ou.later (v := v) (T := []) (by simp) x).cell
    have dow := fun x => (ow.later (v := v) (T := []) (by simp) x).cell
    repeat (go_big_quiet_step ((first | (go_at_call 22; with_reducible exact lateB (callv (law7_vec _ _ _ _) (HB3.out : _ = vV 0 0 c))))))
    refine wpQuiet_nil ?_
    exact rfl
  · simp only [List.drop_succ_cons, List.drop_zero]
    replace ov := ov.below hu
    replace ou := ou.below hu
    replace ow := ow.below hu
    replace hw := Below.hop hw hu
    replace hz := hw.size
    clear hu
    refine late_nil ?_
    (try simp only [Act.put, List.setIfInBounds_toArray, List.set_cons_zero, List.set_cons_succ])
    have ovc := ov.cell
    have ovf := ov.thaw
    have ovz := ov.lt
    have ouc := ou.cell
    have ouf := ou.thaw
    have ouz := ou.lt
    have owc := ow.cell
    have owf := ow.thaw
    have owz := ow.lt
    go_wp2
    have oe : Own (u.alloc (.cells #[.int .i64 2, .int .i64 3, .int .i64 5, .int .i64 7, .int .i64 11, .int .i64 13] 3)) (u.heap.size) #[.int .i64 2, .int .i64 3, .int .i64 5, .int .i64 7, .int .i64 11, .int .i64 13] := Own.new rfl
    replace ov : Own (u.alloc (.cells #[.int .i64 2, .int .i64 3, .int .i64 5, .int .i64 7, .int .i64 11, .int .i64 13] 3)) (w.heap.size) #[.int .i64 0, .int .i64 0, .int .i64 c] := (by repeat' (first | ((refine Own.new ?_); (focus (first | rfl | omega | (simp; done) | (simp; omega)))) | assumption | refine Own.alloc ?_ _ | refine Own.drew ?_ | (refine Own.far ?_ ?_ _; rotate_left; (focus (first | rfl | omega | (simp; done) | (simp; omega))))))
    clear ovc ovf ovz
    replace ou : Own (u.alloc (.cells #[.int .i64 2, .int .i64 3, .int .i64 5, .int .i64 7, .int .i64 11, .int .i64 13] 3)) (w3.heap.size) #[.int .i64 p, .int .i64 q, .int .i64 r] := (by repeat' (first | ((refine Own.new ?_); (focus (first | rfl | omega | (simp; done) | (simp; omega)))) | assumption | refine Own.alloc ?_ _ | refine Own.drew ?_ | (refine Own.far ?_ ?_ _; rotate_left; (focus (first | rfl | omega | (simp; done) | (simp; omega))))))
    clear ouc ouf ouz
    replace ow : Own (u.alloc (.cells #[.int .i64 2, .int .i64 3, .int .i64 5, .int .i64 7, .int .i64 11, .int .i64 13] 3)) (w5.heap.size) #[.int .i64 p, .int .i64 q, .int .i64 r] := (by repeat' (first | ((refine Own.new ?_); (focus (first | rfl | omega | (simp; done) | (simp; omega)))) | assumption | refine Own.alloc ?_ _ | refine Own.drew ?_ | (refine Own.far ?_ ?_ _; rotate_left; (focus (first | rfl | omega | (simp; done) | (simp; omega))))))
    clear owc owf owz
    replace hw : Below w.heap.size w (u.alloc (.cells #[.int .i64 2, .int .i64 3, .int .i64 5, .int .i64 7, .int .i64 11, .int .i64 13] 3)) := (by repeat' (first | exact Below.refl _ _ | assumption | (refine Below.alloc ?_ ?_ _; rotate_left; (focus (first | rfl | omega | (simp; done) | (simp; omega)))) | (refine Below.setCell ?_ ?_ _; rotate_left; (focus (first | rfl | omega | (simp; done) | (simp; omega)))) | refine Below.drew ?_))
    generalize u.alloc (.cells #[.int .i64 2, .int .i64 3, .int .i64 5, .int .i64 7, .int .i64 11, .int .i64 13] 3) = w7 at *
    have ovc := ov.cell
    have ovf := ov.thaw
    have ovz := ov.lt
    have ouc := ou.cell
    have ouf := ou.thaw
    have ouz := ou.lt
    have owc := ow.cell
    have owf := ow.thaw
    have owz := ow.lt
    have oec := oe.cell
    have oef := oe.thaw
    have oez := oe.lt
    replace hz := hw.size
    go_loop [12, 96] (fun _ i => ∃ k : Nat, k ≤ 6 ∧ i = .int .i64 k) (fun _ i => 6 - (intOf i).toNat)
    case atStart => exact ⟨0, by omega, rfl⟩
    case round =>
      obtain ⟨k, hk, rfl⟩ := hrel
      by_cases hlt : k < 6
      · have hlt2 : (k : Int) < 6 := by omega
        obtain ⟨m, hm, hcell⟩ := (prime_cell hlt).elim fun m h => (⟨m, h.1, (oec k).trans h.2⟩ : ∃ m : Nat, 2 ≤ m ∧ w7.cell? ⟨u.heap.size, k, none⟩ = some (.int .i64 m))
        have hm0 : ¬ (m : Int) = 0 := by omega
        have hm1 : ((m : Int) == 0) = false := by simpa using hm0
        have hd := S.out.d m hm
        clear oec
        by_cases h1 : p.tmod m = 0
        · by_cases h2 : q.tmod m = 0
          · have h3 : ¬ r.tmod m = 0 := fun h => hd ⟨h1, h2, h⟩
            clear hd
            go_wp2
            go_round
            case rel => exact ⟨k + 1, by omega, by go_num⟩
            case measure => simp [intOf]; omega
          · clear hd
            go_wp2
            go_round
            case rel => exact ⟨k + 1, by omega, by go_num⟩
            case measure => simp [intOf]; omega
        · clear hd
          go_wp2
          go_round
          case rel => exact ⟨k + 1, by omega, by go_num⟩
          case measure => simp [intOf]; omega
      · obtain rfl : k = 6 := by omega
        go_wp2_with fail
        refine Calls.mono (callv (law7_prim p q r p q r 1 S.out.ia S.out.ib S.out.ic _) (congrArg Value.bool (show _ = true from PP.out))) ?_
        rintro e w8 ⟨rfl, hbx⟩
        replace ov : Own w8 (w.heap.size) #[.int .i64 0, .int .i64 0, .int .i64 c] := Own.below (by repeat' (first | ((refine Own.new ?_); (focus (first | rfl | omega | (simp; done) | (simp; omega)))) | assumption | refine Own.alloc ?_ _ | refine Own.drew ?_ | (refine Own.far ?_ ?_ _; rotate_left; (focus (first | rfl | omega | (simp; done) | (simp; omega)))))) hbx
        replace ovc := ov.cell
        replace ovf := ov.thaw
        replace ovz := ov.lt
        replace ou : Own w8 (w3.heap.size) #[.int .i64 p, .int .i64 q, .int .i64 r] := Own.below (by repeat' (first | ((refine Own.new ?_); (focus (first | rfl | omega | (simp; done) | (simp; omega)))) | assumption | refine Own.alloc ?_ _ | refine Own.drew ?_ | (refine Own.far ?_ ?_ _; rotate_left; (focus (first | rfl | omega | (simp; done) | (simp; omega)))))) hbx
        replace ouc := ou.cell
        replace ouf := ou.thaw
        replace ouz := ou.lt
        replace ow : Own w8 (w5.heap.size) #[.int .i64 p, .int .i64 q, .int .i64 r] := Own.below (by repeat' (first | ((refine Own.new ?_); (focus (first | rfl | omega | (simp; done) | (simp; omega)))) | assumption | refine Own.alloc ?_ _ | refine Own.drew ?_ | (refine Own.far ?_ ?_ _; rotate_left; (focus (first | rfl | omega | (simp; done) | (simp; omega)))))) hbx
        replace owc := ow.cell
        replace owf := ow.thaw
        replace owz := ow.lt
        replace oe : Own w8 (u.heap.size) #[.int .i64 2, .int .i64 3, .int .i64 5, .int .i64 7, .int .i64 11, .int .i64 13] := Own.below (by repeat' (first | ((refine Own.new ?_); (focus (first | rfl | omega | (simp; done) | (simp; omega)))) | assumption | refine Own.alloc ?_ _ | refine Own.drew ?_ | (refine Own.far ?_ ?_ _; rotate_left; (focus (first | rfl | omega | (simp; done) | (simp; omega)))))) hbx
        replace oec := oe.cell
        replace oef := oe.thaw
        replace oez := oe.lt
        replace hw : Below w.heap.size w w8 := Below.hop (by repeat' (first | exact Below.refl _ _ | assumption | (refine Below.alloc ?_ ?_ _; rotate_left; (focus (first | rfl | omega | (simp; done) | (simp; omega)))) | (refine Below.setCell ?_ ?_ _; rotate_left; (focus (first | rfl | omega | (simp; done) | (simp; omega)))) | refine Below.drew ?_)) hbx
        replace hz := hw.size
        clear hbx
        go_wp2
        go_ret
        exact ⟨rfl, hw⟩

theorem law7_Prims_walk (x y z n : Int) (hn : 0 ≤ n) (hn2 : n ≤ 65535) (w : World) :
    Calls Try.prog 4 #[vV x y z, .int .u16 n] w fun r w' => r = .returned (.bool true) ∧ Below w.heap.size w w' := by
  have la := lt40_tmod x
  have lb := lt40_tmod y
  have lc := lt40_tmod z
  have f1 : 1 ≤ 1 + n % 1000 := by omega
  have f2 : 1 + n % 1000 ≤ 1000 := by omega
  by_cases ha : x.tmod 1099511627776 = 0
  · by_cases hb : y.tmod 1099511627776 = 0
    · by_cases hc : z.tmod 1099511627776 = 0
      · exact law7_Prims_zero x y z n hn hn2 ha hb hc w
      · rw [ha] at la; rw [hb] at lb
        obtain ⟨p, q, r, g, s⟩ := primsLaw la lb lc (fun h => hc h.2.2) f1 f2
        exact law7_Prims_2 x y z n _ p q r g hn hn2 ha hb rfl hc la lb lc s w
    · rw [ha] at la
      obtain ⟨p, q, r, g, s⟩ := primsLaw la lb lc (fun h => hb h.2.1) f1 f2
      exact law7_Prims_1 x y z n _ _ p q r g hn hn2 ha rfl rfl hb la lb lc s w
  · obtain ⟨p, q, r, g, s⟩ := primsLaw la lb lc (fun h => ha h.1) f1 f2
    exact law7_Prims_0 x y z n _ _ _ p q r g hn hn2 rfl rfl rfl ha la lb lc s w
end Go.Proofs.Ythijnggeoinlfaa
