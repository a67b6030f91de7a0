/- The law PlaneTriples returns true. The components are int64. -/
import Derived.Test.YthijnggeoinlfaaSan7
import Derived.Test.YthijnggeoinlfaaTriples
namespace Go.Proofs.Ythijnggeoinlfaa
open Go.RowKit

set_option maxRecDepth 100000 in
set_option maxHeartbeats 4000000 in
theorem law7_Triples_walk (a0 a1 a2 b0 b1 b2 c0 c1 c2 : Int) (h0 : I64 a0) (h1 : I64 a1) (h2 : I64 a2) (w : World) :
    Calls Try.prog 7 #[vV a0 a1 a2, vV b0 b1 b2, vV c0 c1 c2] w fun r w' => r = .returned (.bool true) ∧ Below w.heap.size w w' := by
  obtain ⟨X, hX⟩ : ∃ X, vCross ⟨a0, a1, a2⟩ ⟨b0, b1, b2⟩ = X := ⟨_, rfl⟩
  obtain ⟨Y, hY⟩ : ∃ Y, vCross ⟨b0, b1, b2⟩ ⟨a0, a1, a2⟩ = Y := ⟨_, rfl⟩
  obtain ⟨U, hU⟩ : ∃ U, vCross ⟨b0, b1, b2⟩ ⟨c0, c1, c2⟩ = U := ⟨_, rfl⟩
  obtain ⟨T, hT⟩ : ∃ T, vCross ⟨c0, c1, c2⟩ ⟨a0, a1, a2⟩ = T := ⟨_, rfl⟩
  obtain ⟨S, hS⟩ : ∃ S, vAdd ⟨b0, b1, b2⟩ ⟨c0, c1, c2⟩ = S := ⟨_, rfl⟩
  have H1 := Lib.hid (show vDot X ⟨a0, a1, a2⟩ = 0 by rw [← hX]; exact cross_orth_l _ _)
  have H2 := Lib.hid (show vDot X ⟨b0, b1, b2⟩ = 0 by rw [← hX]; exact cross_orth_r _ _)
  have H3 := Lib.hid (show vAdd X Y = ⟨0, 0, 0⟩ by rw [← hX, ← hY]; exact cross_opp _ _)
  have H4 := Lib.hid (show vDot U ⟨a0, a1, a2⟩ = vDot X ⟨c0, c1, c2⟩ by rw [← hX, ← hU]; exact (triple_cyc _ _ _).symm)
  have H5 := Lib.hid (show vDot T ⟨b0, b1, b2⟩ = vDot X ⟨c0, c1, c2⟩ by rw [← hX, ← hT, triple_cyc, triple_cyc])
  have H6 := Lib.hid (show vSub (vAdd ⟨a0, a1, a2⟩ ⟨b0, b1, b2⟩) ⟨b0, b1, b2⟩ = ⟨a0, a1, a2⟩ from sub_add _ _ ⟨h0, h1, h2⟩)
  have H7 := Lib.hid (show vDot ⟨a0, a1, a2⟩ S = wrap64 (vDot ⟨a0, a1, a2⟩ ⟨b0, b1, b2⟩ + vDot ⟨a0, a1, a2⟩ ⟨c0, c1, c2⟩) by rw [← hS]; exact dot_add _ _ _)
  have HX := Lib.hid hX
  have HY := Lib.hid hY
  have HU := Lib.hid hU
  have HT := Lib.hid hT
  have HS := Lib.hid hS
  clear hX hY hU hT hS h0 h1 h2
  go_enter Try.func7, Try.ntmps7
  go_wp2_with fail
  refine Calls.mono (law7_sanity _) ?_
  rintro e w1 ⟨rfl, hbx⟩
  have oa : Own w1 (w.heap.size) #[.int .i64 a0, .int .i64 a1, .int .i64 a2] := Own.below (by repeat' (first | ((refine Own.new ?_); (focus (first | rfl | omega | (simp; done) | (simp; omega)))) | assumption | refine Own.alloc ?_ _ | refine Own.drew ?_ | (refine Own.far ?_ ?_ _; rotate_left; (focus (first | rfl | omega | (simp; done) | (simp; omega)))))) hbx
  have oac := oa.cell
  have oaf := oa.thaw
  have oaz := oa.lt
  have ob : Own w1 (w.heap.size + 1) #[.int .i64 b0, .int .i64 b1, .int .i64 b2] := Own.below (by repeat' (first | ((refine Own.new ?_); (focus (first | rfl | omega | (simp; done) | (simp; omega)))) | assumption | refine Own.alloc ?_ _ | refine Own.drew ?_ | (refine Own.far ?_ ?_ _; rotate_left; (focus (first | rfl | omega | (simp; done) | (simp; omega)))))) hbx
  have obc := ob.cell
  have obf := ob.thaw
  have obz := ob.lt
  have oc : Own w1 (w.heap.size + 1 + 1) #[.int .i64 c0, .int .i64 c1, .int .i64 c2] := Own.below (by repeat' (first | ((refine Own.new ?_); (focus (first | rfl | omega | (simp; done) | (simp; omega)))) | assumption | refine Own.alloc ?_ _ | refine Own.drew ?_ | (refine Own.far ?_ ?_ _; rotate_left; (focus (first | rfl | omega | (simp; done) | (simp; omega)))))) hbx
  have occ := oc.cell
  have ocf := oc.thaw
  have ocz := oc.lt
  have hw : Below w.heap.size w w1 := Below.hop (by repeat' (first | exact Below.refl _ _ | assumption | (refine Below.alloc ?_ ?_ _; rotate_left; (focus (first | rfl | omega | (simp; done) | (simp; omega)))) | (refine Below.setCell ?_ ?_ _; rotate_left; (focus (first | rfl | omega | (simp; done) | (simp; omega)))) | refine Below.drew ?_)) hbx
  have hz := hw.size
  clear hbx
  go_wp2_with fail
  refine Calls.mono (callv (plane_Cross a0 a1 a2 b0 b1 b2 _) (congrArg V3.v HX.out)) ?_
  rintro e w2 ⟨rfl, hbx⟩
  replace oa : Own w2 (w.heap.size) #[.int .i64 a0, .int .i64 a1, .int .i64 a2] := Own.below (by repeat' (first | ((refine Own.new ?_); (focus (first | rfl | omega | (simp; done) | (simp; omega)))) | assumption | refine Own.alloc ?_ _ | refine Own.drew ?_ | (refine Own.far ?_ ?_ _; rotate_left; (focus (first | rfl | omega | (simp; done) | (simp; omega)))))) hbx
  replace oac := oa.cell
  replace oaf := oa.thaw
  replace oaz := oa.lt
  replace ob : Own w2 (w.heap.size + 1) #[.int .i64 b0, .int .i64 b1, .int .i64 b2] := Own.below (by repeat' (first | ((refine Own.new ?_); (focus (first | rfl | omega | (simp; done) | (simp; omega)))) | assumption | refine Own.alloc ?_ _ | refine Own.drew ?_ | (refine Own.far ?_ ?_ _; rotate_left; (focus (first | rfl | omega | (simp; done) | (simp; omega)))))) hbx
  replace obc := ob.cell
  replace obf := ob.thaw
  replace obz := ob.lt
  replace oc : Own w2 (w.heap.size + 1 + 1) #[.int .i64 c0, .int .i64 c1, .int .i64 c2] := Own.below (by repeat' (first | ((refine Own.new ?_); (focus (first | rfl | omega | (simp; done) | (simp; omega)))) | assumption | refine Own.alloc ?_ _ | refine Own.drew ?_ | (refine Own.far ?_ ?_ _; rotate_left; (focus (first | rfl | omega | (simp; done) | (simp; omega)))))) hbx
  replace occ := oc.cell
  replace ocf := oc.thaw
  replace ocz := oc.lt
  replace hw : Below w.heap.size w w2 := Below.hop (by repeat' (first | exact Below.refl _ _ | assumption | (refine Below.alloc ?_ ?_ _; rotate_left; (focus (first | rfl | omega | (simp; done) | (simp; omega)))) | (refine Below.setCell ?_ ?_ _; rotate_left; (focus (first | rfl | omega | (simp; done) | (simp; omega)))) | refine Below.drew ?_)) hbx
  replace hz := hw.size
  clear hbx
  go_wp2_with fail
  refine Calls.mono (callv (plane_Cross b0 b1 b2 a0 a1 a2 _) (congrArg V3.v HY.out)) ?_
  rintro e w3 ⟨rfl, hbx⟩
  have ox : Own w3 (w2.heap.size) #[.int .i64 X.x, .int .i64 X.y, .int .i64 X.z] := Own.below (by repeat' (first | ((refine Own.new ?_); (focus (first | rfl | omega | (simp; done) | (simp; omega)))) | assumption | refine Own.alloc ?_ _ | refine Own.drew ?_ | (refine Own.far ?_ ?_ _; rotate_left; (focus (first | rfl | omega | (simp; done) | (simp; omega)))))) hbx
  have oxc := ox.cell
  have oxf := ox.thaw
  have oxz := ox.lt
  replace oa : Own w3 (w.heap.size) #[.int .i64 a0, .int .i64 a1, .int .i64 a2] := Own.below (by repeat' (first | ((refine Own.new ?_); (focus (first | rfl | omega | (simp; done) | (simp; omega)))) | assumption | refine Own.alloc ?_ _ | refine Own.drew ?_ | (refine Own.far ?_ ?_ _; rotate_left; (focus (first | rfl | omega | (simp; done) | (simp; omega)))))) hbx
  replace oac := oa.cell
  replace oaf := oa.thaw
  replace oaz := oa.lt
  replace ob : Own w3 (w.heap.size + 1) #[.int .i64 b0, .int .i64 b1, .int .i64 b2] := Own.below (by repeat' (first | ((refine Own.new ?_); (focus (first | rfl | omega | (simp; done) | (simp; omega)))) | assumption | refine Own.alloc ?_ _ | refine Own.drew ?_ | (refine Own.far ?_ ?_ _; rotate_left; (focus (first | rfl | omega | (simp; done) | (simp; omega)))))) hbx
  replace obc := ob.cell
  replace obf := ob.thaw
  replace obz := ob.lt
  replace oc : Own w3 (w.heap.size + 1 + 1) #[.int .i64 c0, .int .i64 c1, .int .i64 c2] := Own.below (by repeat' (first | ((refine Own.new ?_); (focus (first | rfl | omega | (simp; done) | (simp; omega)))) | assumption | refine Own.alloc ?_ _ | refine Own.drew ?_ | (refine Own.far ?_ ?_ _; rotate_left; (focus (first | rfl | omega | (simp; done) | (simp; omega)))))) hbx
  replace occ := oc.cell
  replace ocf := oc.thaw
  replace ocz := oc.lt
  replace hw : Below w.heap.size w w3 := Below.hop (by repeat' (first | exact Below.refl _ _ | assumption | (refine Below.alloc ?_ ?_ _; rotate_left; (focus (first | rfl | omega | (simp; done) | (simp; omega)))) | (refine Below.setCell ?_ ?_ _; rotate_left; (focus (first | rfl | omega | (simp; done) | (simp; omega)))) | refine Below.drew ?_)) hbx
  replace hz := hw.size
  clear hbx
  go_wp2_with fail
  refine Calls.mono (callv (plane_Dot X.x X.y X.z a0 a1 a2 _) (congrArg (Value.int IntKind.i64) H1.out)) ?_
  rintro e w4 ⟨rfl, hbx⟩
  have oy : Own w4 (w3.heap.size) #[.int .i64 Y.x, .int .i64 Y.y, .int .i64 Y.z] := Own.below (by repeat' (first | ((refine Own.new ?_); (focus (first | rfl | omega | (simp; done) | (simp; omega)))) | assumption | refine Own.alloc ?_ _ | refine Own.drew ?_ | (refine Own.far ?_ ?_ _; rotate_left; (focus (first | rfl | omega | (simp; done) | (simp; omega)))))) hbx
  have oyc := oy.cell
  have oyf := oy.thaw
  have oyz := oy.lt
  replace oa : Own w4 (w.heap.size) #[.int .i64 a0, .int .i64 a1, .int .i64 a2] := Own.below (by repeat' (first | ((refine Own.new ?_); (focus (first | rfl | omega | (simp; done) | (simp; omega)))) | assumption | refine Own.alloc ?_ _ | refine Own.drew ?_ | (refine Own.far ?_ ?_ _; rotate_left; (focus (first | rfl | omega | (simp; done) | (simp; omega)))))) hbx
  replace oac := oa.cell
  replace oaf := oa.thaw
  replace oaz := oa.lt
  replace ob : Own w4 (w.heap.size + 1) #[.int .i64 b0, .int .i64 b1, .int .i64 b2] := Own.below (by repeat' (first | ((refine Own.new ?_); (focus (first | rfl | omega | (simp; done) | (simp; omega)))) | assumption | refine Own.alloc ?_ _ | refine Own.drew ?_ | (refine Own.far ?_ ?_ _; rotate_left; (focus (first | rfl | omega | (simp; done) | (simp; omega)))))) hbx
  replace obc := ob.cell
  replace obf := ob.thaw
  replace obz := ob.lt
  replace oc : Own w4 (w.heap.size + 1 + 1) #[.int .i64 c0, .int .i64 c1, .int .i64 c2] := Own.below (by repeat' (first | ((refine Own.new ?_); (focus (first | rfl | omega | (simp; done) | (simp; omega)))) | assumption | refine Own.alloc ?_ _ | refine Own.drew ?_ | (refine Own.far ?_ ?_ _; rotate_left; (focus (first | rfl | omega | (simp; done) | (simp; omega)))))) hbx
  replace occ := oc.cell
  replace ocf := oc.thaw
  replace ocz := oc.lt
  replace ox : Own w4 (w2.heap.size) #[.int .i64 X.x, .int .i64 X.y, .int .i64 X.z] := Own.below (by repeat' (first | ((refine Own.new ?_); (focus (first | rfl | omega | (simp; done) | (simp; omega)))) | assumption | refine Own.alloc ?_ _ | refine Own.drew ?_ | (refine Own.far ?_ ?_ _; rotate_left; (focus (first | rfl | omega | (simp; done) | (simp; omega)))))) hbx
  replace oxc := ox.cell
  replace oxf := ox.thaw
  replace oxz := ox.lt
  replace hw : Below w.heap.size w w4 := Below.hop (by repeat' (first | exact Below.refl _ _ | assumption | (refine Below.alloc ?_ ?_ _; rotate_left; (focus (first | rfl | omega | (simp; done) | (simp; omega)))) | (refine Below.setCell ?_ ?_ _; rotate_left; (focus (first | rfl | omega | (simp; done) | (simp; omega)))) | refine Below.drew ?_)) hbx
  replace hz := hw.size
  clear hbx
  go_wp2_with (first | (go_at_call 29; with_reducible refine Calls.mono (callv (plane_Dot X.x X.y X.z b0 b1 b2 _) (congrArg (Value.int IntKind.i64) H2.out)) ?_; rintro e wx ⟨rfl, hbx⟩; replace oa : Own wx (w.heap.size) #[.int .i64 a0, .int .i64 a1, .int .i64 a2] := Own.below (by repeat' (first | ((refine Own.new ?_); (focus (first | rfl | omega | (simp; done) | (simp; omega)))) | assumption | refine Own.alloc ?_ _ | refine Own.drew ?_ | (refine Own.far ?_ ?_ _; rotate_left; (focus (first | rfl | omega | (simp; done) | (simp; omega)))))) hbx; replace oac := oa.cell; replace oaf := oa.thaw; replace oaz := oa.lt; replace ob : Own wx (w.heap.size + 1) #[.int .i64 b0, .int .i64 b1, .int .i64 b2] := Own.below (by repeat' (first | ((refine Own.new ?_); (focus (first | rfl | omega | (simp; done) | (simp; omega)))) | assumption | refine Own.alloc ?_ _ | refine Own.drew ?_ | (refine Own.far ?_ ?_ _; rotate_left; (focus (first | rfl | omega | (simp; done) | (simp; omega)))))) hbx; replace obc := ob.cell; replace obf := ob.thaw; replace obz := ob.lt; replace oc : Own wx (w.heap.size + 1 + 1) #[.int .i64 c0, .int .i64 c1, .int .i64 c2] := Own.below (by repeat' (first | ((refine Own.new ?_); (focus (first | rfl | omega | (simp; done) | (simp; omega)))) | assumption | refine Own.alloc ?_ _ | refine Own.drew ?_ | (refine Own.far ?_ ?_ _; rotate_left; (focus (first | rfl | omega | (simp; done) | (simp; omega)))))) hbx; replace occ := oc.cell; replace ocf := oc.thaw; replace ocz := oc.lt; replace ox : Own wx (w2.heap.size) #[.int .i64 X.x, .int .i64 X.y, .int .i64 X.z] := Own.below (by repeat' (first | ((refine Own.new ?_); (focus (first | rfl | omega | (simp; done) | (simp; omega)))) | assumption | refine Own.alloc ?_ _ | refine Own.drew ?_ | (refine Own.far ?_ ?_ _; rotate_left; (focus (first | rfl | omega | (simp; done) | (simp; omega)))))) hbx; replace oxc := ox.cell; replace oxf := ox.thaw; replace oxz := ox.lt; replace oy : Own wx (w3.heap.size) #[.int .i64 Y.x, .int .i64 Y.y, .int .i64 Y.z] := Own.below (by repeat' (first | ((refine Own.new ?_); (focus (first | rfl | omega | (simp; done) | (simp; omega)))) | assumption | refine Own.alloc ?_ _ | refine Own.drew ?_ | (refine Own.far ?_ ?_ _; rotate_left; (focus (first | rfl | omega | (simp; done) | (simp; omega)))))) hbx; replace oyc := oy.cell; replace oyf := oy.thaw; replace oyz := oy.lt; replace hw : Below w.heap.size w wx := Below.hop (by repeat' (first | exact Below.refl _ _ | assumption | (refine Below.alloc ?_ ?_ _; rotate_left; (focus (first | rfl | omega | (simp; done) | (simp; omega)))) | (refine Below.setCell ?_ ?_ _; rotate_left; (focus (first | rfl | omega | (simp; done) | (simp; omega)))) | refine Below.drew ?_)) hbx; replace hz := hw.size; clear hbx) | (go_at_call 27; with_reducible refine Calls.mono (callv (plane_Add X.x X.y X.z Y.x Y.y Y.z _) (congrArg V3.v H3.out)) ?_; rintro e wx ⟨rfl, hbx⟩; replace oa : Own wx (w.heap.size) #[.int .i64 a0, .int .i64 a1, .int .i64 a2] := Own.below (by repeat' (first | ((refine Own.new ?_); (focus (first | rfl | omega | (simp; done) | (simp; omega)))) | assumption | refine Own.alloc ?_ _ | refine Own.drew ?_ | (refine Own.far ?_ ?_ _; rotate_left; (focus (first | rfl | omega | (simp; done) | (simp; omega)))))) hbx; replace oac := oa.cell; replace oaf := oa.thaw; replace oaz := oa.lt; replace ob : Own wx (w.heap.size + 1) #[.int .i64 b0, .int .i64 b1, .int .i64 b2] := Own.below (by repeat' (first | ((refine Own.new ?_); (focus (first | rfl | omega | (simp; done) | (simp; omega)))) | assumption | refine Own.alloc ?_ _ | refine Own.drew ?_ | (refine Own.far ?_ ?_ _; rotate_left; (focus (first | rfl | omega | (simp; done) | (simp; omega)))))) hbx; replace obc := ob.cell; replace obf := ob.thaw; replace obz := ob.lt; replace oc : Own wx (w.heap.size + 1 + 1) #[.int .i64 c0, .int .i64 c1, .int .i64 c2] := Own.below (by repeat' (first | ((refine Own.new ?_); (focus (first | rfl | omega | (simp; done) | (simp; omega)))) | assumption | refine Own.alloc ?_ _ | refine Own.drew ?_ | (refine Own.far ?_ ?_ _; rotate_left; (focus (first | rfl | omega | (simp; done) | (simp; omega)))))) hbx; replace occ := oc.cell; replace ocf := oc.thaw; replace ocz := oc.lt; replace ox : Own wx (w2.heap.size) #[.int .i64 X.x, .int .i64 X.y, .int .i64 X.z] := Own.below (by repeat' (first | ((refine Own.new ?_); (focus (first | rfl | omega | (simp; done) | (simp; omega)))) | assumption | refine Own.alloc ?_ _ | refine Own.drew ?_ | (refine Own.far ?_ ?_ _; rotate_left; (focus (first | rfl | omega | (simp; done) | (simp; omega)))))) hbx; replace oxc := ox.cell; replace oxf := ox.thaw; replace oxz := ox.lt; replace oy : Own wx (w3.heap.size) #[.int .i64 Y.x, .int .i64 Y.y, .int .i64 Y.z] := Own.below (by repeat' (first | ((refine Own.new ?_); (focus (first | rfl | omega | (simp; done) | (simp; omega)))) | assumption | refine Own.alloc ?_ _ | refine Own.drew ?_ | (refine Own.far ?_ ?_ _; rotate_left; (focus (first | rfl | omega | (simp; done) | (simp; omega)))))) hbx; replace oyc := oy.cell; replace oyf := oy.thaw; replace oyz := oy.lt; replace hw : Below w.heap.size w wx := Below.hop (by repeat' (first | exact Below.refl _ _ | assumption | (refine Below.alloc ?_ ?_ _; rotate_left; (focus (first | rfl | omega | (simp; done) | (simp; omega)))) | (refine Below.setCell ?_ ?_ _; rotate_left; (focus (first | rfl | omega | (simp; done) | (simp; omega)))) | refine Below.drew ?_)) hbx; replace hz := hw.size; clear hbx))
  refine region_late 20 [] (by kernel_rfl) (by kernel_rfl) (by rfl) ?_
  apply Exists.intro
  refine ⟨fun v hv hne => ?_, fun u hu => ?_⟩
  · simp only [List.take_succ_cons, List.take_zero]
    have doa := fun x => (oa.later (v := v) (T := []) (by simp) x).cell
    have dob := fun x => (ob.later (v := v) (T := []) (by simp) x).cell
    have doc := fun x => (oc.later (v := v) (T := []) (by simp) x).cell
    have dox := fun x => (ox.later (v := v) (T := []) (by simp) x).cell
    have doy := fun x => (oy.later (v := v) (T := []) (by simp) x).cell
    repeat (go_big_quiet_step ((first | (go_at_call 29; with_reducible exact lateB (plane_Dot X.x X.y X.z c0 c1 c2 _)) | (go_at_call 31; with_reducible exact lateB (callv (plane_Cross b0 b1 b2 c0 c1 c2 _) (congrArg V3.v HU.out))) | (go_at_call 29; with_reducible exact lateB (callv (plane_Dot U.x U.y U.z a0 a1 a2 _) (congrArg (Value.int IntKind.i64) H4.out))) | (go_at_call 31; with_reducible exact lateB (callv (plane_Cross c0 c1 c2 a0 a1 a2 _) (congrArg V3.v HT.out))) | (go_at_call 29; with_reducible exact lateB (callv (plane_Dot T.x T.y T.z b0 b1 b2 _) (congrArg (Value.int IntKind.i64) H5.out))))))
    refine wpQuiet_nil ?_
    exact rfl
  · simp only [List.drop_succ_cons, List.drop_zero]
    refine late_mem (fun K hK => ?_)
    go_simp
    refine hK _ _ (Keeps.of_below hu) (fun u2 hu2 => ?_)
    clear hK K
    replace oa := (oa.below hu).below hu2
    replace ob := (ob.below hu).below hu2
    replace oc := (oc.below hu).below hu2
    replace ox := (ox.below hu).below hu2
    replace oy := (oy.below hu).below hu2
    replace hw := Below.hop (Below.hop hw hu) hu2
    replace hz := hw.size
    clear hu hu2
    refine late_nil ?_
    (try simp only [Act.put, List.setIfInBounds_toArray, List.set_cons_zero, List.set_cons_succ])
    have oac := oa.cell
    have oaf := oa.thaw
    have oaz := oa.lt
    have obc := ob.cell
    have obf := ob.thaw
    have obz := ob.lt
    have occ := oc.cell
    have ocf := oc.thaw
    have ocz := oc.lt
    have oxc := ox.cell
    have oxf := ox.thaw
    have oxz := ox.lt
    have oyc := oy.cell
    have oyf := oy.thaw
    have oyz := oy.lt
    clear oxc oxf oxz ox oyc oyf oyz oy
    go_wp2_with fail
    refine region_late 31 [] (by kernel_rfl) (by kernel_rfl) (by rfl) ?_
    apply Exists.intro
    refine ⟨fun v hv hne => ?_, fun u hu => ?_⟩
    · simp only [List.take_succ_cons, List.take_zero]
      have doa := fun x => (oa.later (v := v) (T := []) (by simp) x).cell
      have dob := fun x => (ob.later (v := v) (T := []) (by simp) x).cell
      have doc := fun x => (oc.later (v := v) (T := []) (by simp) x).cell
      repeat (go_big_quiet_step ((first | (go_at_call 27; with_reducible exact lateB (plane_Add a0 a1 a2 b0 b1 b2 _)) | (go_at_call 28; with_reducible exact lateB (callv (plane_Sub (vAdd ⟨a0, a1, a2⟩ ⟨b0, b1, b2⟩).x (vAdd ⟨a0, a1, a2⟩ ⟨b0, b1, b2⟩).y (vAdd ⟨a0, a1, a2⟩ ⟨b0, b1, b2⟩).z b0 b1 b2 _) (congrArg V3.v H6.out))) | (go_at_call 27; with_reducible exact lateB (callv (plane_Add b0 b1 b2 c0 c1 c2 _) (congrArg V3.v HS.out))) | (go_at_call 29; with_reducible exact lateB (callv (plane_Dot a0 a1 a2 S.x S.y S.z _) (congrArg (Value.int IntKind.i64) H7.out))) | (go_at_call 29; with_reducible exact lateB (plane_Dot a0 a1 a2 b0 b1 b2 _)) | (go_at_call 29; with_reducible exact lateB (plane_Dot a0 a1 a2 c0 c1 c2 _)))))
      refine wpQuiet_nil ?_
      exact rfl
    · simp only [List.drop_succ_cons, List.drop_zero]
      refine late_mem (fun K hK => ?_)
      go_simp
      refine hK _ _ (Keeps.of_below hu) (fun u4 hu2 => ?_)
      clear hK K
      replace oa := (oa.below hu).below hu2
      replace ob := (ob.below hu).below hu2
      replace oc := (oc.below hu).below hu2
      replace hw := Below.hop (Below.hop hw hu) hu2
      replace hz := hw.size
      clear hu hu2
      refine late_nil ?_
      (try simp only [Act.put, List.setIfInBounds_toArray, List.set_cons_zero, List.set_cons_succ])
      have oac := oa.cell
      have oaf := oa.thaw
      have oaz := oa.lt
      have obc := ob.cell
      have obf := ob.thaw
      have obz := ob.lt
      have occ := oc.cell
      have ocf := oc.thaw
      have ocz := oc.lt
      go_wp2
      go_ret
      exact ⟨rfl, hw⟩
end Go.Proofs.Ythijnggeoinlfaa
