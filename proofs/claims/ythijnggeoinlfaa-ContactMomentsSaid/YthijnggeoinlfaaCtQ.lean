/- What Cone of the reference of package contact returns. The components are int64. -/
import Derived.Test.YthijnggeoinlfaaCtP
import Derived.Test.YthijnggeoinlfaaCtF
import Derived.Test.YthijnggeoinlfaaApp
import Derived.Test.YthijnggeoinlfaaCtC
namespace Go.Proofs.Ythijnggeoinlfaa
open Go.RowKit

/-- The edges as the reference has them. -/
def refE (n : V3) (mn md : Int) (a : V3) : List V3 := [vAdd (vTimes md n) (vTimes mn a), vSub (vTimes md n) (vTimes mn a)]
def refK (n : V3) (mn md : Int) (k : Nat) : List V3 := match k with | 0 => [] | 1 => refE n mn md (axA n) | _ => refE n mn md (axA n) ++ refE n mn md (axB n)
theorem wr_neg (x : Int) : wrap64 (-wrap64 x) = wrap64 (-x) := by unfold wrap64; omega
theorem refK_edges {n : V3} (h : cUnit n = true) (mn md : Int) : refK n mn md 2 = edgesK n mn md 3 := by
  rcases unit_cases h with rfl | rfl | rfl | rfl | rfl | rfl <;>
    simp [refK, refE, edgesK, compV, edgeV, axA, axB, vTimes, vAdd, vSub, wr_zero, wr_idem, wr_neg]
theorem ownsRow_below {w w' : World} {base : Nat} {e : TypeId} {size : Nat} {v : Value} {n : Nat} {xs : List Value} (h : w.ownsRow base e size v n xs) (hb : Below w.heap.size w w') : w'.ownsRow base e size v n xs :=
  h.kept (below_grown hb) (by
    rcases h.2 with ⟨rfl, _⟩ | ⟨g, cap, cur, rfl, _⟩
    · exact .inl rfl
    · exact .inr (by simp [Value.ownBlock]))
theorem ownsRow_base {w : World} {B B' : Nat} {e : TypeId} {size : Nat} {v : Value} {n : Nat} {xs : List Value} (h : w.ownsRow B e size v n xs) (hb : B' ≤ B) : w.ownsRow B' e size v n xs :=
  ⟨h.1, h.2.imp_right fun ⟨g, cap, cur, h1, h2, h3⟩ => ⟨g, cap, cur, h1, Nat.le_trans hb h2, h3⟩⟩
theorem Keeps.grown {T : List Nat} {w u v : World} {row : Option Nat} (h : Keeps T w u) (hg : u.grownBy v row) (hr : ∀ r, row = some r → r ∈ T ∨ w.heap.size ≤ r) : Keeps T w v :=
  ⟨Nat.le_trans h.1 hg.size, fun b hb ht => (hg.block b (Nat.lt_of_lt_of_le hb h.1) (fun e => (hr b e.symm).elim ht (fun h1 => by omega))).trans (h.2 b hb ht)⟩

set_option maxRecDepth 100000 in
set_option maxHeartbeats 1000000 in
theorem ref25_Cone_one (a0 a1 a2 n0 n1 n2 md : Int) (h : cCheck ⟨⟨a0, a1, a2⟩, ⟨n0, n1, n2⟩, 0, md⟩ = 0) (w : World) :
    Calls Try.prog 56 #[vC a0 a1 a2 n0 n1 n2 0 md] w fun r w' => ∃ v, r = .returned v ∧ SlV w.heap.size w' v [⟨n0, n1, n2⟩] ∧ Below w.heap.size w w' := by
  have HC := Lib.hid (congrArg (Value.int IntKind.i64) h)
  clear h
  go_enter Try.func56, Try.ntmps56
  go_wp2_with fail
  refine Calls.mono (callv (ref25_Check a0 a1 a2 n0 n1 n2 0 md _) HC.out) ?_
  rintro e w1 ⟨rfl, hb1⟩
  have oc : Own w1 w.heap.size #[.int .i64 a0, .int .i64 a1, .int .i64 a2, .int .i64 n0, .int .i64 n1, .int .i64 n2, .int .i64 0, .int .i64 md] := Own.below (Own.new rfl) hb1
  have occ := oc.cell
  have ocf := oc.thaw
  have ocz := oc.lt
  have hw : Below w.heap.size w w1 := Below.hop ((Below.refl _ _).alloc (Nat.le_refl _) _) hb1
  clear hb1
  go_wp2
  go_ret
  exact ⟨_, rfl, SlV.one (by omega), hw.alloc (by omega) _⟩
set_option maxRecDepth 100000 in
set_option maxHeartbeats 1000000 in
theorem ref25_Cone_bad (a0 a1 a2 n0 n1 n2 mn md : Int) (h : ¬ cCheck ⟨⟨a0, a1, a2⟩, ⟨n0, n1, n2⟩, mn, md⟩ = 0) (w : World) :
    Calls Try.prog 56 #[vC a0 a1 a2 n0 n1 n2 mn md] w fun r w' => ∃ v, r = .returned v ∧ SlV w.heap.size w' v [] ∧ Below w.heap.size w w' := by
  obtain ⟨c, hc⟩ : ∃ c, cCheck ⟨⟨a0, a1, a2⟩, ⟨n0, n1, n2⟩, mn, md⟩ = c := ⟨_, rfl⟩
  rw [hc] at h
  have HC := Lib.hid (congrArg (Value.int IntKind.i64) hc)
  clear hc
  go_enter Try.func56, Try.ntmps56
  go_wp2_with fail
  refine Calls.mono (callv (ref25_Check a0 a1 a2 n0 n1 n2 mn md _) HC.out) ?_
  rintro e w1 ⟨rfl, hb1⟩
  have hw : Below w.heap.size w w1 := Below.hop ((Below.refl _ _).alloc (Nat.le_refl _) _) hb1
  clear hb1
  go_wp2
  go_ret
  exact ⟨_, rfl, ⟨World.ownsRow_nil _ _ _ _, by simp⟩, hw⟩
set_option maxRecDepth 100000 in
set_option maxHeartbeats 4000000 in
theorem ref25_Cone_edges (a0 a1 a2 n0 n1 n2 mn md : Int) (h : cCheck ⟨⟨a0, a1, a2⟩, ⟨n0, n1, n2⟩, mn, md⟩ = 0) (hm : ¬ mn = 0) (w : World) :
    Calls Try.prog 56 #[vC a0 a1 a2 n0 n1 n2 mn md] w fun r w' => ∃ v, r = .returned v ∧ SlV w.heap.size w' v (edgesK ⟨n0, n1, n2⟩ mn md 3) ∧ Below w.heap.size w w' := by
  obtain ⟨i0, hi, hz0, hz1, hz2⟩ := info_parts infoVec
  have HE := Lib.hid (refK_edges (ctOk h).u mn md)
  have HC := Lib.hid (congrArg (Value.int IntKind.i64) h)
  clear h
  obtain ⟨A, hA⟩ : ∃ A, axA ⟨n0, n1, n2⟩ = A := ⟨_, rfl⟩
  obtain ⟨B, hB⟩ : ∃ B, axB ⟨n0, n1, n2⟩ = B := ⟨_, rfl⟩
  have HX : Hid (Value.agg #[.int .i64 (axA ⟨n0, n1, n2⟩).x, .int .i64 (axA ⟨n0, n1, n2⟩).y, .int .i64 (axA ⟨n0, n1, n2⟩).z, .int .i64 (axB ⟨n0, n1, n2⟩).x, .int .i64 (axB ⟨n0, n1, n2⟩).y, .int .i64 (axB ⟨n0, n1, n2⟩).z] = .agg #[.int .i64 A.x, .int .i64 A.y, .int .i64 A.z, .int .i64 B.x, .int .i64 B.y, .int .i64 B.z]) := Lib.hid (by rw [hA, hB])
  obtain ⟨⟨up0, up1, up2⟩, hU⟩ : ∃ U, vTimes md ⟨n0, n1, n2⟩ = U := ⟨_, rfl⟩
  have HU := Lib.hid (congrArg V3.v hU)
  obtain ⟨⟨s00, s01, s02⟩, hS0⟩ : ∃ U, vTimes mn A = U := ⟨_, rfl⟩
  have HS0 : Hid ((vTimes mn ⟨A.x, A.y, A.z⟩).v = vV s00 s01 s02) := Lib.hid (congrArg V3.v hS0)
  obtain ⟨⟨p00, p01, p02⟩, hP0⟩ : ∃ U, vAdd ⟨up0, up1, up2⟩ ⟨s00, s01, s02⟩ = U := ⟨_, rfl⟩
  have HA0 : Hid ((vAdd ⟨up0, up1, up2⟩ ⟨s00, s01, s02⟩).v = vV p00 p01 p02) := Lib.hid (congrArg V3.v hP0)
  obtain ⟨⟨q00, q01, q02⟩, hQ0⟩ : ∃ U, vSub ⟨up0, up1, up2⟩ ⟨s00, s01, s02⟩ = U := ⟨_, rfl⟩
  have HD0 : Hid ((vSub ⟨up0, up1, up2⟩ ⟨s00, s01, s02⟩).v = vV q00 q01 q02) := Lib.hid (congrArg V3.v hQ0)
  obtain ⟨⟨s10, s11, s12⟩, hS1⟩ : ∃ U, vTimes mn B = U := ⟨_, rfl⟩
  have HS1 : Hid ((vTimes mn ⟨B.x, B.y, B.z⟩).v = vV s10 s11 s12) := Lib.hid (congrArg V3.v hS1)
  obtain ⟨⟨p10, p11, p12⟩, hP1⟩ : ∃ U, vAdd ⟨up0, up1, up2⟩ ⟨s10, s11, s12⟩ = U := ⟨_, rfl⟩
  have HA1 : Hid ((vAdd ⟨up0, up1, up2⟩ ⟨s10, s11, s12⟩).v = vV p10 p11 p12) := Lib.hid (congrArg V3.v hP1)
  obtain ⟨⟨q10, q11, q12⟩, hQ1⟩ : ∃ U, vSub ⟨up0, up1, up2⟩ ⟨s10, s11, s12⟩ = U := ⟨_, rfl⟩
  have HD1 : Hid ((vSub ⟨up0, up1, up2⟩ ⟨s10, s11, s12⟩).v = vV q10 q11 q12) := Lib.hid (congrArg V3.v hQ1)
  have HF0 : Hid (flatV (refK ⟨n0, n1, n2⟩ mn md 0) ++ [.int .i64 p00, .int .i64 p01, .int .i64 p02, .int .i64 q00, .int .i64 q01, .int .i64 q02] = flatV (refK ⟨n0, n1, n2⟩ mn md 1)) := Lib.hid (by simp [refK, refE, flatV, hA, hU, hS0, hP0, hQ0])
  have HF1 : Hid (flatV (refK ⟨n0, n1, n2⟩ mn md 1) ++ [.int .i64 p10, .int .i64 p11, .int .i64 p12, .int .i64 q10, .int .i64 q11, .int .i64 q12] = flatV (refK ⟨n0, n1, n2⟩ mn md 2)) := Lib.hid (by simp [refK, refE, flatV, hA, hB, hU, hS0, hS1, hP0, hP1, hQ0, hQ1])
  clear hA hB hU hS0 hS1 hP0 hP1 hQ0 hQ1
  go_enter Try.func56, Try.ntmps56
  go_wp2_with fail
  refine Calls.mono (callv (ref25_Check a0 a1 a2 n0 n1 n2 mn md _) HC.out) ?_
  rintro e w1 ⟨rfl, hbx⟩
  have oc : Own w1 (w.heap.size) #[.int .i64 a0, .int .i64 a1, .int .i64 a2, .int .i64 n0, .int .i64 n1, .int .i64 n2, .int .i64 mn, .int .i64 md] := Own.below (by repeat' (first | ((refine Own.new ?_); (focus (first | rfl | omega | (simp; done) | (simp; omega)))) | assumption | refine Own.alloc ?_ _ | refine Own.drew ?_ | (refine Own.far ?_ ?_ _; rotate_left; (focus (first | rfl | omega | (simp; done) | (simp; omega)))))) hbx
  have occ := oc.cell
  have ocf := oc.thaw
  have ocz := oc.lt
  have hw : Below w.heap.size w w1 := Below.hop (by repeat' (first | exact Below.refl _ _ | assumption | (refine Below.alloc ?_ ?_ _; rotate_left; (focus (first | rfl | omega | (simp; done) | (simp; omega)))) | (refine Below.setCell ?_ ?_ _; rotate_left; (focus (first | rfl | omega | (simp; done) | (simp; omega)))) | refine Below.drew ?_)) hbx
  have hz := hw.size
  clear hbx
  go_wp2_with fail
  refine Calls.mono (callv (ref25_axes a0 a1 a2 n0 n1 n2 mn md _) HX.out) ?_
  rintro e w2 ⟨rfl, hbx⟩
  replace oc : Own w2 (w.heap.size) #[.int .i64 a0, .int .i64 a1, .int .i64 a2, .int .i64 n0, .int .i64 n1, .int .i64 n2, .int .i64 mn, .int .i64 md] := Own.below (by repeat' (first | ((refine Own.new ?_); (focus (first | rfl | omega | (simp; done) | (simp; omega)))) | assumption | refine Own.alloc ?_ _ | refine Own.drew ?_ | (refine Own.far ?_ ?_ _; rotate_left; (focus (first | rfl | omega | (simp; done) | (simp; omega)))))) hbx
  replace occ := oc.cell
  replace ocf := oc.thaw
  replace ocz := oc.lt
  replace hw : Below w.heap.size w w2 := Below.hop (by repeat' (first | exact Below.refl _ _ | assumption | (refine Below.alloc ?_ ?_ _; rotate_left; (focus (first | rfl | omega | (simp; done) | (simp; omega)))) | (refine Below.setCell ?_ ?_ _; rotate_left; (focus (first | rfl | omega | (simp; done) | (simp; omega)))) | refine Below.drew ?_)) hbx
  replace hz := hw.size
  clear hbx
  have hoab : w.heap.size < w2.heap.size := ocz
  go_wp2
  have oa : Own ((w2.alloc (.cells #[.int .i64 A.x, .int .i64 A.y, .int .i64 A.z, .int .i64 B.x, .int .i64 B.y, .int .i64 B.z] 42))) (w2.heap.size) #[.int .i64 A.x, .int .i64 A.y, .int .i64 A.z, .int .i64 B.x, .int .i64 B.y, .int .i64 B.z] := Own.new rfl
  replace oc : Own ((w2.alloc (.cells #[.int .i64 A.x, .int .i64 A.y, .int .i64 A.z, .int .i64 B.x, .int .i64 B.y, .int .i64 B.z] 42))) (w.heap.size) #[.int .i64 a0, .int .i64 a1, .int .i64 a2, .int .i64 n0, .int .i64 n1, .int .i64 n2, .int .i64 mn, .int .i64 md] := (by repeat' (first | ((refine Own.new ?_); (focus (first | rfl | omega | (simp; done) | (simp; omega)))) | assumption | refine Own.alloc ?_ _ | refine Own.drew ?_ | (refine Own.far ?_ ?_ _; rotate_left; (focus (first | rfl | omega | (simp; done) | (simp; omega))))))
  clear occ ocf ocz
  replace hw : Below w.heap.size w ((w2.alloc (.cells #[.int .i64 A.x, .int .i64 A.y, .int .i64 A.z, .int .i64 B.x, .int .i64 B.y, .int .i64 B.z] 42))) := (by repeat' (first | exact Below.refl _ _ | assumption | (refine Below.alloc ?_ ?_ _; rotate_left; (focus (first | rfl | omega | (simp; done) | (simp; omega)))) | (refine Below.setCell ?_ ?_ _; rotate_left; (focus (first | rfl | omega | (simp; done) | (simp; omega)))) | refine Below.drew ?_))
  generalize (w2.alloc (.cells #[.int .i64 A.x, .int .i64 A.y, .int .i64 A.z, .int .i64 B.x, .int .i64 B.y, .int .i64 B.z] 42)) = w3 at *
  have occ := oc.cell
  have ocf := oc.thaw
  have ocz := oc.lt
  have oac := oa.cell
  have oaf := oa.thaw
  have oaz := oa.lt
  replace hz := hw.size
  generalize w2.heap.size = oab at *
  go_loopw [3, 5] (fun v i wr => ∃ k : Nat, k ≤ 2 ∧ i = .int .i64 k ∧ Below w.heap.size w wr ∧ Own wr w.heap.size #[.int .i64 a0, .int .i64 a1, .int .i64 a2, .int .i64 n0, .int .i64 n1, .int .i64 n2, .int .i64 mn, .int .i64 md] ∧ Own wr oab #[.int .i64 A.x, .int .i64 A.y, .int .i64 A.z, .int .i64 B.x, .int .i64 B.y, .int .i64 B.z] ∧ wr.ownsRow (oab + 1) 24 3 v (refK ⟨n0, n1, n2⟩ mn md k).length (flatV (refK ⟨n0, n1, n2⟩ mn md k)) ∧ (k = 0 → v = .slice none 0 0)) (fun _ i _ => 2 - (intOf i).toNat)
  case atStart => exact ⟨0, by omega, rfl, hw, oc, oa, World.ownsRow_nil _ _ _ _, fun _ => rfl⟩
  case round =>
    clear hw hz oc occ ocf ocz oa oac oaf oaz
    obtain ⟨k, hk, rfl, hW, oc, oa, hrow, hnil⟩ := hrel
    have HR := Lib.hid hrow
    clear hrow
    have hWz := hW.size
    have occ := oc.cell
    have ocf := oc.thaw
    have ocz := oc.lt
    have oac := oa.cell
    have oaf := oa.thaw
    have oaz := oa.lt
    rcases (show k = 0 ∨ k = 1 ∨ k = 2 by omega) with rfl | rfl | rfl
    · have hw : Below wr.heap.size wr wr := Below.refl _ _
      have hz := hw.size
      have oaq := oa.lt
      obtain rfl := hnil rfl
      go_wp2_with fail
      refine Calls.mono (callv (ref25_times _ _ _ _ _) HU.out) ?_
      rintro e w4 ⟨rfl, hbx⟩
      replace oc : Own w4 (w.heap.size) #[.int .i64 a0, .int .i64 a1, .int .i64 a2, .int .i64 n0, .int .i64 n1, .int .i64 n2, .int .i64 mn, .int .i64 md] := Own.below (by repeat' (first | ((refine Own.new ?_); (focus (first | rfl | omega | (simp; done) | (simp; omega)))) | assumption | refine Own.alloc ?_ _ | refine Own.drew ?_ | (refine Own.far ?_ ?_ _; rotate_left; (focus (first | rfl | omega | (simp; done) | (simp; omega)))))) hbx
      replace occ := oc.cell
      replace ocf := oc.thaw
      replace ocz := oc.lt
      replace oa : Own w4 (oab) #[.int .i64 A.x, .int .i64 A.y, .int .i64 A.z, .int .i64 B.x, .int .i64 B.y, .int .i64 B.z] := Own.below (by repeat' (first | ((refine Own.new ?_); (focus (first | rfl | omega | (simp; done) | (simp; omega)))) | assumption | refine Own.alloc ?_ _ | refine Own.drew ?_ | (refine Own.far ?_ ?_ _; rotate_left; (focus (first | rfl | omega | (simp; done) | (simp; omega)))))) hbx
      replace oac := oa.cell
      replace oaf := oa.thaw
      replace oaz := oa.lt
      replace hw : Below wr.heap.size wr w4 := Below.hop (by repeat' (first | exact Below.refl _ _ | assumption | (refine Below.alloc ?_ ?_ _; rotate_left; (focus (first | rfl | omega | (simp; done) | (simp; omega)))) | (refine Below.setCell ?_ ?_ _; rotate_left; (focus (first | rfl | omega | (simp; done) | (simp; omega)))) | refine Below.drew ?_)) hbx
      replace hz := hw.size
      clear hbx
      have hq4 : wr.heap.size ≤ w4.heap.size := hz
      go_wp2
      have ou : Own ((w4.alloc (.cells #[.int .i64 up0, .int .i64 up1, .int .i64 up2] 24))) (w4.heap.size) #[.int .i64 up0, .int .i64 up1, .int .i64 up2] := Own.new rfl
      replace oc : Own ((w4.alloc (.cells #[.int .i64 up0, .int .i64 up1, .int .i64 up2] 24))) (w.heap.size) #[.int .i64 a0, .int .i64 a1, .int .i64 a2, .int .i64 n0, .int .i64 n1, .int .i64 n2, .int .i64 mn, .int .i64 md] := (by repeat' (first | ((refine Own.new ?_); (focus (first | rfl | omega | (simp; done) | (simp; omega)))) | assumption | refine Own.alloc ?_ _ | refine Own.drew ?_ | (refine Own.far ?_ ?_ _; rotate_left; (focus (first | rfl | omega | (simp; done) | (simp; omega))))))
      clear occ ocf ocz
      replace oa : Own ((w4.alloc (.cells #[.int .i64 up0, .int .i64 up1, .int .i64 up2] 24))) (oab) #[.int .i64 A.x, .int .i64 A.y, .int .i64 A.z, .int .i64 B.x, .int .i64 B.y, .int .i64 B.z] := (by repeat' (first | ((refine Own.new ?_); (focus (first | rfl | omega | (simp; done) | (simp; omega)))) | assumption | refine Own.alloc ?_ _ | refine Own.drew ?_ | (refine Own.far ?_ ?_ _; rotate_left; (focus (first | rfl | omega | (simp; done) | (simp; omega))))))
      clear oac oaf oaz
      replace hw : Below wr.heap.size wr ((w4.alloc (.cells #[.int .i64 up0, .int .i64 up1, .int .i64 up2] 24))) := (by repeat' (first | exact Below.refl _ _ | assumption | (refine Below.alloc ?_ ?_ _; rotate_left; (focus (first | rfl | omega | (simp; done) | (simp; omega)))) | (refine Below.setCell ?_ ?_ _; rotate_left; (focus (first | rfl | omega | (simp; done) | (simp; omega)))) | refine Below.drew ?_))
      generalize (w4.alloc (.cells #[.int .i64 up0, .int .i64 up1, .int .i64 up2] 24)) = w5 at *
      have occ := oc.cell
      have ocf := oc.thaw
      have ocz := oc.lt
      have oac := oa.cell
      have oaf := oa.thaw
      have oaz := oa.lt
      have ouc := ou.cell
      have ouf := ou.thaw
      have ouz := ou.lt
      replace hz := hw.size
      skip
      refine region_late 7 [] (by kernel_rfl) (by kernel_rfl) (by rfl) ?_
      apply Exists.intro
      refine ⟨fun v hv hne => ?_, fun u hu => ?_⟩
      · simp only [List.take_succ_cons, List.take_zero]
        have doc := fun x => (oc.later (v := v) (T := []) (by first | (simp; done) | (simp; omega)) x).cell
        have doa := fun x => (oa.later (v := v) (T := []) (by first | (simp; done) | (simp; omega)) x).cell
        have dou := fun x => (ou.later (v := v) (T := []) (by first | (simp; done) | (simp; omega)) x).cell
        repeat (go_big_quiet_step ((first | (go_at_call 79; with_reducible exact lateB (callv (ref25_times _ _ _ _ _) HS0.out)))))
        refine wpQuiet_nil ?_
        exact rfl
      · simp only [List.drop_succ_cons, List.drop_zero]
        skip
        refine late_mem (fun K hK => ?_)
        go_simp
        refine hK _ _ ((Keeps.of_below hu).alloc _) (fun ua2 hu2 => ?_)
        clear hK K
        have hk2 : Keeps [] w5 ua2 := ((Keeps.of_below (T := []) hu).alloc _).later hu2
        have od : Own ua2 u.heap.size #[.int .i64 0, .int .i64 0, .int .i64 0] := Own.below (Own.new rfl) hu2
        have odc := od.cell
        have odf := od.thaw
        have odg : w5.heap.size ≤ u.heap.size := hu.size
        replace hw := Below.hop ((Below.hop hw hu).alloc (by have := hw.size; have := hu.size; omega) _) hu2
        have hwz := hw.size
        have ody : wr.heap.size ≤ u.heap.size := by omega
        refine late_mem (fun K hK => ?_)
        go_simp
        refine hK _ _ (((hk2.new (by simp; omega) _).new (by simp; omega) _).new (by simp; omega) _) (fun ua3 hu3 => ?_)
        clear hK K
        have hk3 : Keeps [] w5 ua3 := (((hk2.new (by simp; omega) _).new (by simp; omega) _).new (by simp; omega) _).later hu3
        replace od : Own ua3 u.heap.size #[.int .i64 s00, .int .i64 s01, .int .i64 s02] := (((od.set 0 _).set 1 _).set 2 _).below hu3
        replace hw := Below.hop (((hw.setCell (by simp; omega) _).setCell (by simp; omega) _).setCell (by simp; omega) _) hu3
        clear odc odf hk2
        replace oc : Own ua3 (w.heap.size) #[.int .i64 a0, .int .i64 a1, .int .i64 a2, .int .i64 n0, .int .i64 n1, .int .i64 n2, .int .i64 mn, .int .i64 md] := oc.keeps hk3 (by simp)
        replace oa : Own ua3 (oab) #[.int .i64 A.x, .int .i64 A.y, .int .i64 A.z, .int .i64 B.x, .int .i64 B.y, .int .i64 B.z] := oa.keeps hk3 (by simp)
        replace ou : Own ua3 (w4.heap.size) #[.int .i64 up0, .int .i64 up1, .int .i64 up2] := ou.keeps hk3 (by simp)
        refine late_nil ?_
        (try simp only [Act.put, List.setIfInBounds_toArray, List.set_cons_zero, List.set_cons_succ])
        clear hk3 hu hu2 hu3 hwz
        generalize u.heap.size = odb at *
        replace hz := hw.size
        clear u
        replace occ := oc.cell
        replace ocf := oc.thaw
        replace ocz := oc.lt
        replace oac := oa.cell
        replace oaf := oa.thaw
        replace oaz := oa.lt
        replace ouc := ou.cell
        replace ouf := ou.thaw
        replace ouz := ou.lt
        replace odc := od.cell
        replace odf := od.thaw
        replace odz := od.lt
        go_wp2
        refine region_late 7 [] (by kernel_rfl) (by kernel_rfl) (by rfl) ?_
        apply Exists.intro
        refine ⟨fun v hv hne => ?_, fun ub hu => ?_⟩
        · simp only [List.take_succ_cons, List.take_zero]
          have doc := fun x => (oc.later (v := v) (T := []) (by first | (simp; done) | (simp; omega)) x).cell
          have doa := fun x => (oa.later (v := v) (T := []) (by first | (simp; done) | (simp; omega)) x).cell
          have dou := fun x => (ou.later (v := v) (T := []) (by first | (simp; done) | (simp; omega)) x).cell
          have dod := fun x => (od.later (v := v) (T := []) (by first | (simp; done) | (simp; omega)) x).cell
          repeat (go_big_quiet_step ((first | (go_at_call 19; with_reducible exact lateB (callv (ref7_Add _ _ _ _ _ _ _) HA0.out)) | (go_at_call 18; with_reducible exact lateB (callv (ref7_Sub _ _ _ _ _ _ _) HD0.out)))))
          refine wpQuiet_nil ?_
          exact rfl
        · simp only [List.drop_succ_cons, List.drop_zero]
          refine late_mem (fun K hK => ?_)
          go_simp
          have hk1 : Keeps [] ua3 ub := Keeps.of_below hu
          refine hK _ _ (hk1.alloc _) (fun u2 hu2 => ?_)
          clear hK K
          replace hk1 : Keeps [] ua3 u2 := (hk1.alloc _).later hu2
          have os : OwnT u2 ub.heap.size #[.int .i64 p00, .int .i64 p01, .int .i64 p02, .int .i64 q00, .int .i64 q01, .int .i64 q02] 24 := OwnT.new.below hu2
          have hr1 := ownsRow_below (ownsRow_below (ownsRow_below HR.out hw) hu) ((Below.refl _ _).alloc (Nat.le_refl _) (.cells #[.int .i64 p00, .int .i64 p01, .int .i64 p02, .int .i64 q00, .int .i64 q01, .int .i64 q02] 24))
          replace hr1 := ownsRow_below hr1 hu2
          have hw2 : Below wr.heap.size wr u2 := Below.hop (Below.hop (Below.hop hw hu) ((Below.refl _ _).alloc (Nat.le_refl _) (.cells #[.int .i64 p00, .int .i64 p01, .int .i64 p02, .int .i64 q00, .int .i64 q01, .int .i64 q02] 24))) hu2
          have hw2z := hw2.size
          have osz := os.own.lt
          refine late_mem (fun K hK => ?_)
          refine late_append _ _ 27 rfl (oab + 1) 24 i0 (.agg #[.int .i64 0, .int .i64 0, .int .i64 0]) 3 24 Try.underlying27 hi hz0 hz1 hz2 rfl (by omega) _ (refK ⟨n0, n1, n2⟩ mn md 0).length (flatV (refK ⟨n0, n1, n2⟩ mn md 0)) (by rfl) hr1 ⟨ub.heap.size, 0, none⟩ 2 2 [.int .i64 p00, .int .i64 p01, .int .i64 p02, .int .i64 q00, .int .i64 q01, .int .i64 q02] (by rfl) rfl (World.news_of_block os) ?_ (by omega) (by unfold maxLen; simp [refK]) (by simp [refK]) (by omega) u2.heap.size rfl ?_
          · intro u hu3; simp at hu3; rcases hu3 with rfl | rfl | rfl | rfl | rfl | rfl <;> rfl
          intro g2 cap2 w6 ho6 hg6 hat hlt6
          have e6 : flatV (refK ⟨n0, n1, n2⟩ mn md 0) ++ [.int .i64 p00, .int .i64 p01, .int .i64 p02, .int .i64 q00, .int .i64 q01, .int .i64 q02] = flatV (refK ⟨n0, n1, n2⟩ mn md 1) := HF0.out
          rw [e6] at ho6
          have hk6 : Keeps [] ua3 w6 := hk1.grown hg6 (fun r e => by cases e)
          have hw6 : Below w.heap.size w w6 := Below.grown (hW.trans (hw2.mono hW.size)) hg6 (by omega) (fun r e => by cases e)
          refine hK _ _ hk6 (fun u3 hu3 => ?_)
          clear hK K
          have ho7 := ownsRow_below ho6 hu3
          have hw7 := Below.hop hw6 hu3
          have hk7 := hk6.later hu3
          clear ho6 hw6 hk6 hu3 hg6 hat hlt6 hr1 hk1 os hu hu2
          refine late_mem (fun K hK => ?_)
          go_simp
          refine hK _ _ hk7 (fun u4 hu4 => ?_)
          clear hK K
          replace ho7 := ownsRow_below ho7 hu4
          replace hw7 := Below.hop hw7 hu4
          replace hk7 := hk7.later hu4
          have oc7 := oc.keeps hk7 (by simp)
          have oa7 := oa.keeps hk7 (by simp)
          refine late_nil ?_
          (try simp only [Act.put, List.setIfInBounds_toArray, List.set_cons_zero, List.set_cons_succ])
          have HO := Lib.hid ho7
          clear ho7 e6 hk7 hu4
          go_wp2
          go_roundw
          case rel => exact ⟨1, by omega, by go_num, hw7, oc7, oa7, HO.out, fun h => by omega⟩
          case measure => simp [intOf]
    · have hw : Below wr.heap.size wr wr := Below.refl _ _
      have hz := hw.size
      have oaq := oa.lt
      clear hnil
      have hr0 : wr.ownsRow (oab + 1) 24 3 _ (1 + 1) (flatV (refK ⟨n0, n1, n2⟩ mn md 1)) := HR.out
      obtain ⟨g, gcap, rfl⟩ := ownsRow_succ hr0
      have hgb := hr0.lt g rfl
      clear hr0
      go_wp2_with fail
      refine Calls.mono (callv (ref25_times _ _ _ _ _) HU.out) ?_
      rintro e w4 ⟨rfl, hbx⟩
      replace oc : Own w4 (w.heap.size) #[.int .i64 a0, .int .i64 a1, .int .i64 a2, .int .i64 n0, .int .i64 n1, .int .i64 n2, .int .i64 mn, .int .i64 md] := Own.below (by repeat' (first | ((refine Own.new ?_); (focus (first | rfl | omega | (simp; done) | (simp; omega)))) | assumption | refine Own.alloc ?_ _ | refine Own.drew ?_ | (refine Own.far ?_ ?_ _; rotate_left; (focus (first | rfl | omega | (simp; done) | (simp; omega)))))) hbx
      replace occ := oc.cell
      replace ocf := oc.thaw
      replace ocz := oc.lt
      replace oa : Own w4 (oab) #[.int .i64 A.x, .int .i64 A.y, .int .i64 A.z, .int .i64 B.x, .int .i64 B.y, .int .i64 B.z] := Own.below (by repeat' (first | ((refine Own.new ?_); (focus (first | rfl | omega | (simp; done) | (simp; omega)))) | assumption | refine Own.alloc ?_ _ | refine Own.drew ?_ | (refine Own.far ?_ ?_ _; rotate_left; (focus (first | rfl | omega | (simp; done) | (simp; omega)))))) hbx
      replace oac := oa.cell
      replace oaf := oa.thaw
      replace oaz := oa.lt
      replace hw : Below wr.heap.size wr w4 := Below.hop (by repeat' (first | exact Below.refl _ _ | assumption | (refine Below.alloc ?_ ?_ _; rotate_left; (focus (first | rfl | omega | (simp; done) | (simp; omega)))) | (refine Below.setCell ?_ ?_ _; rotate_left; (focus (first | rfl | omega | (simp; done) | (simp; omega)))) | refine Below.drew ?_)) hbx
      replace hz := hw.size
      clear hbx
      have hq4 : wr.heap.size ≤ w4.heap.size := hz
      go_wp2
      have ou : Own ((w4.alloc (.cells #[.int .i64 up0, .int .i64 up1, .int .i64 up2] 24))) (w4.heap.size) #[.int .i64 up0, .int .i64 up1, .int .i64 up2] := Own.new rfl
      replace oc : Own ((w4.alloc (.cells #[.int .i64 up0, .int .i64 up1, .int .i64 up2] 24))) (w.heap.size) #[.int .i64 a0, .int .i64 a1, .int .i64 a2, .int .i64 n0, .int .i64 n1, .int .i64 n2, .int .i64 mn, .int .i64 md] := (by repeat' (first | ((refine Own.new ?_); (focus (first | rfl | omega | (simp; done) | (simp; omega)))) | assumption | refine Own.alloc ?_ _ | refine Own.drew ?_ | (refine Own.far ?_ ?_ _; rotate_left; (focus (first | rfl | omega | (simp; done) | (simp; omega))))))
      clear occ ocf ocz
      replace oa : Own ((w4.alloc (.cells #[.int .i64 up0, .int .i64 up1, .int .i64 up2] 24))) (oab) #[.int .i64 A.x, .int .i64 A.y, .int .i64 A.z, .int .i64 B.x, .int .i64 B.y, .int .i64 B.z] := (by repeat' (first | ((refine Own.new ?_); (focus (first | rfl | omega | (simp; done) | (simp; omega)))) | assumption | refine Own.alloc ?_ _ | refine Own.drew ?_ | (refine Own.far ?_ ?_ _; rotate_left; (focus (first | rfl | omega | (simp; done) | (simp; omega))))))
      clear oac oaf oaz
      replace hw : Below wr.heap.size wr ((w4.alloc (.cells #[.int .i64 up0, .int .i64 up1, .int .i64 up2] 24))) := (by repeat' (first | exact Below.refl _ _ | assumption | (refine Below.alloc ?_ ?_ _; rotate_left; (focus (first | rfl | omega | (simp; done) | (simp; omega)))) | (refine Below.setCell ?_ ?_ _; rotate_left; (focus (first | rfl | omega | (simp; done) | (simp; omega)))) | refine Below.drew ?_))
      generalize (w4.alloc (.cells #[.int .i64 up0, .int .i64 up1, .int .i64 up2] 24)) = w5 at *
      have occ := oc.cell
      have ocf := oc.thaw
      have ocz := oc.lt
      have oac := oa.cell
      have oaf := oa.thaw
      have oaz := oa.lt
      have ouc := ou.cell
      have ouf := ou.thaw
      have ouz := ou.lt
      replace hz := hw.size
      skip
      refine region_late 7 [] (by kernel_rfl) (by kernel_rfl) (by rfl) ?_
      apply Exists.intro
      refine ⟨fun v hv hne => ?_, fun u hu => ?_⟩
      · simp only [List.take_succ_cons, List.take_zero]
        have doc := fun x => (oc.later (v := v) (T := []) (by first | (simp; done) | (simp; omega)) x).cell
        have doa := fun x => (oa.later (v := v) (T := []) (by first | (simp; done) | (simp; omega)) x).cell
        have dou := fun x => (ou.later (v := v) (T := []) (by first | (simp; done) | (simp; omega)) x).cell
        repeat (go_big_quiet_step ((first | (go_at_call 79; with_reducible exact lateB (callv (ref25_times _ _ _ _ _) HS1.out)))))
        refine wpQuiet_nil ?_
        exact rfl
      · simp only [List.drop_succ_cons, List.drop_zero]
        skip
        refine late_mem (fun K hK => ?_)
        go_simp
        refine hK _ _ ((Keeps.of_below hu).alloc _) (fun ua2 hu2 => ?_)
        clear hK K
        have hk2 : Keeps [] w5 ua2 := ((Keeps.of_below (T := []) hu).alloc _).later hu2
        have od : Own ua2 u.heap.size #[.int .i64 0, .int .i64 0, .int .i64 0] := Own.below (Own.new rfl) hu2
        have odc := od.cell
        have odf := od.thaw
        have odg : w5.heap.size ≤ u.heap.size := hu.size
        replace hw := Below.hop ((Below.hop hw hu).alloc (by have := hw.size; have := hu.size; omega) _) hu2
        have hwz := hw.size
        have ody : wr.heap.size ≤ u.heap.size := by omega
        refine late_mem (fun K hK => ?_)
        go_simp
        refine hK _ _ (((hk2.new (by simp; omega) _).new (by simp; omega) _).new (by simp; omega) _) (fun ua3 hu3 => ?_)
        clear hK K
        have hk3 : Keeps [] w5 ua3 := (((hk2.new (by simp; omega) _).new (by simp; omega) _).new (by simp; omega) _).later hu3
        replace od : Own ua3 u.heap.size #[.int .i64 s10, .int .i64 s11, .int .i64 s12] := (((od.set 0 _).set 1 _).set 2 _).below hu3
        replace hw := Below.hop (((hw.setCell (by simp; omega) _).setCell (by simp; omega) _).setCell (by simp; omega) _) hu3
        clear odc odf hk2
        replace oc : Own ua3 (w.heap.size) #[.int .i64 a0, .int .i64 a1, .int .i64 a2, .int .i64 n0, .int .i64 n1, .int .i64 n2, .int .i64 mn, .int .i64 md] := oc.keeps hk3 (by simp)
        replace oa : Own ua3 (oab) #[.int .i64 A.x, .int .i64 A.y, .int .i64 A.z, .int .i64 B.x, .int .i64 B.y, .int .i64 B.z] := oa.keeps hk3 (by simp)
        replace ou : Own ua3 (w4.heap.size) #[.int .i64 up0, .int .i64 up1, .int .i64 up2] := ou.keeps hk3 (by simp)
        refine late_nil ?_
        (try simp only [Act.put, List.setIfInBounds_toArray, List.set_cons_zero, List.set_cons_succ])
        clear hk3 hu hu2 hu3 hwz
        generalize u.heap.size = odb at *
        replace hz := hw.size
        clear u
        replace occ := oc.cell
        replace ocf := oc.thaw
        replace ocz := oc.lt
        replace oac := oa.cell
        replace oaf := oa.thaw
        replace oaz := oa.lt
        replace ouc := ou.cell
        replace ouf := ou.thaw
        replace ouz := ou.lt
        replace odc := od.cell
        replace odf := od.thaw
        replace odz := od.lt
        go_wp2
        refine region_late 7 [g] (by kernel_rfl) (by kernel_rfl) (by rfl) ?_
        apply Exists.intro
        refine ⟨fun v hv hne => ?_, fun ub hu => ?_⟩
        · simp only [List.take_succ_cons, List.take_zero]
          have doc := fun x => (oc.later (v := v) (T := [g]) (by first | (simp; done) | (simp; omega)) x).cell
          have doa := fun x => (oa.later (v := v) (T := [g]) (by first | (simp; done) | (simp; omega)) x).cell
          have dou := fun x => (ou.later (v := v) (T := [g]) (by first | (simp; done) | (simp; omega)) x).cell
          have dod := fun x => (od.later (v := v) (T := [g]) (by first | (simp; done) | (simp; omega)) x).cell
          repeat (go_big_quiet_step ((first | (go_at_call 19; with_reducible exact lateB (callv (ref7_Add _ _ _ _ _ _ _) HA1.out)) | (go_at_call 18; with_reducible exact lateB (callv (ref7_Sub _ _ _ _ _ _ _) HD1.out)))))
          refine wpQuiet_nil ?_
          exact rfl
        · simp only [List.drop_succ_cons, List.drop_zero]
          refine late_mem (fun K hK => ?_)
          go_simp
          have hk1 : Keeps [g] ua3 ub := Keeps.of_below hu
          refine hK _ _ (hk1.alloc _) (fun u2 hu2 => ?_)
          clear hK K
          replace hk1 : Keeps [g] ua3 u2 := (hk1.alloc _).later hu2
          have os : OwnT u2 ub.heap.size #[.int .i64 p10, .int .i64 p11, .int .i64 p12, .int .i64 q10, .int .i64 q11, .int .i64 q12] 24 := OwnT.new.below hu2
          have hr1 := ownsRow_below (ownsRow_below (ownsRow_below HR.out hw) hu) ((Below.refl _ _).alloc (Nat.le_refl _) (.cells #[.int .i64 p10, .int .i64 p11, .int .i64 p12, .int .i64 q10, .int .i64 q11, .int .i64 q12] 24))
          replace hr1 := ownsRow_below hr1 hu2
          have hw2 : Below wr.heap.size wr u2 := Below.hop (Below.hop (Below.hop hw hu) ((Below.refl _ _).alloc (Nat.le_refl _) (.cells #[.int .i64 p10, .int .i64 p11, .int .i64 p12, .int .i64 q10, .int .i64 q11, .int .i64 q12] 24))) hu2
          have hw2z := hw2.size
          have osz := os.own.lt
          refine late_mem (fun K hK => ?_)
          refine late_append _ _ 27 rfl (oab + 1) 24 i0 (.agg #[.int .i64 0, .int .i64 0, .int .i64 0]) 3 24 Try.underlying27 hi hz0 hz1 hz2 rfl (by omega) _ (refK ⟨n0, n1, n2⟩ mn md 1).length (flatV (refK ⟨n0, n1, n2⟩ mn md 1)) (by rfl) hr1 ⟨ub.heap.size, 0, none⟩ 2 2 [.int .i64 p10, .int .i64 p11, .int .i64 p12, .int .i64 q10, .int .i64 q11, .int .i64 q12] (by rfl) rfl (World.news_of_block os) ?_ (by omega) (by unfold maxLen; simp [refK, refE]) (by simp [refK, refE]) (by omega) u2.heap.size rfl ?_
          · intro u hu3; simp at hu3; rcases hu3 with rfl | rfl | rfl | rfl | rfl | rfl <;> rfl
          intro g2 cap2 w6 ho6 hg6 hat hlt6
          have e6 : flatV (refK ⟨n0, n1, n2⟩ mn md 1) ++ [.int .i64 p10, .int .i64 p11, .int .i64 p12, .int .i64 q10, .int .i64 q11, .int .i64 q12] = flatV (refK ⟨n0, n1, n2⟩ mn md 2) := HF1.out
          rw [e6] at ho6
          have hk6 : Keeps [g] ua3 w6 := hk1.grown hg6 (fun r e => by have e : g = r := (by simpa [Value.ownBlock] using e); subst e; simp)
          have hw6 : Below w.heap.size w w6 := Below.grown (hW.trans (hw2.mono hW.size)) hg6 (by omega) (fun r e => by have e : g = r := (by simpa [Value.ownBlock] using e); omega)
          refine hK _ _ hk6 (fun u3 hu3 => ?_)
          clear hK K
          have ho7 := ownsRow_below ho6 hu3
          have hw7 := Below.hop hw6 hu3
          have hk7 := hk6.later hu3
          clear ho6 hw6 hk6 hu3 hg6 hat hlt6 hr1 hk1 os hu hu2
          refine late_mem (fun K hK => ?_)
          go_simp
          refine hK _ _ hk7 (fun u4 hu4 => ?_)
          clear hK K
          replace ho7 := ownsRow_below ho7 hu4
          replace hw7 := Below.hop hw7 hu4
          replace hk7 := hk7.later hu4
          have oc7 := oc.keeps hk7 (by simp; omega)
          have oa7 := oa.keeps hk7 (by simp; omega)
          refine late_nil ?_
          (try simp only [Act.put, List.setIfInBounds_toArray, List.set_cons_zero, List.set_cons_succ])
          have HO := Lib.hid ho7
          clear ho7 e6 hk7 hu4
          go_wp2
          go_roundw
          case rel => exact ⟨2, by omega, by go_num, hw7, oc7, oa7, HO.out, fun h => by omega⟩
          case measure => simp [intOf]
    · go_wp2
      go_ret
      refine ⟨_, rfl, ⟨?_, ?_⟩, hW⟩
      · rw [← HE.out]; exact ownsRow_base HR.out (by omega)
      · have hr0 : wr.ownsRow (oab + 1) 24 3 _ (3 + 1) (flatV (refK ⟨n0, n1, n2⟩ mn md 2)) := HR.out
        obtain ⟨g, gcap, rfl⟩ := ownsRow_succ hr0
        rw [← HE.out]; simp [refK, refE]
theorem ref25_Cone (c : Ct) (w : World) :
    Calls Try.prog 56 #[c.v] w fun r w' => ∃ v, r = .returned v ∧ SlV w.heap.size w' v (coneL c) ∧ Below w.heap.size w w' := by
  obtain ⟨⟨a0, a1, a2⟩, ⟨n0, n1, n2⟩, mn, md⟩ := c
  unfold coneL
  by_cases h : cCheck ⟨⟨a0, a1, a2⟩, ⟨n0, n1, n2⟩, mn, md⟩ = 0
  · rw [if_pos h]
    by_cases hm : mn = 0
    · subst hm
      rw [if_pos rfl]
      exact ref25_Cone_one a0 a1 a2 n0 n1 n2 md h w
    · rw [if_neg (by simpa using hm)]
      exact ref25_Cone_edges a0 a1 a2 n0 n1 n2 mn md h hm w
  · rw [if_neg h]
    exact ref25_Cone_bad a0 a1 a2 n0 n1 n2 mn md h w
end Go.Proofs.Ythijnggeoinlfaa
