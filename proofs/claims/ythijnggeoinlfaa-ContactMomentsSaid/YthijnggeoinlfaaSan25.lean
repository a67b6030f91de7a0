/- The sanity of the laws of package contact returns true. No condition. -/
import Derived.Test.YthijnggeoinlfaaCtQ
import Derived.Test.YthijnggeoinlfaaGenW
import Derived.Test.YthijnggeoinlfaaCtM
import Derived.Test.YthijnggeoinlfaaCtE
namespace Go.Proofs.Ythijnggeoinlfaa
open Go.RowKit

def flatI (L : List V3) : List Int := L.flatMap fun v => [v.x, v.y, v.z]
theorem flatV_eq (L : List V3) : flatV L = (flatI L).map (Value.int .i64) := by
  unfold flatV flatI
  rw [List.map_flatMap]; rfl
theorem flatI_len (L : List V3) : (flatI L).length = L.length * 3 := by
  unfold flatI
  induction L with
  | nil => rfl
  | cons a l ih => simp only [List.flatMap_cons, List.length_append, ih, List.length_cons, List.length_nil]; omega
theorem SlV.reads {B : Nat} {w : World} {v : Value} {L : List V3} (h : SlV B w v L) : ∃ A cap, v = .slice A L.length cap ∧ Reads w A (L.length * 3) (fun i => (flatI L).getD i 0) := by
  rcases h.1.2 with ⟨rfl, h0⟩ | ⟨g, cap, cur, rfl, hb, hg, hc1, hc2, hs, ht⟩
  · exact ⟨none, 0, by rw [h0], .inl (by omega)⟩
  · have ho : Own w g cur := ⟨_, hg⟩
    refine ⟨_, cap, rfl, .inr ⟨g, rfl, ho.lt, fun i hi => ?_⟩⟩
    have hi2 : i < (flatI L).length := by rw [flatI_len]; exact hi
    rw [ho.cell]
    have e : cur[i]? = (cur.toList.take (L.length * 3))[i]? := by rw [List.getElem?_take_of_lt hi, Array.getElem?_toList]
    rw [e, ht, flatV_eq, List.getElem?_map, List.getElem?_eq_getElem hi2]
    simp only [List.getD_eq_getElem?_getD, List.getElem?_eq_getElem hi2]
    rfl
theorem reads_own {w : World} {b n : Nat} {cs : Array Value} {zs : Nat → Int} (h : Own w b cs) (hc : ∀ i, i < n → cs[i]? = some (.int .i64 (zs i))) : Reads w (some ⟨b, 0, none⟩) n zs :=
  .inr ⟨b, rfl, h.lt, fun i hi => (h.cell i).trans (hc i hi)⟩
theorem cells_flat (L : List V3) : ∀ i, i < L.length * 3 → (flatV L).toArray[i]? = some (.int .i64 ((flatI L).getD i 0)) := fun i hi => by
  have hi2 : i < (flatI L).length := by rw [flatI_len]; exact hi
  rw [List.getElem?_toArray, flatV_eq, List.getElem?_map, List.getElem?_eq_getElem hi2, List.getD_eq_getElem?_getD, List.getElem?_eq_getElem hi2]
  rfl
theorem cells_ints (zs : List Int) : ∀ i, i < zs.length → (zs.map (Value.int .i64)).toArray[i]? = some (.int .i64 (zs.getD i 0)) := fun i hi => by
  rw [List.getElem?_toArray, List.getElem?_map, List.getElem?_eq_getElem hi, List.getD_eq_getElem?_getD, List.getElem?_eq_getElem hi]
  rfl
/-- A maker of a block that is known whole. -/
def ownB (T : List Nat) (cs : Array Value) (val : Nat → Value) : EBS T where
  val p := val p.1
  R p u := p.1 ∉ T ∧ Own u p.1 cs
  st _ _ _ h k := ⟨h.1, h.2.upd k h.1⟩
theorem make_own {P : Program} {T : List Nat} {o : Oper} {A : Act} {u : World} {cs : Array Value} {e : TypeId} {val : Nat → Value} (hrun : (execOp A.eval o).run P u = .ok (.value (val u.heap.size)) (u.alloc (.cells cs e))) (hT : u.heap.size ∉ T) :
    lateOp P o A u (fun v' u' => ∃ p : Nat × Nat, v' = (ownB T cs val).val p ∧ u.heap.size ≤ p.1 ∧ p.1 < u'.heap.size ∧ Below u.heap.size u u' ∧ (ownB T cs val).R p u') := by
  unfold lateOp
  rw [hrun]
  exact ⟨(u.heap.size, 0), rfl, Nat.le_refl _, by simp, (Below.refl _ _).alloc (Nat.le_refl _) _, hT, Own.new rfl⟩
theorem make_call {P : Program} {T : List Nat} {o : Oper} {A : Act} {u : World} {b : EBS T} {f : FuncId} {args : Array Value} (hrun : (execOp A.eval o).run P u = .ok (.enter f args) u)
    (hc : Calls P f args u fun e w' => ∃ p : Nat × Nat, e = .returned (b.val p) ∧ u.heap.size ≤ p.1 ∧ p.1 < w'.heap.size ∧ Below u.heap.size u w' ∧ b.R p w') :
    lateOp P o A u (fun v' u' => ∃ p : Nat × Nat, v' = b.val p ∧ u.heap.size ≤ p.1 ∧ p.1 < u'.heap.size ∧ Below u.heap.size u u' ∧ b.R p u') := by
  unfold lateOp
  rw [hrun]
  exact hc.mono fun e w' ⟨p, h1, h2⟩ => ⟨_, h1, p, rfl, h2⟩
theorem ownB_val {T : List Nat} {cs : Array Value} {val : Nat → Value} {p : Nat × Nat} : (ownB T cs val).val p = val p.1 := rfl
set_option maxRecDepth 100000 in
set_option maxHeartbeats 40000000 in
theorem law25_sanity (w : World) : Calls Try.prog 49 #[] w fun r w' => r = .returned (.bool true) ∧ Below w.heap.size w w' := by
  have HK1 : Hid (Value.int .i64 (cCheck ⟨⟨1, 2, 0⟩, ⟨0, 0, 1⟩, 1, 2⟩) = .int .i64 0) := Lib.hid (by kernel_rfl)
  have HK2 : Hid (Value.int .i64 (cCheck ⟨⟨1, 2, 0⟩, ⟨0, 0, 1⟩, 3, 2⟩) = .int .i64 22) := Lib.hid (by kernel_rfl)
  have HK3 : Hid (Value.int .i64 (cCheck ⟨⟨1, 2, 0⟩, ⟨0, 0, 1⟩, 1, 11⟩) = .int .i64 22) := Lib.hid (by kernel_rfl)
  have HK4 : Hid (Value.int .i64 (cCheck ⟨⟨1, 2, 0⟩, ⟨0, 1, 1⟩, 1, 2⟩) = .int .i64 22) := Lib.hid (by kernel_rfl)
  have HK5 : Hid (Value.int .i64 (cCheck ⟨⟨25, 0, 0⟩, ⟨0, 0, 1⟩, 1, 2⟩) = .int .i64 3) := Lib.hid (by kernel_rfl)
  have HLA : coneL ⟨⟨1, 2, 0⟩, ⟨0, 0, 1⟩, 1, 2⟩ = [⟨1, 0, 2⟩, ⟨-1, 0, 2⟩, ⟨0, 1, 2⟩, ⟨0, -1, 2⟩] := by kernel_rfl
  have HLB : coneL ⟨⟨1, 2, 0⟩, ⟨0, 0, 1⟩, 0, 1⟩ = [⟨0, 0, 1⟩] := by kernel_rfl
  have HK6 : Hid (Value.bool (cHas ⟨⟨1, 2, 0⟩, ⟨0, 0, 1⟩, 1, 2⟩ ⟨1, 0, 2⟩) = .bool true) := Lib.hid (by kernel_rfl)
  have HK7 : Hid (Value.bool (cHas ⟨⟨1, 2, 0⟩, ⟨0, 0, 1⟩, 1, 2⟩ ⟨1, 1, 2⟩) = .bool false) := Lib.hid (by kernel_rfl)
  have HK8 : Hid (Value.bool (cHas ⟨⟨1, 2, 0⟩, ⟨0, 0, 1⟩, 1, 2⟩ ⟨1, (-1), 4⟩) = .bool true) := Lib.hid (by kernel_rfl)
  have HK9 : Hid (Value.bool (cHas ⟨⟨1, 2, 0⟩, ⟨0, 0, 1⟩, 1, 2⟩ ⟨0, 0, (-1)⟩) = .bool false) := Lib.hid (by kernel_rfl)
  have HK10 : Hid (Value.bool (cHas ⟨⟨1, 2, 0⟩, ⟨0, 0, (-1)⟩, 0, 1⟩ ⟨0, 0, (-3)⟩) = .bool true) := Lib.hid (by kernel_rfl)
  have HK11 : Hid (Value.bool (cHas ⟨⟨1, 2, 0⟩, ⟨0, 0, (-1)⟩, 0, 1⟩ ⟨0, 0, 3⟩) = .bool false) := Lib.hid (by kernel_rfl)
  have HM := Lib.hid (show vCross ⟨1, 2, 0⟩ ⟨0, 0, 3⟩ = ⟨6, -3, 0⟩ by kernel_rfl)
  go_enter Try.func49, Try.ntmps49
  go_wp2_with fail
  refine Calls.mono (law25_vec 1 2 0 _) ?_
  rintro e w1 ⟨rfl, hbx⟩
  have hw : Below w.heap.size w w1 := Below.hop (by repeat' (first | exact Below.refl _ _ | assumption | (refine Below.alloc ?_ ?_ _; rotate_left; (focus (first | rfl | omega | (simp; done) | (simp; omega)))) | (refine Below.setCell ?_ ?_ _; rotate_left; (focus (first | rfl | omega | (simp; done) | (simp; omega)))) | refine Below.drew ?_)) hbx
  have hz := hw.size
  clear hbx
  go_wp2_with fail
  refine Calls.mono (law25_vec 0 0 1 _) ?_
  rintro e w2 ⟨rfl, hbx⟩
  replace hw : Below w.heap.size w w2 := Below.hop (by repeat' (first | exact Below.refl _ _ | assumption | (refine Below.alloc ?_ ?_ _; rotate_left; (focus (first | rfl | omega | (simp; done) | (simp; omega)))) | (refine Below.setCell ?_ ?_ _; rotate_left; (focus (first | rfl | omega | (simp; done) | (simp; omega)))) | refine Below.drew ?_)) hbx
  replace hz := hw.size
  clear hbx
  go_wp2
  have o1 : Own ((w2.alloc (.cells #[.int .i64 1, .int .i64 2, .int .i64 0, .int .i64 0, .int .i64 0, .int .i64 1, .int .i64 1, .int .i64 2] 66))) (w2.heap.size) #[.int .i64 1, .int .i64 2, .int .i64 0, .int .i64 0, .int .i64 0, .int .i64 1, .int .i64 1, .int .i64 2] := Own.new rfl
  replace hw : Below w.heap.size w ((w2.alloc (.cells #[.int .i64 1, .int .i64 2, .int .i64 0, .int .i64 0, .int .i64 0, .int .i64 1, .int .i64 1, .int .i64 2] 66))) := (by repeat' (first | exact Below.refl _ _ | assumption | (refine Below.alloc ?_ ?_ _; rotate_left; (focus (first | rfl | omega | (simp; done) | (simp; omega)))) | (refine Below.setCell ?_ ?_ _; rotate_left; (focus (first | rfl | omega | (simp; done) | (simp; omega)))) | refine Below.drew ?_))
  generalize (w2.alloc (.cells #[.int .i64 1, .int .i64 2, .int .i64 0, .int .i64 0, .int .i64 0, .int .i64 1, .int .i64 1, .int .i64 2] 66)) = w3 at *
  have o1c := o1.cell
  have o1f := o1.thaw
  have o1z := o1.lt
  replace hz := hw.size
  have q13 : w2.heap.size < w3.heap.size := o1z
  skip
  refine region_mem 2 2 0 [] (by kernel_rfl) (by kernel_rfl) (by rfl) [(.cells #[.int .i64 0, .int .i64 0, .int .i64 0, .int .i64 0, .int .i64 0, .int .i64 0, .int .i64 0, .int .i64 0] 66, fun p => .pointer (some ⟨p, 0, none⟩)), (.cells #[.int .i64 0, .int .i64 0, .int .i64 0, .int .i64 0, .int .i64 0, .int .i64 0, .int .i64 0, .int .i64 0] 66, fun p => .pointer (some ⟨p, 0, none⟩))] ?_
  apply Exists.intro
  refine ⟨fun v hv hne => ?_, ⟨fun u => by go_simp, fun u => by go_simp, trivial⟩, fun u u1 hu hu1 => ?_⟩
  · simp only [List.take_succ_cons, List.take_zero, List.drop_succ_cons, List.drop_zero, Nat.reduceAdd, List.append_nil]
    have do1 := fun x => (o1.later (v := v) (T := []) (by first | (simp; done) | (simp; omega)) x).cell
    repeat (go_big_quiet_step (fail))
    refine wpQuiet_nil ?_
    exact rfl
  · simp only [List.take_succ_cons, List.take_zero, List.drop_succ_cons, List.drop_zero, Nat.reduceAdd, memK]
    intro o2b o21 o22 o23 o3b o31 o32 o33
    have hk : Keeps [] w3 u1 := Keeps.of_below (Below.hop hu hu1)
    replace hw := Below.hop (Below.hop hw hu) hu1
    have hwz := hw.size
    have huz := hu.size
    have o2y : w.heap.size ≤ o2b := by have := w.heap.size; omega
    have o2g : w3.heap.size ≤ o2b := by omega
    have o2 : Own u1 o2b #[.int .i64 0, .int .i64 0, .int .i64 0, .int .i64 0, .int .i64 0, .int .i64 0, .int .i64 0, .int .i64 0] := ⟨_, o23⟩
    have o2c := o2.cell
    have o2f := o2.thaw
    have o3y : w.heap.size ≤ o3b := by have := w.heap.size; omega
    have o3g : w3.heap.size ≤ o3b := by omega
    have o3 : Own u1 o3b #[.int .i64 0, .int .i64 0, .int .i64 0, .int .i64 0, .int .i64 0, .int .i64 0, .int .i64 0, .int .i64 0] := ⟨_, o33⟩
    have o3c := o3.cell
    have o3f := o3.thaw
    have no3o2 : o3b ≠ o2b := fun e => o32 (by simp [e])
    have no2o3 : o2b ≠ o3b := fun e => o32 (by simp [e])
    clear o22 o23 o32 o33
    refine chain_mem (fun K hK => ?_)
    go_simp
    refine hK _ _ ((((((((hk.new o2g _).new o2g _).new o2g _).new o2g _).new o2g _).new o2g _).new o2g _).new o2g _) (fun u2 hun => ?_)
    clear hK K
    replace hk : Keeps [] w3 u2 := ((((((((hk.new o2g _).new o2g _).new o2g _).new o2g _).new o2g _).new o2g _).new o2g _).new o2g _).later hun
    replace o2 : Own u2 o2b #[.int .i64 1, .int .i64 2, .int .i64 0, .int .i64 0, .int .i64 0, .int .i64 1, .int .i64 1, .int .i64 2] := ((((((((o2.set 0 _).set 1 _).set 2 _).set 3 _).set 4 _).set 5 _).set 6 _).set 7 _).below hun
    replace o3 := ((((((((o3.far no3o2 _).far no3o2 _).far no3o2 _).far no3o2 _).far no3o2 _).far no3o2 _).far no3o2 _).far no3o2 _).below hun
    replace hw := Below.hop ((((((((hw.setCell o2y _).setCell o2y _).setCell o2y _).setCell o2y _).setCell o2y _).setCell o2y _).setCell o2y _).setCell o2y _) hun
    clear hun
    replace o2c := o2.cell
    replace o2f := o2.thaw
    replace o3c := o3.cell
    replace o3f := o3.thaw
    refine chain_mem (fun K hK => ?_)
    go_simp
    refine hK _ _ ((((((((hk.new o3g _).new o3g _).new o3g _).new o3g _).new o3g _).new o3g _).new o3g _).new o3g _) (fun u3 hun => ?_)
    clear hK K
    replace hk : Keeps [] w3 u3 := ((((((((hk.new o3g _).new o3g _).new o3g _).new o3g _).new o3g _).new o3g _).new o3g _).new o3g _).later hun
    replace o3 : Own u3 o3b #[.int .i64 1, .int .i64 2, .int .i64 0, .int .i64 0, .int .i64 0, .int .i64 1, .int .i64 1, .int .i64 2] := ((((((((o3.set 0 _).set 1 _).set 2 _).set 3 _).set 4 _).set 5 _).set 6 _).set 7 _).below hun
    replace o2 := ((((((((o2.far no2o3 _).far no2o3 _).far no2o3 _).far no2o3 _).far no2o3 _).far no2o3 _).far no2o3 _).far no2o3 _).below hun
    replace hw := Below.hop ((((((((hw.setCell o3y _).setCell o3y _).setCell o3y _).setCell o3y _).setCell o3y _).setCell o3y _).setCell o3y _).setCell o3y _) hun
    clear hun
    replace o2c := o2.cell
    replace o2f := o2.thaw
    replace o3c := o3.cell
    replace o3f := o3.thaw
    replace o1 : Own u3 (w2.heap.size) #[.int .i64 1, .int .i64 2, .int .i64 0, .int .i64 0, .int .i64 0, .int .i64 1, .int .i64 1, .int .i64 2] := o1.keeps hk (by simp)
    refine chain_nil ?_
    (try simp only [Act.put, List.setIfInBounds_toArray, List.set_cons_zero, List.set_cons_succ])
    clear hk hu hu1 hwz huz
    replace hz := hw.size
    replace o1c := o1.cell
    replace o1f := o1.thaw
    replace o1z := o1.lt
    replace o2c := o2.cell
    replace o2f := o2.thaw
    replace o2z := o2.lt
    replace o3c := o3.cell
    replace o3f := o3.thaw
    replace o3z := o3.lt
    have q2 : w2.heap.size < o2b := by omega
    have q3 : w2.heap.size < o3b := by omega
    clear q13
    go_wp2_with fail
    refine Calls.mono (law25_vec 0 1 1 _) ?_
    rintro e w4 ⟨rfl, hbx⟩
    replace o1 : Own w4 (w2.heap.size) #[.int .i64 1, .int .i64 2, .int .i64 0, .int .i64 0, .int .i64 0, .int .i64 1, .int .i64 1, .int .i64 2] := Own.below (by repeat' (first | ((refine Own.new ?_); (focus (first | rfl | omega | (simp; done) | (simp; omega)))) | assumption | refine Own.alloc ?_ _ | refine Own.drew ?_ | (refine Own.far ?_ ?_ _; rotate_left; (focus (first | rfl | omega | (simp; done) | (simp; omega)))))) hbx
    replace o1c := o1.cell
    replace o1f := o1.thaw
    replace o1z := o1.lt
    replace o2 : Own w4 (o2b) #[.int .i64 1, .int .i64 2, .int .i64 0, .int .i64 0, .int .i64 0, .int .i64 1, .int .i64 1, .int .i64 2] := Own.below (by repeat' (first | ((refine Own.new ?_); (focus (first | rfl | omega | (simp; done) | (simp; omega)))) | assumption | refine Own.alloc ?_ _ | refine Own.drew ?_ | (refine Own.far ?_ ?_ _; rotate_left; (focus (first | rfl | omega | (simp; done) | (simp; omega)))))) hbx
    replace o2c := o2.cell
    replace o2f := o2.thaw
    replace o2z := o2.lt
    replace o3 : Own w4 (o3b) #[.int .i64 1, .int .i64 2, .int .i64 0, .int .i64 0, .int .i64 0, .int .i64 1, .int .i64 1, .int .i64 2] := Own.below (by repeat' (first | ((refine Own.new ?_); (focus (first | rfl | omega | (simp; done) | (simp; omega)))) | assumption | refine Own.alloc ?_ _ | refine Own.drew ?_ | (refine Own.far ?_ ?_ _; rotate_left; (focus (first | rfl | omega | (simp; done) | (simp; omega)))))) hbx
    replace o3c := o3.cell
    replace o3f := o3.thaw
    replace o3z := o3.lt
    replace hw : Below w.heap.size w w4 := Below.hop (by repeat' (first | exact Below.refl _ _ | assumption | (refine Below.alloc ?_ ?_ _; rotate_left; (focus (first | rfl | omega | (simp; done) | (simp; omega)))) | (refine Below.setCell ?_ ?_ _; rotate_left; (focus (first | rfl | omega | (simp; done) | (simp; omega)))) | refine Below.drew ?_)) hbx
    replace hz := hw.size
    clear hbx
    go_wp2_with fail
    have to2 : Own (((((((w4).setCell ⟨o2b, 3, none⟩ (.int .i64 0))).setCell ⟨o2b, 4, none⟩ (.int .i64 1))).setCell ⟨o2b, 5, none⟩ (.int .i64 1))) (o2b) #[.int .i64 1, .int .i64 2, .int .i64 0, .int .i64 0, .int .i64 1, .int .i64 1, .int .i64 1, .int .i64 2] := (((o2.set 3 _).set 4 _).set 5 _)
    clear o2c o2f o2z o2
    replace o1 : Own (((((((w4).setCell ⟨o2b, 3, none⟩ (.int .i64 0))).setCell ⟨o2b, 4, none⟩ (.int .i64 1))).setCell ⟨o2b, 5, none⟩ (.int .i64 1))) (w2.heap.size) #[.int .i64 1, .int .i64 2, .int .i64 0, .int .i64 0, .int .i64 0, .int .i64 1, .int .i64 1, .int .i64 2] := ((o1.far (by simp; omega) _).far (by simp; omega) _).far (by simp; omega) _
    clear o1c o1f o1z
    replace o3 : Own (((((((w4).setCell ⟨o2b, 3, none⟩ (.int .i64 0))).setCell ⟨o2b, 4, none⟩ (.int .i64 1))).setCell ⟨o2b, 5, none⟩ (.int .i64 1))) (o3b) #[.int .i64 1, .int .i64 2, .int .i64 0, .int .i64 0, .int .i64 0, .int .i64 1, .int .i64 1, .int .i64 2] := ((o3.far (by simp; omega) _).far (by simp; omega) _).far (by simp; omega) _
    clear o3c o3f o3z
    replace hw : Below w.heap.size w (((((((w4).setCell ⟨o2b, 3, none⟩ (.int .i64 0))).setCell ⟨o2b, 4, none⟩ (.int .i64 1))).setCell ⟨o2b, 5, none⟩ (.int .i64 1))) := ((hw.setCell (by simp; omega) _).setCell (by simp; omega) _).setCell (by simp; omega) _
    have o2 := to2
    clear to2
    generalize ((((((w4).setCell ⟨o2b, 3, none⟩ (.int .i64 0))).setCell ⟨o2b, 4, none⟩ (.int .i64 1))).setCell ⟨o2b, 5, none⟩ (.int .i64 1)) = w5 at *
    have o1c := o1.cell
    have o1f := o1.thaw
    have o1z := o1.lt
    have o3c := o3.cell
    have o3f := o3.thaw
    have o3z := o3.lt
    have o2c := o2.cell
    have o2f := o2.thaw
    have o2z := o2.lt
    replace hz := hw.size
    refine Calls.mono (law25_vec 25 0 0 _) ?_
    rintro e w6 ⟨rfl, hbx⟩
    replace o1 : Own w6 (w2.heap.size) #[.int .i64 1, .int .i64 2, .int .i64 0, .int .i64 0, .int .i64 0, .int .i64 1, .int .i64 1, .int .i64 2] := Own.below (by repeat' (first | ((refine Own.new ?_); (focus (first | rfl | omega | (simp; done) | (simp; omega)))) | assumption | refine Own.alloc ?_ _ | refine Own.drew ?_ | (refine Own.far ?_ ?_ _; rotate_left; (focus (first | rfl | omega | (simp; done) | (simp; omega)))))) hbx
    replace o1c := o1.cell
    replace o1f := o1.thaw
    replace o1z := o1.lt
    replace o3 : Own w6 (o3b) #[.int .i64 1, .int .i64 2, .int .i64 0, .int .i64 0, .int .i64 0, .int .i64 1, .int .i64 1, .int .i64 2] := Own.below (by repeat' (first | ((refine Own.new ?_); (focus (first | rfl | omega | (simp; done) | (simp; omega)))) | assumption | refine Own.alloc ?_ _ | refine Own.drew ?_ | (refine Own.far ?_ ?_ _; rotate_left; (focus (first | rfl | omega | (simp; done) | (simp; omega)))))) hbx
    replace o3c := o3.cell
    replace o3f := o3.thaw
    replace o3z := o3.lt
    replace o2 : Own w6 (o2b) #[.int .i64 1, .int .i64 2, .int .i64 0, .int .i64 0, .int .i64 1, .int .i64 1, .int .i64 1, .int .i64 2] := Own.below (by repeat' (first | ((refine Own.new ?_); (focus (first | rfl | omega | (simp; done) | (simp; omega)))) | assumption | refine Own.alloc ?_ _ | refine Own.drew ?_ | (refine Own.far ?_ ?_ _; rotate_left; (focus (first | rfl | omega | (simp; done) | (simp; omega)))))) hbx
    replace o2c := o2.cell
    replace o2f := o2.thaw
    replace o2z := o2.lt
    replace hw : Below w.heap.size w w6 := Below.hop (by repeat' (first | exact Below.refl _ _ | assumption | (refine Below.alloc ?_ ?_ _; rotate_left; (focus (first | rfl | omega | (simp; done) | (simp; omega)))) | (refine Below.setCell ?_ ?_ _; rotate_left; (focus (first | rfl | omega | (simp; done) | (simp; omega)))) | refine Below.drew ?_)) hbx
    replace hz := hw.size
    clear hbx
    go_wp2_with fail
    have to3 : Own (((((((w6).setCell ⟨o3b, 0, none⟩ (.int .i64 25))).setCell ⟨o3b, 1, none⟩ (.int .i64 0))).setCell ⟨o3b, 2, none⟩ (.int .i64 0))) (o3b) #[.int .i64 25, .int .i64 0, .int .i64 0, .int .i64 0, .int .i64 0, .int .i64 1, .int .i64 1, .int .i64 2] := (((o3.set 0 _).set 1 _).set 2 _)
    clear o3c o3f o3z o3
    replace o1 : Own (((((((w6).setCell ⟨o3b, 0, none⟩ (.int .i64 25))).setCell ⟨o3b, 1, none⟩ (.int .i64 0))).setCell ⟨o3b, 2, none⟩ (.int .i64 0))) (w2.heap.size) #[.int .i64 1, .int .i64 2, .int .i64 0, .int .i64 0, .int .i64 0, .int .i64 1, .int .i64 1, .int .i64 2] := ((o1.far (by simp; omega) _).far (by simp; omega) _).far (by simp; omega) _
    clear o1c o1f o1z
    replace o2 : Own (((((((w6).setCell ⟨o3b, 0, none⟩ (.int .i64 25))).setCell ⟨o3b, 1, none⟩ (.int .i64 0))).setCell ⟨o3b, 2, none⟩ (.int .i64 0))) (o2b) #[.int .i64 1, .int .i64 2, .int .i64 0, .int .i64 0, .int .i64 1, .int .i64 1, .int .i64 1, .int .i64 2] := ((o2.far (by simp; omega) _).far (by simp; omega) _).far (by simp; omega) _
    clear o2c o2f o2z
    replace hw : Below w.heap.size w (((((((w6).setCell ⟨o3b, 0, none⟩ (.int .i64 25))).setCell ⟨o3b, 1, none⟩ (.int .i64 0))).setCell ⟨o3b, 2, none⟩ (.int .i64 0))) := ((hw.setCell (by simp; omega) _).setCell (by simp; omega) _).setCell (by simp; omega) _
    have o3 := to3
    clear to3
    generalize ((((((w6).setCell ⟨o3b, 0, none⟩ (.int .i64 25))).setCell ⟨o3b, 1, none⟩ (.int .i64 0))).setCell ⟨o3b, 2, none⟩ (.int .i64 0)) = w7 at *
    have o1c := o1.cell
    have o1f := o1.thaw
    have o1z := o1.lt
    have o2c := o2.cell
    have o2f := o2.thaw
    have o2z := o2.lt
    have o3c := o3.cell
    have o3f := o3.thaw
    have o3z := o3.lt
    replace hz := hw.size
    refine Calls.mono (callv (contact_Check 1 2 0 0 0 1 1 2 _) HK1.out) ?_
    rintro e w8 ⟨rfl, hbx⟩
    replace o1 : Own w8 (w2.heap.size) #[.int .i64 1, .int .i64 2, .int .i64 0, .int .i64 0, .int .i64 0, .int .i64 1, .int .i64 1, .int .i64 2] := Own.below (by repeat' (first | ((refine Own.new ?_); (focus (first | rfl | omega | (simp; done) | (simp; omega)))) | assumption | refine Own.alloc ?_ _ | refine Own.drew ?_ | (refine Own.far ?_ ?_ _; rotate_left; (focus (first | rfl | omega | (simp; done) | (simp; omega)))))) hbx
    replace o1c := o1.cell
    replace o1f := o1.thaw
    replace o1z := o1.lt
    replace o2 : Own w8 (o2b) #[.int .i64 1, .int .i64 2, .int .i64 0, .int .i64 0, .int .i64 1, .int .i64 1, .int .i64 1, .int .i64 2] := Own.below (by repeat' (first | ((refine Own.new ?_); (focus (first | rfl | omega | (simp; done) | (simp; omega)))) | assumption | refine Own.alloc ?_ _ | refine Own.drew ?_ | (refine Own.far ?_ ?_ _; rotate_left; (focus (first | rfl | omega | (simp; done) | (simp; omega)))))) hbx
    replace o2c := o2.cell
    replace o2f := o2.thaw
    replace o2z := o2.lt
    replace o3 : Own w8 (o3b) #[.int .i64 25, .int .i64 0, .int .i64 0, .int .i64 0, .int .i64 0, .int .i64 1, .int .i64 1, .int .i64 2] := Own.below (by repeat' (first | ((refine Own.new ?_); (focus (first | rfl | omega | (simp; done) | (simp; omega)))) | assumption | refine Own.alloc ?_ _ | refine Own.drew ?_ | (refine Own.far ?_ ?_ _; rotate_left; (focus (first | rfl | omega | (simp; done) | (simp; omega)))))) hbx
    replace o3c := o3.cell
    replace o3f := o3.thaw
    replace o3z := o3.lt
    replace hw : Below w.heap.size w w8 := Below.hop (by repeat' (first | exact Below.refl _ _ | assumption | (refine Below.alloc ?_ ?_ _; rotate_left; (focus (first | rfl | omega | (simp; done) | (simp; omega)))) | (refine Below.setCell ?_ ?_ _; rotate_left; (focus (first | rfl | omega | (simp; done) | (simp; omega)))) | refine Below.drew ?_)) hbx
    replace hz := hw.size
    clear hbx
    go_wp2_with fail
    refine Calls.mono (law25_with 1 2 0 0 0 1 1 2 3 2 _) ?_
    rintro e w9 ⟨rfl, hbx⟩
    replace o1 : Own w9 (w2.heap.size) #[.int .i64 1, .int .i64 2, .int .i64 0, .int .i64 0, .int .i64 0, .int .i64 1, .int .i64 1, .int .i64 2] := Own.below (by repeat' (first | ((refine Own.new ?_); (focus (first | rfl | omega | (simp; done) | (simp; omega)))) | assumption | refine Own.alloc ?_ _ | refine Own.drew ?_ | (refine Own.far ?_ ?_ _; rotate_left; (focus (first | rfl | omega | (simp; done) | (simp; omega)))))) hbx
    replace o1c := o1.cell
    replace o1f := o1.thaw
    replace o1z := o1.lt
    replace o2 : Own w9 (o2b) #[.int .i64 1, .int .i64 2, .int .i64 0, .int .i64 0, .int .i64 1, .int .i64 1, .int .i64 1, .int .i64 2] := Own.below (by repeat' (first | ((refine Own.new ?_); (focus (first | rfl | omega | (simp; done) | (simp; omega)))) | assumption | refine Own.alloc ?_ _ | refine Own.drew ?_ | (refine Own.far ?_ ?_ _; rotate_left; (focus (first | rfl | omega | (simp; done) | (simp; omega)))))) hbx
    replace o2c := o2.cell
    replace o2f := o2.thaw
    replace o2z := o2.lt
    replace o3 : Own w9 (o3b) #[.int .i64 25, .int .i64 0, .int .i64 0, .int .i64 0, .int .i64 0, .int .i64 1, .int .i64 1, .int .i64 2] := Own.below (by repeat' (first | ((refine Own.new ?_); (focus (first | rfl | omega | (simp; done) | (simp; omega)))) | assumption | refine Own.alloc ?_ _ | refine Own.drew ?_ | (refine Own.far ?_ ?_ _; rotate_left; (focus (first | rfl | omega | (simp; done) | (simp; omega)))))) hbx
    replace o3c := o3.cell
    replace o3f := o3.thaw
    replace o3z := o3.lt
    replace hw : Below w.heap.size w w9 := Below.hop (by repeat' (first | exact Below.refl _ _ | assumption | (refine Below.alloc ?_ ?_ _; rotate_left; (focus (first | rfl | omega | (simp; done) | (simp; omega)))) | (refine Below.setCell ?_ ?_ _; rotate_left; (focus (first | rfl | omega | (simp; done) | (simp; omega)))) | refine Below.drew ?_)) hbx
    replace hz := hw.size
    clear hbx
    go_wp2_with fail
    refine Calls.mono (callv (contact_Check 1 2 0 0 0 1 3 2 _) HK2.out) ?_
    rintro e w10 ⟨rfl, hbx⟩
    replace o1 : Own w10 (w2.heap.size) #[.int .i64 1, .int .i64 2, .int .i64 0, .int .i64 0, .int .i64 0, .int .i64 1, .int .i64 1, .int .i64 2] := Own.below (by repeat' (first | ((refine Own.new ?_); (focus (first | rfl | omega | (simp; done) | (simp; omega)))) | assumption | refine Own.alloc ?_ _ | refine Own.drew ?_ | (refine Own.far ?_ ?_ _; rotate_left; (focus (first | rfl | omega | (simp; done) | (simp; omega)))))) hbx
    replace o1c := o1.cell
    replace o1f := o1.thaw
    replace o1z := o1.lt
    replace o2 : Own w10 (o2b) #[.int .i64 1, .int .i64 2, .int .i64 0, .int .i64 0, .int .i64 1, .int .i64 1, .int .i64 1, .int .i64 2] := Own.below (by repeat' (first | ((refine Own.new ?_); (focus (first | rfl | omega | (simp; done) | (simp; omega)))) | assumption | refine Own.alloc ?_ _ | refine Own.drew ?_ | (refine Own.far ?_ ?_ _; rotate_left; (focus (first | rfl | omega | (simp; done) | (simp; omega)))))) hbx
    replace o2c := o2.cell
    replace o2f := o2.thaw
    replace o2z := o2.lt
    replace o3 : Own w10 (o3b) #[.int .i64 25, .int .i64 0, .int .i64 0, .int .i64 0, .int .i64 0, .int .i64 1, .int .i64 1, .int .i64 2] := Own.below (by repeat' (first | ((refine Own.new ?_); (focus (first | rfl | omega | (simp; done) | (simp; omega)))) | assumption | refine Own.alloc ?_ _ | refine Own.drew ?_ | (refine Own.far ?_ ?_ _; rotate_left; (focus (first | rfl | omega | (simp; done) | (simp; omega)))))) hbx
    replace o3c := o3.cell
    replace o3f := o3.thaw
    replace o3z := o3.lt
    replace hw : Below w.heap.size w w10 := Below.hop (by repeat' (first | exact Below.refl _ _ | assumption | (refine Below.alloc ?_ ?_ _; rotate_left; (focus (first | rfl | omega | (simp; done) | (simp; omega)))) | (refine Below.setCell ?_ ?_ _; rotate_left; (focus (first | rfl | omega | (simp; done) | (simp; omega)))) | refine Below.drew ?_)) hbx
    replace hz := hw.size
    clear hbx
    go_wp2_with fail
    refine Calls.mono (law25_with 1 2 0 0 0 1 1 2 1 11 _) ?_
    rintro e w11 ⟨rfl, hbx⟩
    replace o1 : Own w11 (w2.heap.size) #[.int .i64 1, .int .i64 2, .int .i64 0, .int .i64 0, .int .i64 0, .int .i64 1, .int .i64 1, .int .i64 2] := Own.below (by repeat' (first | ((refine Own.new ?_); (focus (first | rfl | omega | (simp; done) | (simp; omega)))) | assumption | refine Own.alloc ?_ _ | refine Own.drew ?_ | (refine Own.far ?_ ?_ _; rotate_left; (focus (first | rfl | omega | (simp; done) | (simp; omega)))))) hbx
    replace o1c := o1.cell
    replace o1f := o1.thaw
    replace o1z := o1.lt
    replace o2 : Own w11 (o2b) #[.int .i64 1, .int .i64 2, .int .i64 0, .int .i64 0, .int .i64 1, .int .i64 1, .int .i64 1, .int .i64 2] := Own.below (by repeat' (first | ((refine Own.new ?_); (focus (first | rfl | omega | (simp; done) | (simp; omega)))) | assumption | refine Own.alloc ?_ _ | refine Own.drew ?_ | (refine Own.far ?_ ?_ _; rotate_left; (focus (first | rfl | omega | (simp; done) | (simp; omega)))))) hbx
    replace o2c := o2.cell
    replace o2f := o2.thaw
    replace o2z := o2.lt
    replace o3 : Own w11 (o3b) #[.int .i64 25, .int .i64 0, .int .i64 0, .int .i64 0, .int .i64 0, .int .i64 1, .int .i64 1, .int .i64 2] := Own.below (by repeat' (first | ((refine Own.new ?_); (focus (first | rfl | omega | (simp; done) | (simp; omega)))) | assumption | refine Own.alloc ?_ _ | refine Own.drew ?_ | (refine Own.far ?_ ?_ _; rotate_left; (focus (first | rfl | omega | (simp; done) | (simp; omega)))))) hbx
    replace o3c := o3.cell
    replace o3f := o3.thaw
    replace o3z := o3.lt
    replace hw : Below w.heap.size w w11 := Below.hop (by repeat' (first | exact Below.refl _ _ | assumption | (refine Below.alloc ?_ ?_ _; rotate_left; (focus (first | rfl | omega | (simp; done) | (simp; omega)))) | (refine Below.setCell ?_ ?_ _; rotate_left; (focus (first | rfl | omega | (simp; done) | (simp; omega)))) | refine Below.drew ?_)) hbx
    replace hz := hw.size
    clear hbx
    go_wp2_with fail
    refine Calls.mono (callv (contact_Check 1 2 0 0 0 1 1 11 _) HK3.out) ?_
    rintro e w12 ⟨rfl, hbx⟩
    replace o1 : Own w12 (w2.heap.size) #[.int .i64 1, .int .i64 2, .int .i64 0, .int .i64 0, .int .i64 0, .int .i64 1, .int .i64 1, .int .i64 2] := Own.below (by repeat' (first | ((refine Own.new ?_); (focus (first | rfl | omega | (simp; done) | (simp; omega)))) | assumption | refine Own.alloc ?_ _ | refine Own.drew ?_ | (refine Own.far ?_ ?_ _; rotate_left; (focus (first | rfl | omega | (simp; done) | (simp; omega)))))) hbx
    replace o1c := o1.cell
    replace o1f := o1.thaw
    replace o1z := o1.lt
    replace o2 : Own w12 (o2b) #[.int .i64 1, .int .i64 2, .int .i64 0, .int .i64 0, .int .i64 1, .int .i64 1, .int .i64 1, .int .i64 2] := Own.below (by repeat' (first | ((refine Own.new ?_); (focus (first | rfl | omega | (simp; done) | (simp; omega)))) | assumption | refine Own.alloc ?_ _ | refine Own.drew ?_ | (refine Own.far ?_ ?_ _; rotate_left; (focus (first | rfl | omega | (simp; done) | (simp; omega)))))) hbx
    replace o2c := o2.cell
    replace o2f := o2.thaw
    replace o2z := o2.lt
    replace o3 : Own w12 (o3b) #[.int .i64 25, .int .i64 0, .int .i64 0, .int .i64 0, .int .i64 0, .int .i64 1, .int .i64 1, .int .i64 2] := Own.below (by repeat' (first | ((refine Own.new ?_); (focus (first | rfl | omega | (simp; done) | (simp; omega)))) | assumption | refine Own.alloc ?_ _ | refine Own.drew ?_ | (refine Own.far ?_ ?_ _; rotate_left; (focus (first | rfl | omega | (simp; done) | (simp; omega)))))) hbx
    replace o3c := o3.cell
    replace o3f := o3.thaw
    replace o3z := o3.lt
    replace hw : Below w.heap.size w w12 := Below.hop (by repeat' (first | exact Below.refl _ _ | assumption | (refine Below.alloc ?_ ?_ _; rotate_left; (focus (first | rfl | omega | (simp; done) | (simp; omega)))) | (refine Below.setCell ?_ ?_ _; rotate_left; (focus (first | rfl | omega | (simp; done) | (simp; omega)))) | refine Below.drew ?_)) hbx
    replace hz := hw.size
    clear hbx
    go_wp2_with fail
    refine Calls.mono (callv (contact_Check 1 2 0 0 1 1 1 2 _) HK4.out) ?_
    rintro e w13 ⟨rfl, hbx⟩
    replace o1 : Own w13 (w2.heap.size) #[.int .i64 1, .int .i64 2, .int .i64 0, .int .i64 0, .int .i64 0, .int .i64 1, .int .i64 1, .int .i64 2] := Own.below (by repeat' (first | ((refine Own.new ?_); (focus (first | rfl | omega | (simp; done) | (simp; omega)))) | assumption | refine Own.alloc ?_ _ | refine Own.drew ?_ | (refine Own.far ?_ ?_ _; rotate_left; (focus (first | rfl | omega | (simp; done) | (simp; omega)))))) hbx
    replace o1c := o1.cell
    replace o1f := o1.thaw
    replace o1z := o1.lt
    replace o2 : Own w13 (o2b) #[.int .i64 1, .int .i64 2, .int .i64 0, .int .i64 0, .int .i64 1, .int .i64 1, .int .i64 1, .int .i64 2] := Own.below (by repeat' (first | ((refine Own.new ?_); (focus (first | rfl | omega | (simp; done) | (simp; omega)))) | assumption | refine Own.alloc ?_ _ | refine Own.drew ?_ | (refine Own.far ?_ ?_ _; rotate_left; (focus (first | rfl | omega | (simp; done) | (simp; omega)))))) hbx
    replace o2c := o2.cell
    replace o2f := o2.thaw
    replace o2z := o2.lt
    replace o3 : Own w13 (o3b) #[.int .i64 25, .int .i64 0, .int .i64 0, .int .i64 0, .int .i64 0, .int .i64 1, .int .i64 1, .int .i64 2] := Own.below (by repeat' (first | ((refine Own.new ?_); (focus (first | rfl | omega | (simp; done) | (simp; omega)))) | assumption | refine Own.alloc ?_ _ | refine Own.drew ?_ | (refine Own.far ?_ ?_ _; rotate_left; (focus (first | rfl | omega | (simp; done) | (simp; omega)))))) hbx
    replace o3c := o3.cell
    replace o3f := o3.thaw
    replace o3z := o3.lt
    replace hw : Below w.heap.size w w13 := Below.hop (by repeat' (first | exact Below.refl _ _ | assumption | (refine Below.alloc ?_ ?_ _; rotate_left; (focus (first | rfl | omega | (simp; done) | (simp; omega)))) | (refine Below.setCell ?_ ?_ _; rotate_left; (focus (first | rfl | omega | (simp; done) | (simp; omega)))) | refine Below.drew ?_)) hbx
    replace hz := hw.size
    clear hbx
    go_wp2_with fail
    refine Calls.mono (callv (contact_Check 25 0 0 0 0 1 1 2 _) HK5.out) ?_
    rintro e w14 ⟨rfl, hbx⟩
    replace o1 : Own w14 (w2.heap.size) #[.int .i64 1, .int .i64 2, .int .i64 0, .int .i64 0, .int .i64 0, .int .i64 1, .int .i64 1, .int .i64 2] := Own.below (by repeat' (first | ((refine Own.new ?_); (focus (first | rfl | omega | (simp; done) | (simp; omega)))) | assumption | refine Own.alloc ?_ _ | refine Own.drew ?_ | (refine Own.far ?_ ?_ _; rotate_left; (focus (first | rfl | omega | (simp; done) | (simp; omega)))))) hbx
    replace o1c := o1.cell
    replace o1f := o1.thaw
    replace o1z := o1.lt
    replace o2 : Own w14 (o2b) #[.int .i64 1, .int .i64 2, .int .i64 0, .int .i64 0, .int .i64 1, .int .i64 1, .int .i64 1, .int .i64 2] := Own.below (by repeat' (first | ((refine Own.new ?_); (focus (first | rfl | omega | (simp; done) | (simp; omega)))) | assumption | refine Own.alloc ?_ _ | refine Own.drew ?_ | (refine Own.far ?_ ?_ _; rotate_left; (focus (first | rfl | omega | (simp; done) | (simp; omega)))))) hbx
    replace o2c := o2.cell
    replace o2f := o2.thaw
    replace o2z := o2.lt
    replace o3 : Own w14 (o3b) #[.int .i64 25, .int .i64 0, .int .i64 0, .int .i64 0, .int .i64 0, .int .i64 1, .int .i64 1, .int .i64 2] := Own.below (by repeat' (first | ((refine Own.new ?_); (focus (first | rfl | omega | (simp; done) | (simp; omega)))) | assumption | refine Own.alloc ?_ _ | refine Own.drew ?_ | (refine Own.far ?_ ?_ _; rotate_left; (focus (first | rfl | omega | (simp; done) | (simp; omega)))))) hbx
    replace o3c := o3.cell
    replace o3f := o3.thaw
    replace o3z := o3.lt
    replace hw : Below w.heap.size w w14 := Below.hop (by repeat' (first | exact Below.refl _ _ | assumption | (refine Below.alloc ?_ ?_ _; rotate_left; (focus (first | rfl | omega | (simp; done) | (simp; omega)))) | (refine Below.setCell ?_ ?_ _; rotate_left; (focus (first | rfl | omega | (simp; done) | (simp; omega)))) | refine Below.drew ?_)) hbx
    replace hz := hw.size
    clear hbx
    go_wp2_with fail
    refine Calls.mono (contact_Cone ⟨⟨1, 2, 0⟩, ⟨0, 0, 1⟩, 1, 2⟩ _) ?_
    rintro e w15 ⟨v, rfl, hs, hbx⟩
    rw [HLA] at hs
    obtain ⟨AA, capA, rfl, hr⟩ := hs.reads
    have HRA := Lib.hid hr
    clear hs hr
    replace o1 : Own w15 (w2.heap.size) #[.int .i64 1, .int .i64 2, .int .i64 0, .int .i64 0, .int .i64 0, .int .i64 1, .int .i64 1, .int .i64 2] := Own.below (by repeat' (first | ((refine Own.new ?_); (focus (first | rfl | omega | (simp; done) | (simp; omega)))) | assumption | refine Own.alloc ?_ _ | refine Own.drew ?_ | (refine Own.far ?_ ?_ _; rotate_left; (focus (first | rfl | omega | (simp; done) | (simp; omega)))))) hbx
    replace o1c := o1.cell
    replace o1f := o1.thaw
    replace o1z := o1.lt
    replace o2 : Own w15 (o2b) #[.int .i64 1, .int .i64 2, .int .i64 0, .int .i64 0, .int .i64 1, .int .i64 1, .int .i64 1, .int .i64 2] := Own.below (by repeat' (first | ((refine Own.new ?_); (focus (first | rfl | omega | (simp; done) | (simp; omega)))) | assumption | refine Own.alloc ?_ _ | refine Own.drew ?_ | (refine Own.far ?_ ?_ _; rotate_left; (focus (first | rfl | omega | (simp; done) | (simp; omega)))))) hbx
    replace o2c := o2.cell
    replace o2f := o2.thaw
    replace o2z := o2.lt
    replace o3 : Own w15 (o3b) #[.int .i64 25, .int .i64 0, .int .i64 0, .int .i64 0, .int .i64 0, .int .i64 1, .int .i64 1, .int .i64 2] := Own.below (by repeat' (first | ((refine Own.new ?_); (focus (first | rfl | omega | (simp; done) | (simp; omega)))) | assumption | refine Own.alloc ?_ _ | refine Own.drew ?_ | (refine Own.far ?_ ?_ _; rotate_left; (focus (first | rfl | omega | (simp; done) | (simp; omega)))))) hbx
    replace o3c := o3.cell
    replace o3f := o3.thaw
    replace o3z := o3.lt
    replace hw : Below w.heap.size w w15 := Below.hop (by repeat' (first | exact Below.refl _ _ | assumption | (refine Below.alloc ?_ ?_ _; rotate_left; (focus (first | rfl | omega | (simp; done) | (simp; omega)))) | (refine Below.setCell ?_ ?_ _; rotate_left; (focus (first | rfl | omega | (simp; done) | (simp; omega)))) | refine Below.drew ?_)) hbx
    replace hz := hw.size
    clear hbx
    have hq : Below w15.heap.size w15 w15 := Below.refl _ _
    go_wp2_with fail
    refine Calls.mono (law25_vec 1 0 2 _) ?_
    rintro e w16 ⟨rfl, hbx⟩
    replace hq := Below.hop hq hbx
    replace o1 : Own w16 (w2.heap.size) #[.int .i64 1, .int .i64 2, .int .i64 0, .int .i64 0, .int .i64 0, .int .i64 1, .int .i64 1, .int .i64 2] := Own.below (by repeat' (first | ((refine Own.new ?_); (focus (first | rfl | omega | (simp; done) | (simp; omega)))) | assumption | refine Own.alloc ?_ _ | refine Own.drew ?_ | (refine Own.far ?_ ?_ _; rotate_left; (focus (first | rfl | omega | (simp; done) | (simp; omega)))))) hbx
    replace o1c := o1.cell
    replace o1f := o1.thaw
    replace o1z := o1.lt
    replace o2 : Own w16 (o2b) #[.int .i64 1, .int .i64 2, .int .i64 0, .int .i64 0, .int .i64 1, .int .i64 1, .int .i64 1, .int .i64 2] := Own.below (by repeat' (first | ((refine Own.new ?_); (focus (first | rfl | omega | (simp; done) | (simp; omega)))) | assumption | refine Own.alloc ?_ _ | refine Own.drew ?_ | (refine Own.far ?_ ?_ _; rotate_left; (focus (first | rfl | omega | (simp; done) | (simp; omega)))))) hbx
    replace o2c := o2.cell
    replace o2f := o2.thaw
    replace o2z := o2.lt
    replace o3 : Own w16 (o3b) #[.int .i64 25, .int .i64 0, .int .i64 0, .int .i64 0, .int .i64 0, .int .i64 1, .int .i64 1, .int .i64 2] := Own.below (by repeat' (first | ((refine Own.new ?_); (focus (first | rfl | omega | (simp; done) | (simp; omega)))) | assumption | refine Own.alloc ?_ _ | refine Own.drew ?_ | (refine Own.far ?_ ?_ _; rotate_left; (focus (first | rfl | omega | (simp; done) | (simp; omega)))))) hbx
    replace o3c := o3.cell
    replace o3f := o3.thaw
    replace o3z := o3.lt
    replace hw : Below w.heap.size w w16 := Below.hop (by repeat' (first | exact Below.refl _ _ | assumption | (refine Below.alloc ?_ ?_ _; rotate_left; (focus (first | rfl | omega | (simp; done) | (simp; omega)))) | (refine Below.setCell ?_ ?_ _; rotate_left; (focus (first | rfl | omega | (simp; done) | (simp; omega)))) | refine Below.drew ?_)) hbx
    replace hz := hw.size
    clear hbx
    go_wp2_with fail
    refine Calls.mono (law25_vec (-1) 0 2 _) ?_
    rintro e w17 ⟨rfl, hbx⟩
    replace hq := Below.hop hq hbx
    replace o1 : Own w17 (w2.heap.size) #[.int .i64 1, .int .i64 2, .int .i64 0, .int .i64 0, .int .i64 0, .int .i64 1, .int .i64 1, .int .i64 2] := Own.below (by repeat' (first | ((refine Own.new ?_); (focus (first | rfl | omega | (simp; done) | (simp; omega)))) | assumption | refine Own.alloc ?_ _ | refine Own.drew ?_ | (refine Own.far ?_ ?_ _; rotate_left; (focus (first | rfl | omega | (simp; done) | (simp; omega)))))) hbx
    replace o1c := o1.cell
    replace o1f := o1.thaw
    replace o1z := o1.lt
    replace o2 : Own w17 (o2b) #[.int .i64 1, .int .i64 2, .int .i64 0, .int .i64 0, .int .i64 1, .int .i64 1, .int .i64 1, .int .i64 2] := Own.below (by repeat' (first | ((refine Own.new ?_); (focus (first | rfl | omega | (simp; done) | (simp; omega)))) | assumption | refine Own.alloc ?_ _ | refine Own.drew ?_ | (refine Own.far ?_ ?_ _; rotate_left; (focus (first | rfl | omega | (simp; done) | (simp; omega)))))) hbx
    replace o2c := o2.cell
    replace o2f := o2.thaw
    replace o2z := o2.lt
    replace o3 : Own w17 (o3b) #[.int .i64 25, .int .i64 0, .int .i64 0, .int .i64 0, .int .i64 0, .int .i64 1, .int .i64 1, .int .i64 2] := Own.below (by repeat' (first | ((refine Own.new ?_); (focus (first | rfl | omega | (simp; done) | (simp; omega)))) | assumption | refine Own.alloc ?_ _ | refine Own.drew ?_ | (refine Own.far ?_ ?_ _; rotate_left; (focus (first | rfl | omega | (simp; done) | (simp; omega)))))) hbx
    replace o3c := o3.cell
    replace o3f := o3.thaw
    replace o3z := o3.lt
    replace hw : Below w.heap.size w w17 := Below.hop (by repeat' (first | exact Below.refl _ _ | assumption | (refine Below.alloc ?_ ?_ _; rotate_left; (focus (first | rfl | omega | (simp; done) | (simp; omega)))) | (refine Below.setCell ?_ ?_ _; rotate_left; (focus (first | rfl | omega | (simp; done) | (simp; omega)))) | refine Below.drew ?_)) hbx
    replace hz := hw.size
    clear hbx
    go_wp2_with fail
    refine Calls.mono (law25_vec 0 1 2 _) ?_
    rintro e w18 ⟨rfl, hbx⟩
    replace hq := Below.hop hq hbx
    replace o1 : Own w18 (w2.heap.size) #[.int .i64 1, .int .i64 2, .int .i64 0, .int .i64 0, .int .i64 0, .int .i64 1, .int .i64 1, .int .i64 2] := Own.below (by repeat' (first | ((refine Own.new ?_); (focus (first | rfl | omega | (simp; done) | (simp; omega)))) | assumption | refine Own.alloc ?_ _ | refine Own.drew ?_ | (refine Own.far ?_ ?_ _; rotate_left; (focus (first | rfl | omega | (simp; done) | (simp; omega)))))) hbx
    replace o1c := o1.cell
    replace o1f := o1.thaw
    replace o1z := o1.lt
    replace o2 : Own w18 (o2b) #[.int .i64 1, .int .i64 2, .int .i64 0, .int .i64 0, .int .i64 1, .int .i64 1, .int .i64 1, .int .i64 2] := Own.below (by repeat' (first | ((refine Own.new ?_); (focus (first | rfl | omega | (simp; done) | (simp; omega)))) | assumption | refine Own.alloc ?_ _ | refine Own.drew ?_ | (refine Own.far ?_ ?_ _; rotate_left; (focus (first | rfl | omega | (simp; done) | (simp; omega)))))) hbx
    replace o2c := o2.cell
    replace o2f := o2.thaw
    replace o2z := o2.lt
    replace o3 : Own w18 (o3b) #[.int .i64 25, .int .i64 0, .int .i64 0, .int .i64 0, .int .i64 0, .int .i64 1, .int .i64 1, .int .i64 2] := Own.below (by repeat' (first | ((refine Own.new ?_); (focus (first | rfl | omega | (simp; done) | (simp; omega)))) | assumption | refine Own.alloc ?_ _ | refine Own.drew ?_ | (refine Own.far ?_ ?_ _; rotate_left; (focus (first | rfl | omega | (simp; done) | (simp; omega)))))) hbx
    replace o3c := o3.cell
    replace o3f := o3.thaw
    replace o3z := o3.lt
    replace hw : Below w.heap.size w w18 := Below.hop (by repeat' (first | exact Below.refl _ _ | assumption | (refine Below.alloc ?_ ?_ _; rotate_left; (focus (first | rfl | omega | (simp; done) | (simp; omega)))) | (refine Below.setCell ?_ ?_ _; rotate_left; (focus (first | rfl | omega | (simp; done) | (simp; omega)))) | refine Below.drew ?_)) hbx
    replace hz := hw.size
    clear hbx
    go_wp2_with fail
    refine Calls.mono (law25_vec 0 (-1) 2 _) ?_
    rintro e w19 ⟨rfl, hbx⟩
    replace hq := Below.hop hq hbx
    replace o1 : Own w19 (w2.heap.size) #[.int .i64 1, .int .i64 2, .int .i64 0, .int .i64 0, .int .i64 0, .int .i64 1, .int .i64 1, .int .i64 2] := Own.below (by repeat' (first | ((refine Own.new ?_); (focus (first | rfl | omega | (simp; done) | (simp; omega)))) | assumption | refine Own.alloc ?_ _ | refine Own.drew ?_ | (refine Own.far ?_ ?_ _; rotate_left; (focus (first | rfl | omega | (simp; done) | (simp; omega)))))) hbx
    replace o1c := o1.cell
    replace o1f := o1.thaw
    replace o1z := o1.lt
    replace o2 : Own w19 (o2b) #[.int .i64 1, .int .i64 2, .int .i64 0, .int .i64 0, .int .i64 1, .int .i64 1, .int .i64 1, .int .i64 2] := Own.below (by repeat' (first | ((refine Own.new ?_); (focus (first | rfl | omega | (simp; done) | (simp; omega)))) | assumption | refine Own.alloc ?_ _ | refine Own.drew ?_ | (refine Own.far ?_ ?_ _; rotate_left; (focus (first | rfl | omega | (simp; done) | (simp; omega)))))) hbx
    replace o2c := o2.cell
    replace o2f := o2.thaw
    replace o2z := o2.lt
    replace o3 : Own w19 (o3b) #[.int .i64 25, .int .i64 0, .int .i64 0, .int .i64 0, .int .i64 0, .int .i64 1, .int .i64 1, .int .i64 2] := Own.below (by repeat' (first | ((refine Own.new ?_); (focus (first | rfl | omega | (simp; done) | (simp; omega)))) | assumption | refine Own.alloc ?_ _ | refine Own.drew ?_ | (refine Own.far ?_ ?_ _; rotate_left; (focus (first | rfl | omega | (simp; done) | (simp; omega)))))) hbx
    replace o3c := o3.cell
    replace o3f := o3.thaw
    replace o3z := o3.lt
    replace hw : Below w.heap.size w w19 := Below.hop (by repeat' (first | exact Below.refl _ _ | assumption | (refine Below.alloc ?_ ?_ _; rotate_left; (focus (first | rfl | omega | (simp; done) | (simp; omega)))) | (refine Below.setCell ?_ ?_ _; rotate_left; (focus (first | rfl | omega | (simp; done) | (simp; omega)))) | refine Below.drew ?_)) hbx
    replace hz := hw.size
    clear hbx
    go_wp2_with fail
    replace hq := hq.trans (((Below.refl _ w19).alloc (Nat.le_refl _) (.cells (flatV [⟨1, 0, 2⟩, ⟨-1, 0, 2⟩, ⟨0, 1, 2⟩, ⟨0, -1, 2⟩]).toArray 24)).mono hq.size)
    have hra := HRA.out.below hq
    have hrb := reads_own (n := 4 * 3) (zs := fun i => (flatI [⟨1, 0, 2⟩, ⟨-1, 0, 2⟩, ⟨0, 1, 2⟩, ⟨0, -1, 2⟩]).getD i 0) (Own.new (w := w19) (T := 24) rfl) (cells_flat [⟨1, 0, 2⟩, ⟨-1, 0, 2⟩, ⟨0, 1, 2⟩, ⟨0, -1, 2⟩])
    clear hq HRA
    refine Calls.mono (ref25_SameVecs AA (some ⟨w19.heap.size, 0, none⟩) 4 capA 4 (fun i => (flatI [⟨1, 0, 2⟩, ⟨-1, 0, 2⟩, ⟨0, 1, 2⟩, ⟨0, -1, 2⟩]).getD i 0) _ (by omega) hra hrb) ?_
    rintro e w20 ⟨rfl, hbx⟩
    clear hra hrb
    replace o1 : Own w20 (w2.heap.size) #[.int .i64 1, .int .i64 2, .int .i64 0, .int .i64 0, .int .i64 0, .int .i64 1, .int .i64 1, .int .i64 2] := Own.below (by repeat' (first | ((refine Own.new ?_); (focus (first | rfl | omega | (simp; done) | (simp; omega)))) | assumption | refine Own.alloc ?_ _ | refine Own.drew ?_ | (refine Own.far ?_ ?_ _; rotate_left; (focus (first | rfl | omega | (simp; done) | (simp; omega)))))) hbx
    replace o1c := o1.cell
    replace o1f := o1.thaw
    replace o1z := o1.lt
    replace o2 : Own w20 (o2b) #[.int .i64 1, .int .i64 2, .int .i64 0, .int .i64 0, .int .i64 1, .int .i64 1, .int .i64 1, .int .i64 2] := Own.below (by repeat' (first | ((refine Own.new ?_); (focus (first | rfl | omega | (simp; done) | (simp; omega)))) | assumption | refine Own.alloc ?_ _ | refine Own.drew ?_ | (refine Own.far ?_ ?_ _; rotate_left; (focus (first | rfl | omega | (simp; done) | (simp; omega)))))) hbx
    replace o2c := o2.cell
    replace o2f := o2.thaw
    replace o2z := o2.lt
    replace o3 : Own w20 (o3b) #[.int .i64 25, .int .i64 0, .int .i64 0, .int .i64 0, .int .i64 0, .int .i64 1, .int .i64 1, .int .i64 2] := Own.below (by repeat' (first | ((refine Own.new ?_); (focus (first | rfl | omega | (simp; done) | (simp; omega)))) | assumption | refine Own.alloc ?_ _ | refine Own.drew ?_ | (refine Own.far ?_ ?_ _; rotate_left; (focus (first | rfl | omega | (simp; done) | (simp; omega)))))) hbx
    replace o3c := o3.cell
    replace o3f := o3.thaw
    replace o3z := o3.lt
    replace hw : Below w.heap.size w w20 := Below.hop (by repeat' (first | exact Below.refl _ _ | assumption | (refine Below.alloc ?_ ?_ _; rotate_left; (focus (first | rfl | omega | (simp; done) | (simp; omega)))) | (refine Below.setCell ?_ ?_ _; rotate_left; (focus (first | rfl | omega | (simp; done) | (simp; omega)))) | refine Below.drew ?_)) hbx
    replace hz := hw.size
    clear hbx
    go_wp2_with fail
    refine Calls.mono (law25_with 1 2 0 0 0 1 1 2 0 1 _) ?_
    rintro e w21 ⟨rfl, hbx⟩
    replace o1 : Own w21 (w2.heap.size) #[.int .i64 1, .int .i64 2, .int .i64 0, .int .i64 0, .int .i64 0, .int .i64 1, .int .i64 1, .int .i64 2] := Own.below (by repeat' (first | ((refine Own.new ?_); (focus (first | rfl | omega | (simp; done) | (simp; omega)))) | assumption | refine Own.alloc ?_ _ | refine Own.drew ?_ | (refine Own.far ?_ ?_ _; rotate_left; (focus (first | rfl | omega | (simp; done) | (simp; omega)))))) hbx
    replace o1c := o1.cell
    replace o1f := o1.thaw
    replace o1z := o1.lt
    replace o2 : Own w21 (o2b) #[.int .i64 1, .int .i64 2, .int .i64 0, .int .i64 0, .int .i64 1, .int .i64 1, .int .i64 1, .int .i64 2] := Own.below (by repeat' (first | ((refine Own.new ?_); (focus (first | rfl | omega | (simp; done) | (simp; omega)))) | assumption | refine Own.alloc ?_ _ | refine Own.drew ?_ | (refine Own.far ?_ ?_ _; rotate_left; (focus (first | rfl | omega | (simp; done) | (simp; omega)))))) hbx
    replace o2c := o2.cell
    replace o2f := o2.thaw
    replace o2z := o2.lt
    replace o3 : Own w21 (o3b) #[.int .i64 25, .int .i64 0, .int .i64 0, .int .i64 0, .int .i64 0, .int .i64 1, .int .i64 1, .int .i64 2] := Own.below (by repeat' (first | ((refine Own.new ?_); (focus (first | rfl | omega | (simp; done) | (simp; omega)))) | assumption | refine Own.alloc ?_ _ | refine Own.drew ?_ | (refine Own.far ?_ ?_ _; rotate_left; (focus (first | rfl | omega | (simp; done) | (simp; omega)))))) hbx
    replace o3c := o3.cell
    replace o3f := o3.thaw
    replace o3z := o3.lt
    replace hw : Below w.heap.size w w21 := Below.hop (by repeat' (first | exact Below.refl _ _ | assumption | (refine Below.alloc ?_ ?_ _; rotate_left; (focus (first | rfl | omega | (simp; done) | (simp; omega)))) | (refine Below.setCell ?_ ?_ _; rotate_left; (focus (first | rfl | omega | (simp; done) | (simp; omega)))) | refine Below.drew ?_)) hbx
    replace hz := hw.size
    clear hbx
    go_wp2_with fail
    refine Calls.mono (contact_Cone ⟨⟨1, 2, 0⟩, ⟨0, 0, 1⟩, 0, 1⟩ _) ?_
    rintro e w22 ⟨v, rfl, hs, hbx⟩
    rw [HLB] at hs
    obtain ⟨AB, capB, rfl, hr⟩ := hs.reads
    have HRB := Lib.hid hr
    clear hs hr
    replace o1 : Own w22 (w2.heap.size) #[.int .i64 1, .int .i64 2, .int .i64 0, .int .i64 0, .int .i64 0, .int .i64 1, .int .i64 1, .int .i64 2] := Own.below (by repeat' (first | ((refine Own.new ?_); (focus (first | rfl | omega | (simp; done) | (simp; omega)))) | assumption | refine Own.alloc ?_ _ | refine Own.drew ?_ | (refine Own.far ?_ ?_ _; rotate_left; (focus (first | rfl | omega | (simp; done) | (simp; omega)))))) hbx
    replace o1c := o1.cell
    replace o1f := o1.thaw
    replace o1z := o1.lt
    replace o2 : Own w22 (o2b) #[.int .i64 1, .int .i64 2, .int .i64 0, .int .i64 0, .int .i64 1, .int .i64 1, .int .i64 1, .int .i64 2] := Own.below (by repeat' (first | ((refine Own.new ?_); (focus (first | rfl | omega | (simp; done) | (simp; omega)))) | assumption | refine Own.alloc ?_ _ | refine Own.drew ?_ | (refine Own.far ?_ ?_ _; rotate_left; (focus (first | rfl | omega | (simp; done) | (simp; omega)))))) hbx
    replace o2c := o2.cell
    replace o2f := o2.thaw
    replace o2z := o2.lt
    replace o3 : Own w22 (o3b) #[.int .i64 25, .int .i64 0, .int .i64 0, .int .i64 0, .int .i64 0, .int .i64 1, .int .i64 1, .int .i64 2] := Own.below (by repeat' (first | ((refine Own.new ?_); (focus (first | rfl | omega | (simp; done) | (simp; omega)))) | assumption | refine Own.alloc ?_ _ | refine Own.drew ?_ | (refine Own.far ?_ ?_ _; rotate_left; (focus (first | rfl | omega | (simp; done) | (simp; omega)))))) hbx
    replace o3c := o3.cell
    replace o3f := o3.thaw
    replace o3z := o3.lt
    replace hw : Below w.heap.size w w22 := Below.hop (by repeat' (first | exact Below.refl _ _ | assumption | (refine Below.alloc ?_ ?_ _; rotate_left; (focus (first | rfl | omega | (simp; done) | (simp; omega)))) | (refine Below.setCell ?_ ?_ _; rotate_left; (focus (first | rfl | omega | (simp; done) | (simp; omega)))) | refine Below.drew ?_)) hbx
    replace hz := hw.size
    clear hbx
    go_wp2_with fail
    refine Calls.mono (law25_vec 0 0 1 _) ?_
    rintro e w23 ⟨rfl, hbx⟩
    have hq := hbx
    replace o1 : Own w23 (w2.heap.size) #[.int .i64 1, .int .i64 2, .int .i64 0, .int .i64 0, .int .i64 0, .int .i64 1, .int .i64 1, .int .i64 2] := Own.below (by repeat' (first | ((refine Own.new ?_); (focus (first | rfl | omega | (simp; done) | (simp; omega)))) | assumption | refine Own.alloc ?_ _ | refine Own.drew ?_ | (refine Own.far ?_ ?_ _; rotate_left; (focus (first | rfl | omega | (simp; done) | (simp; omega)))))) hbx
    replace o1c := o1.cell
    replace o1f := o1.thaw
    replace o1z := o1.lt
    replace o2 : Own w23 (o2b) #[.int .i64 1, .int .i64 2, .int .i64 0, .int .i64 0, .int .i64 1, .int .i64 1, .int .i64 1, .int .i64 2] := Own.below (by repeat' (first | ((refine Own.new ?_); (focus (first | rfl | omega | (simp; done) | (simp; omega)))) | assumption | refine Own.alloc ?_ _ | refine Own.drew ?_ | (refine Own.far ?_ ?_ _; rotate_left; (focus (first | rfl | omega | (simp; done) | (simp; omega)))))) hbx
    replace o2c := o2.cell
    replace o2f := o2.thaw
    replace o2z := o2.lt
    replace o3 : Own w23 (o3b) #[.int .i64 25, .int .i64 0, .int .i64 0, .int .i64 0, .int .i64 0, .int .i64 1, .int .i64 1, .int .i64 2] := Own.below (by repeat' (first | ((refine Own.new ?_); (focus (first | rfl | omega | (simp; done) | (simp; omega)))) | assumption | refine Own.alloc ?_ _ | refine Own.drew ?_ | (refine Own.far ?_ ?_ _; rotate_left; (focus (first | rfl | omega | (simp; done) | (simp; omega)))))) hbx
    replace o3c := o3.cell
    replace o3f := o3.thaw
    replace o3z := o3.lt
    replace hw : Below w.heap.size w w23 := Below.hop (by repeat' (first | exact Below.refl _ _ | assumption | (refine Below.alloc ?_ ?_ _; rotate_left; (focus (first | rfl | omega | (simp; done) | (simp; omega)))) | (refine Below.setCell ?_ ?_ _; rotate_left; (focus (first | rfl | omega | (simp; done) | (simp; omega)))) | refine Below.drew ?_)) hbx
    replace hz := hw.size
    clear hbx
    go_wp2_with fail
    replace hq := hq.trans (((Below.refl _ w23).alloc (Nat.le_refl _) (.cells (flatV [⟨0, 0, 1⟩]).toArray 24)).mono hq.size)
    have hra := HRB.out.below hq
    have hrb := reads_own (n := 1 * 3) (zs := fun i => (flatI [⟨0, 0, 1⟩]).getD i 0) (Own.new (w := w23) (T := 24) rfl) (cells_flat [⟨0, 0, 1⟩])
    clear hq HRB
    refine Calls.mono (ref25_SameVecs AB (some ⟨w23.heap.size, 0, none⟩) 1 capB 1 (fun i => (flatI [⟨0, 0, 1⟩]).getD i 0) _ (by omega) hra hrb) ?_
    rintro e w24 ⟨rfl, hbx⟩
    clear hra hrb
    replace o1 : Own w24 (w2.heap.size) #[.int .i64 1, .int .i64 2, .int .i64 0, .int .i64 0, .int .i64 0, .int .i64 1, .int .i64 1, .int .i64 2] := Own.below (by repeat' (first | ((refine Own.new ?_); (focus (first | rfl | omega | (simp; done) | (simp; omega)))) | assumption | refine Own.alloc ?_ _ | refine Own.drew ?_ | (refine Own.far ?_ ?_ _; rotate_left; (focus (first | rfl | omega | (simp; done) | (simp; omega)))))) hbx
    replace o1c := o1.cell
    replace o1f := o1.thaw
    replace o1z := o1.lt
    replace o2 : Own w24 (o2b) #[.int .i64 1, .int .i64 2, .int .i64 0, .int .i64 0, .int .i64 1, .int .i64 1, .int .i64 1, .int .i64 2] := Own.below (by repeat' (first | ((refine Own.new ?_); (focus (first | rfl | omega | (simp; done) | (simp; omega)))) | assumption | refine Own.alloc ?_ _ | refine Own.drew ?_ | (refine Own.far ?_ ?_ _; rotate_left; (focus (first | rfl | omega | (simp; done) | (simp; omega)))))) hbx
    replace o2c := o2.cell
    replace o2f := o2.thaw
    replace o2z := o2.lt
    replace o3 : Own w24 (o3b) #[.int .i64 25, .int .i64 0, .int .i64 0, .int .i64 0, .int .i64 0, .int .i64 1, .int .i64 1, .int .i64 2] := Own.below (by repeat' (first | ((refine Own.new ?_); (focus (first | rfl | omega | (simp; done) | (simp; omega)))) | assumption | refine Own.alloc ?_ _ | refine Own.drew ?_ | (refine Own.far ?_ ?_ _; rotate_left; (focus (first | rfl | omega | (simp; done) | (simp; omega)))))) hbx
    replace o3c := o3.cell
    replace o3f := o3.thaw
    replace o3z := o3.lt
    replace hw : Below w.heap.size w w24 := Below.hop (by repeat' (first | exact Below.refl _ _ | assumption | (refine Below.alloc ?_ ?_ _; rotate_left; (focus (first | rfl | omega | (simp; done) | (simp; omega)))) | (refine Below.setCell ?_ ?_ _; rotate_left; (focus (first | rfl | omega | (simp; done) | (simp; omega)))) | refine Below.drew ?_)) hbx
    replace hz := hw.size
    clear hbx
    go_wp2
    refine region_late 20 [] (by kernel_rfl) (by kernel_rfl) (by rfl) ?_
    apply Exists.intro
    refine ⟨fun v hv hne => ?_, fun u hu => ?_⟩
    · simp only [List.take_succ_cons, List.take_zero]
      have do1 := fun x => (o1.later (v := v) (T := []) (by first | (simp; done) | (simp; omega)) x).cell
      have do2 := fun x => (o2.later (v := v) (T := []) (by first | (simp; done) | (simp; omega)) x).cell
      have do3 := fun x => (o3.later (v := v) (T := []) (by first | (simp; done) | (simp; omega)) x).cell
      repeat (go_big_quiet_step ((first | (go_at_call 59; with_reducible exact lateB (callv (contact_Has 1 2 0 0 0 1 1 2 1 0 2 _) HK6.out)) | (go_at_call 59; with_reducible exact lateB (callv (contact_Has 1 2 0 0 0 1 1 2 1 1 2 _) HK7.out)) | (go_at_call 59; with_reducible exact lateB (callv (contact_Has 1 2 0 0 0 1 1 2 1 (-1) 4 _) HK8.out)) | (go_at_call 59; with_reducible exact lateB (callv (contact_Has 1 2 0 0 0 1 1 2 0 0 (-1) _) HK9.out)) | (go_at_call 58; with_reducible exact lateB (law25_vec _ _ _ _)))))
      refine wpQuiet_nil ?_
      exact rfl
    · simp only [List.drop_succ_cons, List.drop_zero]
      refine late_mem (fun K hK => ?_)
      go_simp
      refine hK _ _ (Keeps.of_below hu) (fun u2 hu2 => ?_)
      clear hK K
      replace o1 := (o1.below hu).below hu2
      replace o2 := (o2.below hu).below hu2
      replace o3 := (o3.below hu).below hu2
      replace hw := Below.hop (Below.hop hw hu) hu2
      replace hz := hw.size
      clear hu hu2
      refine late_nil ?_
      (try simp only [Act.put, List.setIfInBounds_toArray, List.set_cons_zero, List.set_cons_succ])
      have o1c := o1.cell
      have o1f := o1.thaw
      have o1z := o1.lt
      have o2c := o2.cell
      have o2f := o2.thaw
      have o2z := o2.lt
      have o3c := o3.cell
      have o3f := o3.thaw
      have o3z := o3.lt
      go_wp2_with fail
      refine Calls.mono (law25_with 1 2 0 0 0 1 1 2 0 1 _) ?_
      rintro e w25 ⟨rfl, hbx⟩
      replace o1 : Own w25 (w2.heap.size) #[.int .i64 1, .int .i64 2, .int .i64 0, .int .i64 0, .int .i64 0, .int .i64 1, .int .i64 1, .int .i64 2] := Own.below (by repeat' (first | ((refine Own.new ?_); (focus (first | rfl | omega | (simp; done) | (simp; omega)))) | assumption | refine Own.alloc ?_ _ | refine Own.drew ?_ | (refine Own.far ?_ ?_ _; rotate_left; (focus (first | rfl | omega | (simp; done) | (simp; omega)))))) hbx
      replace o1c := o1.cell
      replace o1f := o1.thaw
      replace o1z := o1.lt
      replace o2 : Own w25 (o2b) #[.int .i64 1, .int .i64 2, .int .i64 0, .int .i64 0, .int .i64 1, .int .i64 1, .int .i64 1, .int .i64 2] := Own.below (by repeat' (first | ((refine Own.new ?_); (focus (first | rfl | omega | (simp; done) | (simp; omega)))) | assumption | refine Own.alloc ?_ _ | refine Own.drew ?_ | (refine Own.far ?_ ?_ _; rotate_left; (focus (first | rfl | omega | (simp; done) | (simp; omega)))))) hbx
      replace o2c := o2.cell
      replace o2f := o2.thaw
      replace o2z := o2.lt
      replace o3 : Own w25 (o3b) #[.int .i64 25, .int .i64 0, .int .i64 0, .int .i64 0, .int .i64 0, .int .i64 1, .int .i64 1, .int .i64 2] := Own.below (by repeat' (first | ((refine Own.new ?_); (focus (first | rfl | omega | (simp; done) | (simp; omega)))) | assumption | refine Own.alloc ?_ _ | refine Own.drew ?_ | (refine Own.far ?_ ?_ _; rotate_left; (focus (first | rfl | omega | (simp; done) | (simp; omega)))))) hbx
      replace o3c := o3.cell
      replace o3f := o3.thaw
      replace o3z := o3.lt
      replace hw : Below w.heap.size w w25 := Below.hop (by repeat' (first | exact Below.refl _ _ | assumption | (refine Below.alloc ?_ ?_ _; rotate_left; (focus (first | rfl | omega | (simp; done) | (simp; omega)))) | (refine Below.setCell ?_ ?_ _; rotate_left; (focus (first | rfl | omega | (simp; done) | (simp; omega)))) | refine Below.drew ?_)) hbx
      replace hz := hw.size
      clear hbx
      have q7 := hz
      go_wp2_with fail
      have o7 : Own ((w25.alloc (.cells #[.int .i64 1, .int .i64 2, .int .i64 0, .int .i64 0, .int .i64 0, .int .i64 1, .int .i64 0, .int .i64 1] 66))) (w25.heap.size) #[.int .i64 1, .int .i64 2, .int .i64 0, .int .i64 0, .int .i64 0, .int .i64 1, .int .i64 0, .int .i64 1] := Own.new rfl
      replace o1 : Own ((w25.alloc (.cells #[.int .i64 1, .int .i64 2, .int .i64 0, .int .i64 0, .int .i64 0, .int .i64 1, .int .i64 0, .int .i64 1] 66))) (w2.heap.size) #[.int .i64 1, .int .i64 2, .int .i64 0, .int .i64 0, .int .i64 0, .int .i64 1, .int .i64 1, .int .i64 2] := (by repeat' (first | ((refine Own.new ?_); (focus (first | rfl | omega | (simp; done) | (simp; omega)))) | assumption | refine Own.alloc ?_ _ | refine Own.drew ?_ | (refine Own.far ?_ ?_ _; rotate_left; (focus (first | rfl | omega | (simp; done) | (simp; omega))))))
      clear o1c o1f o1z
      replace o2 : Own ((w25.alloc (.cells #[.int .i64 1, .int .i64 2, .int .i64 0, .int .i64 0, .int .i64 0, .int .i64 1, .int .i64 0, .int .i64 1] 66))) (o2b) #[.int .i64 1, .int .i64 2, .int .i64 0, .int .i64 0, .int .i64 1, .int .i64 1, .int .i64 1, .int .i64 2] := (by repeat' (first | ((refine Own.new ?_); (focus (first | rfl | omega | (simp; done) | (simp; omega)))) | assumption | refine Own.alloc ?_ _ | refine Own.drew ?_ | (refine Own.far ?_ ?_ _; rotate_left; (focus (first | rfl | omega | (simp; done) | (simp; omega))))))
      clear o2c o2f o2z
      replace o3 : Own ((w25.alloc (.cells #[.int .i64 1, .int .i64 2, .int .i64 0, .int .i64 0, .int .i64 0, .int .i64 1, .int .i64 0, .int .i64 1] 66))) (o3b) #[.int .i64 25, .int .i64 0, .int .i64 0, .int .i64 0, .int .i64 0, .int .i64 1, .int .i64 1, .int .i64 2] := (by repeat' (first | ((refine Own.new ?_); (focus (first | rfl | omega | (simp; done) | (simp; omega)))) | assumption | refine Own.alloc ?_ _ | refine Own.drew ?_ | (refine Own.far ?_ ?_ _; rotate_left; (focus (first | rfl | omega | (simp; done) | (simp; omega))))))
      clear o3c o3f o3z
      replace hw : Below w.heap.size w ((w25.alloc (.cells #[.int .i64 1, .int .i64 2, .int .i64 0, .int .i64 0, .int .i64 0, .int .i64 1, .int .i64 0, .int .i64 1] 66))) := (by repeat' (first | exact Below.refl _ _ | assumption | (refine Below.alloc ?_ ?_ _; rotate_left; (focus (first | rfl | omega | (simp; done) | (simp; omega)))) | (refine Below.setCell ?_ ?_ _; rotate_left; (focus (first | rfl | omega | (simp; done) | (simp; omega)))) | refine Below.drew ?_))
      generalize (w25.alloc (.cells #[.int .i64 1, .int .i64 2, .int .i64 0, .int .i64 0, .int .i64 0, .int .i64 1, .int .i64 0, .int .i64 1] 66)) = z1 at *
      have o1c := o1.cell
      have o1f := o1.thaw
      have o1z := o1.lt
      have o2c := o2.cell
      have o2f := o2.thaw
      have o2z := o2.lt
      have o3c := o3.cell
      have o3f := o3.thaw
      have o3z := o3.lt
      have o7c := o7.cell
      have o7f := o7.thaw
      have o7z := o7.lt
      replace hz := hw.size
      skip
      clear o1c o1f o1z o1 o2c o2f o2z o2 o3c o3f o3z o3
      refine Calls.mono (law25_vec 0 0 (-1) _) ?_
      rintro e z2 ⟨rfl, hbx⟩
      replace o7 : Own z2 (w25.heap.size) #[.int .i64 1, .int .i64 2, .int .i64 0, .int .i64 0, .int .i64 0, .int .i64 1, .int .i64 0, .int .i64 1] := Own.below (by repeat' (first | ((refine Own.new ?_); (focus (first | rfl | omega | (simp; done) | (simp; omega)))) | assumption | refine Own.alloc ?_ _ | refine Own.drew ?_ | (refine Own.far ?_ ?_ _; rotate_left; (focus (first | rfl | omega | (simp; done) | (simp; omega)))))) hbx
      replace o7c := o7.cell
      replace o7f := o7.thaw
      replace o7z := o7.lt
      replace hw : Below w.heap.size w z2 := Below.hop (by repeat' (first | exact Below.refl _ _ | assumption | (refine Below.alloc ?_ ?_ _; rotate_left; (focus (first | rfl | omega | (simp; done) | (simp; omega)))) | (refine Below.setCell ?_ ?_ _; rotate_left; (focus (first | rfl | omega | (simp; done) | (simp; omega)))) | refine Below.drew ?_)) hbx
      replace hz := hw.size
      clear hbx
      go_wp2
      have to7 : Own (((((((z2).setCell ⟨w25.heap.size, 3, none⟩ (.int .i64 0))).setCell ⟨w25.heap.size, 4, none⟩ (.int .i64 0))).setCell ⟨w25.heap.size, 5, none⟩ (.int .i64 (-1)))) (w25.heap.size) #[.int .i64 1, .int .i64 2, .int .i64 0, .int .i64 0, .int .i64 0, .int .i64 (-1), .int .i64 0, .int .i64 1] := (((o7.set 3 _).set 4 _).set 5 _)
      clear o7c o7f o7z o7
      replace hw : Below w.heap.size w (((((((z2).setCell ⟨w25.heap.size, 3, none⟩ (.int .i64 0))).setCell ⟨w25.heap.size, 4, none⟩ (.int .i64 0))).setCell ⟨w25.heap.size, 5, none⟩ (.int .i64 (-1)))) := ((hw.setCell (by simp; omega) _).setCell (by simp; omega) _).setCell (by simp; omega) _
      have o7 := to7
      clear to7
      generalize ((((((z2).setCell ⟨w25.heap.size, 3, none⟩ (.int .i64 0))).setCell ⟨w25.heap.size, 4, none⟩ (.int .i64 0))).setCell ⟨w25.heap.size, 5, none⟩ (.int .i64 (-1))) = z3 at *
      have o7c := o7.cell
      have o7f := o7.thaw
      have o7z := o7.lt
      replace hz := hw.size
      refine region_gen (T := []) [.make 21 [] (ownB [] #[.int .i64 0, .int .i64 0, .int .i64 3, .int .i64 6, .int .i64 (-3), .int .i64 0] (fun p => .slice (some ⟨p, 0, none⟩) 6 6)), .make 22 [] (ownB [] #[.int .i64 0, .int .i64 0, .int .i64 3, .int .i64 6, .int .i64 (-3), .int .i64 0] (fun p => .slice (some ⟨p, 0, none⟩) 6 6))] 23 0 30 (fun _ _ => True) (fun _ _ _ _ _ => trivial) trivial (by kernel_rfl) (by kernel_rfl) (by rfl) ?_
      unfold genWalk
      apply Exists.intro
      apply And.intro
      · apply Piece.mk
        · intro f v hv hr hne
          simp only [List.take_succ_cons, List.take_zero, List.drop_zero, Nat.reduceSub]
          have d7 := fun x => (o7.later (v := v) (T := []) (by simp) x).cell
          repeat (go_big_quiet_step ((first | (go_at_call 58; with_reducible exact lateB (law25_vec _ _ _ _)) | (go_at_call 59; with_reducible exact lateB (callv (contact_Has 1 2 0 0 0 (-1) 0 1 0 0 (-3) _) HK10.out)) | (go_at_call 59; with_reducible exact lateB (callv (contact_Has 1 2 0 0 0 (-1) 0 1 0 0 3 _) HK11.out)))))
          refine wpQuiet_nil ?_
          exact rfl
        · intro f; kernel_rfl
        · intro f f' hf; kernel_rfl
      simp only [List.take_succ_cons, List.take_zero, List.drop_succ_cons, List.drop_zero, Nat.reduceAdd, oneOp]
      refine ⟨fun f => ⟨rfl, fun u hu _ => ?_⟩, ?_⟩
      · refine make_call (f := 62) (args := #[vV 1 2 0, vV 0 0 3]) (by (try simp only [Act.put, List.setIfInBounds_toArray, List.set_cons_zero, List.set_cons_succ]); (try simp only [ownB_val]); go_simp) ?_
        refine (contact_Wrench 1 2 0 0 0 3 _).mono ?_
        rintro e wx ⟨g, rfl, hg1, hbx, hgo⟩
        exact ⟨(g, 0), rfl, hg1, hgo.lt, hbx, by simp, by rw [HM.out] at hgo; exact hgo⟩
      unfold genWalk
      apply Exists.intro
      apply And.intro
      · apply Piece.mk
        · intro f v hv hr hne
          simp only [List.take_zero, List.drop_succ_cons, List.drop_zero, Nat.reduceSub]
          (try simp only [Act.put, List.setIfInBounds_toArray, List.set_cons_zero, List.set_cons_succ])
          (try simp only [ownB_val])
          refine wpQuiet_nil ?_
          exact rfl
        · intro f; kernel_rfl
        · intro f f' hf; simp
      simp only [List.take_succ_cons, List.take_zero, List.drop_succ_cons, List.drop_zero, Nat.reduceAdd, oneOp]
      refine ⟨fun f => ⟨rfl, fun u hu _ => ?_⟩, ?_⟩
      · exact make_own (e := 3) (by (try simp only [Act.put, List.setIfInBounds_toArray, List.set_cons_zero, List.set_cons_succ]); (try simp only [ownB_val]); go_simp) (by simp)
      unfold genWalk
      apply Exists.intro
      apply And.intro
      · apply Piece.mk
        · intro f v hv hr hne
          simp only [List.take_zero, List.drop_succ_cons, List.drop_zero, Nat.reduceSub]
          (try simp only [Act.put, List.setIfInBounds_toArray, List.set_cons_zero, List.set_cons_succ])
          (try simp only [ownB_val])
          refine wpQuiet_nil ?_
          exact rfl
        · intro f; kernel_rfl
        · intro f f' hf; simp
      intro f u' hup hp hmade hdist
      obtain ⟨⟨hT1, h21⟩, hlo1, hhi1⟩ := hmade 21 (by omega) rfl
      obtain ⟨⟨hT2, h22⟩, hlo2, hhi2⟩ := hmade 22 (by omega) rfl
      simp only
      (try simp only [Act.put, List.setIfInBounds_toArray, List.set_cons_zero, List.set_cons_succ])
      (try simp only [ownB_val])
      have hra := reads_own (n := 6) (zs := fun i => ([0, 0, 3, 6, -3, 0] : List Int).getD i 0) (show Own u' (f 21).1 (([0, 0, 3, 6, -3, 0] : List Int).map (Value.int .i64)).toArray from h21) (cells_ints [0, 0, 3, 6, -3, 0])
      have hrb := reads_own (n := 6) (zs := fun i => ([0, 0, 3, 6, -3, 0] : List Int).getD i 0) (show Own u' (f 22).1 (([0, 0, 3, 6, -3, 0] : List Int).map (Value.int .i64)).toArray from h22) (cells_ints [0, 0, 3, 6, -3, 0])
      replace hw : Below w.heap.size w u' := Upd.below hw hup (by simp)
      clear hmade hdist h21 h22 hT1 hT2 hp
      refine effc_mem (by rfl) (fun K hK => ?_)
      go_simp
      refine (ref4_SameInts (some ⟨(f 21).1, 0, none⟩) (some ⟨(f 22).1, 0, none⟩) 6 6 6 (fun i => ([0, 0, 3, 6, -3, 0] : List Int).getD i 0) _ (by omega) hra hrb).mono ?_
      rintro e wx ⟨rfl, hbx⟩
      refine ⟨_, rfl, hK _ _ ((Upd.keeps (Keeps.refl _ _) hup).later hbx) (fun u2 hu2 => ?_)⟩
      clear hK K hra hrb
      replace hw := Below.hop (Below.hop hw hbx) hu2
      have hk := ((Upd.keeps (Keeps.refl _ _) hup).later hbx).later hu2
      clear hup hbx hu2
      refine effc_mem (by rfl) (fun K hK => ?_)
      go_simp
      refine hK _ _ hk (fun u3 hu => ?_)
      clear hK K
      replace hw := Below.hop hw hu
      replace hk := hk.later hu
      clear hu
      refine effc_mem (by rfl) (fun K hK => ?_)
      go_simp
      refine hK _ _ hk (fun u4 hu => ?_)
      clear hK K
      replace hw := Below.hop hw hu
      replace hk := hk.later hu
      clear hu
      refine effc_nil ?_
      (try simp only [Act.put, List.setIfInBounds_toArray, List.set_cons_zero, List.set_cons_succ])
      go_wp2
      go_ret
      exact ⟨rfl, hw⟩

end Go.Proofs.Ythijnggeoinlfaa
