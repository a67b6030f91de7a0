/- The law PlaneVectors returns true. The components are int64, and the slice reads as int64 numbers. -/
import Derived.Test.YthijnggeoinlfaaSan7
import Derived.Test.YthijnggeoinlfaaPlaneC
import Derived.Test.YthijnggeoinlfaaDraw3
import Derived.Test.YthijnggeoinlfaaMem
import Derived.Test.YthijnggeoinlfaaTriples
namespace Go.Proofs.Ythijnggeoinlfaa
open Go.RowKit

theorem ints_cell (L : List Int) (h : ∀ m ∈ L, I64 m) (i : Nat) (hi : i < L.length) : ∃ m, (L.map (Value.int .i64)).toArray[i]? = some (.int .i64 m) ∧ I64 m :=
  ⟨L[i], by simp [hi], h _ (List.getElem_mem hi)⟩
theorem tmod50 (x : Int) : I64 (x.tmod 50) := by
  have h1 := Int.tmod_lt_of_pos x (b := 50) (by omega)
  have h2 := Int.lt_tmod_of_pos x (b := 50) (by omega)
  unfold I64; omega

set_option maxRecDepth 100000 in
set_option maxHeartbeats 4000000 in
theorem law7_Vectors_walk (a0 a1 a2 b0 b1 b2 : Int) (A : Option Addr) (n cap : Nat) (l : List Int) (hA : I64 a0 ∧ I64 a1 ∧ I64 a2) (hB : I64 b0 ∧ I64 b1 ∧ I64 b2) (w : World) (hl : SliceI w A n l) (hcap : n ≤ cap) (hcap2 : cap ≤ 9223372036854775807) :
    Calls Try.prog 5 #[vV a0 a1 a2, vV b0 b1 b2, .slice A n cap] w fun r w' => r = .returned (.bool true) ∧ Below w.heap.size w w' := by
  have hl2 := hl.cutTo 8
  have HL := Lib.hid hl2
  clear hl hl2
  have hn0 : 0 ≤ (n : Int) := by omega
  have hn1 : (n : Int) ≤ (cap : Int) := by omega
  have hn2 : (cap : Int) ≤ 9223372036854775807 := by omega
  have HA := Lib.hid hA
  have HB := Lib.hid hB
  clear hA hB
  go_enter Try.func5, Try.ntmps5
  go_wp2_with fail
  refine Calls.mono (law7_sanity _) ?_
  rintro e w1 ⟨rfl, hbx⟩
  have oa : Own w1 (w.heap.size) #[.int .i64 a0, .int .i64 a1, .int .i64 a2] := Own.below (by repeat' (first | ((refine Own.new ?_); (focus (first | rfl | omega | (simp; done) | (simp; omega)))) | assumption | refine Own.alloc ?_ _ | refine Own.drew ?_ | (refine Own.far ?_ ?_ _; rotate_left; (focus (first | rfl | omega | (simp; done) | (simp; omega)))))) hbx
  have oac := oa.cell
  have oaf := oa.thaw
  have oaz := oa.lt
  have ob : Own w1 (w.heap.size + 1) #[.int .i64 b0, .int .i64 b1, .int .i64 b2] := Own.below (by repeat' (first | ((refine Own.new ?_); (focus (first | rfl | omega | (simp; done) | (simp; omega)))) | assumption | refine Own.alloc ?_ _ | refine Own.drew ?_ | (refine Own.far ?_ ?_ _; rotate_left; (focus (first | rfl | omega | (simp; done) | (simp; omega)))))) hbx
  have obc := ob.cell
  have obf := ob.thaw
  have obz := ob.lt
  have hw : Below w.heap.size w w1 := Below.hop (by repeat' (first | exact Below.refl _ _ | assumption | (refine Below.alloc ?_ ?_ _; rotate_left; (focus (first | rfl | omega | (simp; done) | (simp; omega)))) | (refine Below.setCell ?_ ?_ _; rotate_left; (focus (first | rfl | omega | (simp; done) | (simp; omega)))) | refine Below.drew ?_)) hbx
  have hz := hw.size
  clear hbx
  go_wp2_with fail
  all_goals
    have hl3 := HL.out.below hw
    first
      | rw [show min n 8 = 8 by omega] at hl3
      | rw [show min n 8 = n by omega] at hl3
    refine Calls.mono (ref7_PointsOwn A _ cap _ 2 (by omega) (by omega) _ hl3) ?_
    rintro e w2 ⟨g, c, cs, rfl, hbx, hg0, hc4, hcM, og, hq⟩
    replace oa : Own w2 (w.heap.size) #[.int .i64 a0, .int .i64 a1, .int .i64 a2] := Own.below (by repeat' (first | ((refine Own.new ?_); (focus (first | rfl | omega | (simp; done) | (simp; omega)))) | assumption | refine Own.alloc ?_ _ | refine Own.drew ?_ | (refine Own.far ?_ ?_ _; rotate_left; (focus (first | rfl | omega | (simp; done) | (simp; omega)))))) hbx
    replace oac := oa.cell
    replace oaf := oa.thaw
    replace oaz := oa.lt
    replace ob : Own w2 (w.heap.size + 1) #[.int .i64 b0, .int .i64 b1, .int .i64 b2] := Own.below (by repeat' (first | ((refine Own.new ?_); (focus (first | rfl | omega | (simp; done) | (simp; omega)))) | assumption | refine Own.alloc ?_ _ | refine Own.drew ?_ | (refine Own.far ?_ ?_ _; rotate_left; (focus (first | rfl | omega | (simp; done) | (simp; omega)))))) hbx
    replace obc := ob.cell
    replace obf := ob.thaw
    replace obz := ob.lt
    replace hw : Below w.heap.size w w2 := Below.hop (by repeat' (first | exact Below.refl _ _ | assumption | (refine Below.alloc ?_ ?_ _; rotate_left; (focus (first | rfl | omega | (simp; done) | (simp; omega)))) | (refine Below.setCell ?_ ?_ _; rotate_left; (focus (first | rfl | omega | (simp; done) | (simp; omega)))) | refine Below.drew ?_)) hbx
    replace hz := hw.size
    clear hbx
    have q0 := ptCells_at (l.take 8) 2 0 (by omega)
    have e0 := ptAt_bd (l.take 8) 0
    generalize ptAt (l.take 8) 0 = p0 at q0 e0
    have q0x : cs[0]? = some (.int .i64 p0.x) := (hq 0 (by omega)).trans q0.1
    have q0y : cs[1]? = some (.int .i64 p0.y) := (hq 1 (by omega)).trans q0.2.1
    have q0z : cs[2]? = some (.int .i64 p0.z) := (hq 2 (by omega)).trans q0.2.2
    clear q0
    have E0 := Lib.hid e0
    clear e0
    have q1 := ptCells_at (l.take 8) 2 1 (by omega)
    have e1 := ptAt_bd (l.take 8) 1
    generalize ptAt (l.take 8) 1 = p1 at q1 e1
    have q1x : cs[3]? = some (.int .i64 p1.x) := (hq 3 (by omega)).trans q1.1
    have q1y : cs[4]? = some (.int .i64 p1.y) := (hq 4 (by omega)).trans q1.2.1
    have q1z : cs[5]? = some (.int .i64 p1.z) := (hq 5 (by omega)).trans q1.2.2
    clear q1
    have E1 := Lib.hid e1
    clear e1
    clear hq hl3
    have ogc := og.cell
    have ogf := og.thaw
    have ogz := og.lt
    go_wp2
    refine region_mid 36 2 [] (by kernel_rfl) (by kernel_rfl) (by rfl) ?_
    apply Exists.intro
    refine ⟨fun v hv hne => ?_, fun us hu => ?_⟩
    · simp only [List.take_succ_cons, List.take_zero, List.drop_succ_cons, List.drop_zero, Nat.reduceAdd, List.cons_append, List.nil_append]
      have doa := fun x => (oa.later (v := v) (T := []) (by first | (simp; done) | (simp; omega)) x).cell
      have dob := fun x => (ob.later (v := v) (T := []) (by first | (simp; done) | (simp; omega)) x).cell
      have dog := fun x => (og.later (v := v) (T := []) (by first | (simp; done) | (simp; omega)) x).cell
      repeat (go_big_quiet_step ((first | (go_at_call 22; with_reducible exact lateB (law7_vec _ _ _ _)))))
      refine wpQuiet_nil ?_
      exact rfl
    · simp only [List.drop_succ_cons, List.drop_zero]
      refine late_mem (fun K hK => ?_)
      go_simp
      refine hK _ _ ((Keeps.of_below hu).alloc _) (fun us2 hu2 => ?_)
      clear hK K
      have hk : Keeps [] w2 us2 := ((Keeps.of_below (T := []) hu).alloc _).later hu2
      have os : Own us2 us.heap.size #[.int .i64 a0, .int .i64 a1, .int .i64 a2, .int .i64 b0, .int .i64 b1, .int .i64 b2, .int .i64 (a0.tmod 50), .int .i64 (a1.tmod 50), .int .i64 (a2.tmod 50), .int .i64 (b0.tmod 50), .int .i64 (b1.tmod 50), .int .i64 (b2.tmod 50), .int .i64 p0.x, .int .i64 p0.y, .int .i64 p0.z, .int .i64 p1.x, .int .i64 p1.y, .int .i64 p1.z, .int .i64 p0.x, .int .i64 p0.y, .int .i64 p0.z, .int .i64 b0, .int .i64 b1, .int .i64 b2] := Own.below (Own.new rfl) hu2
      have osg : w2.heap.size ≤ us.heap.size := hu.size
      replace hw := Below.hop ((Below.hop hw hu).alloc (by have := hw.size; have := hu.size; omega) _) hu2
      have osy : w.heap.size ≤ us.heap.size := by omega
      clear hu hu2
      refine late_mem (fun K hK => ?_)
      go_simp
      refine hK _ _ hk (fun us3 hu3 => ?_)
      clear hK K
      replace os := os.below hu3
      replace hw := Below.hop hw hu3
      replace hk := hk.later hu3
      clear hu3
      replace oa : Own us3 (w.heap.size) #[.int .i64 a0, .int .i64 a1, .int .i64 a2] := oa.keeps hk (by simp)
      replace ob : Own us3 (w.heap.size + 1) #[.int .i64 b0, .int .i64 b1, .int .i64 b2] := ob.keeps hk (by simp)
      replace og : Own us3 (g) cs := og.keeps hk (by simp)
      refine late_nil ?_
      (try simp only [Act.put, List.setIfInBounds_toArray, List.set_cons_zero, List.set_cons_succ])
      clear hk
      generalize us.heap.size = osb at *
      replace hz := hw.size
      replace oac := oa.cell
      replace oaf := oa.thaw
      replace oaz := oa.lt
      replace obc := ob.cell
      replace obf := ob.thaw
      replace obz := ob.lt
      replace ogc := og.cell
      replace ogf := og.thaw
      replace ogz := og.lt
      replace osc := os.cell
      replace osf := os.thaw
      replace osz := os.lt
      have hall : ∀ m ∈ [a0, a1, a2, b0, b1, b2, (a0.tmod 50), (a1.tmod 50), (a2.tmod 50), (b0.tmod 50), (b1.tmod 50), (b2.tmod 50), p0.x, p0.y, p0.z, p1.x, p1.y, p1.z, p0.x, p0.y, p0.z, b0, b1, b2], I64 m := by
        simp only [List.mem_cons, List.not_mem_nil, or_false, forall_eq_or_imp, forall_eq]
        exact ⟨HA.out.1, HA.out.2.1, HA.out.2.2, HB.out.1, HB.out.2.1, HB.out.2.2, tmod50 _, tmod50 _, tmod50 _, tmod50 _, tmod50 _, tmod50 _, ⟨by have := E0.out; omega, by have := E0.out; omega⟩, ⟨by have := E0.out; omega, by have := E0.out; omega⟩, ⟨by have := E0.out; omega, by have := E0.out; omega⟩, ⟨by have := E1.out; omega, by have := E1.out; omega⟩, ⟨by have := E1.out; omega, by have := E1.out; omega⟩, ⟨by have := E1.out; omega, by have := E1.out; omega⟩, ⟨by have := E0.out; omega, by have := E0.out; omega⟩, ⟨by have := E0.out; omega, by have := E0.out; omega⟩, ⟨by have := E0.out; omega, by have := E0.out; omega⟩, HB.out.1, HB.out.2.1, HB.out.2.2⟩
      obtain ⟨ck, hck, hci⟩ : ∃ ck : Array Value, Own us3 osb ck ∧ ∀ i, i < 24 → ∃ m, ck[i]? = some (.int .i64 m) ∧ I64 m := ⟨_, os, fun i hi => ints_cell _ hall i hi⟩
      clear hall
      have HCI := Lib.hid hci
      clear hci
      clear oac oaf oaz oa obc obf obz ob ogc ogf ogz og osc osf osz os
      have os := hck
      clear hck
      have osc := os.cell
      have osf := os.thaw
      have osz := os.lt
      go_wp2
      go_loopw [10, 11, 12, 13, 14, 60] (fun _ _ _ _ _ i wr => ∃ k : Nat, k ≤ 4 ∧ i = .int .i64 k ∧ Below w.heap.size w wr ∧ Own wr (osb) ck) (fun _ _ _ _ _ i _ => 4 - (intOf i).toNat)
      case atStart => exact ⟨0, by omega, rfl, hw, os⟩
      case round =>
        clear hw hz os osc osf osz
        obtain ⟨k, hk, rfl, hw, os⟩ := hrel
        have hz := hw.size
        have osc := os.cell
        have osf := os.thaw
        have osz := os.lt
        by_cases hlt : k < 4
        · have hlt2 : (k : Int) < 4 := by omega
          obtain ⟨n0, q0, i0⟩ := HCI.out (k * 6) (by omega)
          have I0 := Lib.hid i0
          clear i0
          obtain ⟨n1, q1, i1⟩ := HCI.out (k * 6 + 1) (by omega)
          have I1 := Lib.hid i1
          clear i1
          obtain ⟨n2, q2, i2⟩ := HCI.out (k * 6 + 2) (by omega)
          have I2 := Lib.hid i2
          clear i2
          obtain ⟨n3, q3, i3⟩ := HCI.out (k * 6 + 3) (by omega)
          have I3 := Lib.hid i3
          clear i3
          obtain ⟨n4, q4, i4⟩ := HCI.out (k * 6 + 4) (by omega)
          have I4 := Lib.hid i4
          clear i4
          obtain ⟨n5, q5, i5⟩ := HCI.out (k * 6 + 5) (by omega)
          have I5 := Lib.hid i5
          clear i5
          go_wp2
          have ox : Own (wr.alloc (.cells #[.int .i64 n0, .int .i64 n1, .int .i64 n2, .int .i64 n3, .int .i64 n4, .int .i64 n5] 42)) (wr.heap.size) #[.int .i64 n0, .int .i64 n1, .int .i64 n2, .int .i64 n3, .int .i64 n4, .int .i64 n5] := Own.new rfl
          replace os : Own (wr.alloc (.cells #[.int .i64 n0, .int .i64 n1, .int .i64 n2, .int .i64 n3, .int .i64 n4, .int .i64 n5] 42)) (osb) ck := (by repeat' (first | ((refine Own.new ?_); (focus (first | rfl | omega | (simp; done) | (simp; omega)))) | assumption | refine Own.alloc ?_ _ | refine Own.drew ?_ | (refine Own.far ?_ ?_ _; rotate_left; (focus (first | rfl | omega | (simp; done) | (simp; omega))))))
          clear osc osf osz
          replace hw : Below w.heap.size w (wr.alloc (.cells #[.int .i64 n0, .int .i64 n1, .int .i64 n2, .int .i64 n3, .int .i64 n4, .int .i64 n5] 42)) := (by repeat' (first | exact Below.refl _ _ | assumption | (refine Below.alloc ?_ ?_ _; rotate_left; (focus (first | rfl | omega | (simp; done) | (simp; omega)))) | (refine Below.setCell ?_ ?_ _; rotate_left; (focus (first | rfl | omega | (simp; done) | (simp; omega)))) | refine Below.drew ?_))
          generalize wr.alloc (.cells #[.int .i64 n0, .int .i64 n1, .int .i64 n2, .int .i64 n3, .int .i64 n4, .int .i64 n5] 42) = wq at *
          have osc := os.cell
          have osf := os.thaw
          have osz := os.lt
          have oxc := ox.cell
          have oxf := ox.thaw
          have oxz := ox.lt
          replace hz := hw.size
          refine region_mem 4 2 0 [] (by kernel_rfl) (by kernel_rfl) (by rfl) [(.cells #[.int .i64 0, .int .i64 0, .int .i64 0] 24, fun p => .pointer (some ⟨p, 0, none⟩)), (.cells #[.int .i64 0, .int .i64 0, .int .i64 0] 24, fun p => .pointer (some ⟨p, 0, none⟩))] ?_
          apply Exists.intro
          refine ⟨fun v hv hne => ?_, ⟨fun u => by go_simp, fun u => by go_simp, trivial⟩, fun u u1 hu hu1 => ?_⟩
          · simp only [List.take_succ_cons, List.take_zero, List.drop_succ_cons, List.drop_zero, Nat.reduceAdd, List.append_nil]
            have dos := fun x => (os.later (v := v) (T := []) (by first | (simp; done) | (simp; omega)) x).cell
            have dox := fun x => (ox.later (v := v) (T := []) (by first | (simp; done) | (simp; omega)) x).cell
            repeat (go_big_quiet_step (fail))
            refine wpQuiet_nil ?_
            exact rfl
          · simp only [List.take_succ_cons, List.take_zero, List.drop_succ_cons, List.drop_zero, Nat.reduceAdd, memK]
            intro oub ou1 ou2 ou3 ovb ov1 ov2 ov3
            have hk : Keeps [] wq u1 := Keeps.of_below (Below.hop hu hu1)
            replace hw := Below.hop (Below.hop hw hu) hu1
            have hwz := hw.size
            have huz := hu.size
            have ouy : w.heap.size ≤ oub := by have := w.heap.size; omega
            have oug : wq.heap.size ≤ oub := by omega
            have ou : Own u1 oub #[.int .i64 0, .int .i64 0, .int .i64 0] := ⟨_, ou3⟩
            have ouc := ou.cell
            have ouf := ou.thaw
            have ovy : w.heap.size ≤ ovb := by have := w.heap.size; omega
            have ovg : wq.heap.size ≤ ovb := by omega
            have ov : Own u1 ovb #[.int .i64 0, .int .i64 0, .int .i64 0] := ⟨_, ov3⟩
            have ovc := ov.cell
            have ovf := ov.thaw
            have novou : ovb ≠ oub := fun e => ov2 (by simp [e])
            have nouov : oub ≠ ovb := fun e => ov2 (by simp [e])
            clear ou2 ou3 ov2 ov3
            refine chain_mem (fun K hK => ?_)
            go_simp
            refine hK _ _ (((hk.new (by simp; omega) _).new (by simp; omega) _).new (by simp; omega) _) (fun u2 hun => ?_)
            clear hK K
            replace hk : Keeps [] wq u2 := (((hk.new (by simp; omega) _).new (by simp; omega) _).new (by simp; omega) _).later hun
            replace ou : Own u2 oub #[.int .i64 n0, .int .i64 n1, .int .i64 n2] := (((ou.set 0 _).set 1 _).set 2 _).below hun
            replace ov := (((ov.far (by simp; omega) _).far (by simp; omega) _).far (by simp; omega) _).below hun
            replace hw := Below.hop (((hw.setCell (by simp; omega) _).setCell (by simp; omega) _).setCell (by simp; omega) _) hun
            clear hun
            replace ouc := ou.cell
            replace ouf := ou.thaw
            replace ovc := ov.cell
            replace ovf := ov.thaw
            refine chain_mem (fun K hK => ?_)
            go_simp
            refine hK _ _ (((hk.new (by simp; omega) _).new (by simp; omega) _).new (by simp; omega) _) (fun u3 hun => ?_)
            clear hK K
            replace hk : Keeps [] wq u3 := (((hk.new (by simp; omega) _).new (by simp; omega) _).new (by simp; omega) _).later hun
            replace ov : Own u3 ovb #[.int .i64 n3, .int .i64 n4, .int .i64 n5] := (((ov.set 0 _).set 1 _).set 2 _).below hun
            replace ou := (((ou.far (by simp; omega) _).far (by simp; omega) _).far (by simp; omega) _).below hun
            replace hw := Below.hop (((hw.setCell (by simp; omega) _).setCell (by simp; omega) _).setCell (by simp; omega) _) hun
            clear hun
            replace ouc := ou.cell
            replace ouf := ou.thaw
            replace ovc := ov.cell
            replace ovf := ov.thaw
            replace os : Own u3 (osb) ck := os.keeps hk (by simp)
            replace ox : Own u3 (wr.heap.size) #[.int .i64 n0, .int .i64 n1, .int .i64 n2, .int .i64 n3, .int .i64 n4, .int .i64 n5] := ox.keeps hk (by simp)
            refine chain_nil ?_
            (try simp only [Act.put, List.setIfInBounds_toArray, List.set_cons_zero, List.set_cons_succ])
            clear hk hu hu1 hwz huz
            replace hz := hw.size
            replace osc := os.cell
            replace osf := os.thaw
            replace osz := os.lt
            replace oxc := ox.cell
            replace oxf := ox.thaw
            replace oxz := ox.lt
            replace ouc := ou.cell
            replace ouf := ou.thaw
            replace ouz := ou.lt
            replace ovc := ov.cell
            replace ovf := ov.thaw
            replace ovz := ov.lt
            clear oxc oxf oxz ox
            go_wp2
            refine region_late 50 [] (by kernel_rfl) (by kernel_rfl) (by rfl) ?_
            apply Exists.intro
            refine ⟨fun v hv hne => ?_, fun ue hu => ?_⟩
            · simp only [List.take_succ_cons, List.take_zero]
              have dos := fun x => (os.later (v := v) (T := []) (by first | (simp; done) | (simp; omega)) x).cell
              have dou := fun x => (ou.later (v := v) (T := []) (by first | (simp; done) | (simp; omega)) x).cell
              have dov := fun x => (ov.later (v := v) (T := []) (by first | (simp; done) | (simp; omega)) x).cell
              repeat (go_big_quiet_step ((first | (go_at_call 25; with_reducible exact lateB (plane_In n0 n1 n2 _)) | (go_at_call 26; with_reducible exact lateB (ref7_In n0 n1 n2 _)) | (go_at_call 27; with_reducible exact lateB (plane_Add n0 n1 n2 n3 n4 n5 _)) | (go_at_call 19; with_reducible exact lateB (ref7_Add n0 n1 n2 n3 n4 n5 _)) | (go_at_call 28; with_reducible exact lateB (plane_Sub n0 n1 n2 n3 n4 n5 _)) | (go_at_call 18; with_reducible exact lateB (ref7_Sub n0 n1 n2 n3 n4 n5 _)) | (go_at_call 29; with_reducible exact lateB (plane_Dot n0 n1 n2 n3 n4 n5 _)) | (go_at_call 30; with_reducible exact lateB (ref7_Dot n0 n1 n2 n3 n4 n5 _)) | (go_at_call 31; with_reducible exact lateB (plane_Cross n0 n1 n2 n3 n4 n5 _)) | (go_at_call 32; with_reducible exact lateB (ref7_Cross n0 n1 n2 n3 n4 n5 _)) | (go_at_call 33; with_reducible exact lateB (plane_Reach n0 n1 n2 n3 n4 n5 I0.out I1.out I2.out _)) | (go_at_call 34; with_reducible exact lateB (ref7_Reach n0 n1 n2 n3 n4 n5 _)))))
              refine wpQuiet_nil ?_
              exact rfl
            · simp only [List.drop_succ_cons, List.drop_zero]
              replace os := os.below hu
              replace ou := ou.below hu
              replace ov := ov.below hu
              replace hw := Below.hop hw hu
              replace hz := hw.size
              clear hu
              refine late_nil ?_
              (try simp only [Act.put, List.setIfInBounds_toArray, List.set_cons_zero, List.set_cons_succ])
              have osc := os.cell
              have osf := os.thaw
              have osz := os.lt
              have ouc := ou.cell
              have ouf := ou.thaw
              have ouz := ou.lt
              have ovc := ov.cell
              have ovf := ov.thaw
              have ovz := ov.lt
              obtain ⟨VP, hP⟩ : ∃ P, vPrim ⟨n0, n1, n2⟩ = P := ⟨_, rfl⟩
              obtain ⟨G, hG⟩ : ∃ G, vGcd ⟨n0, n1, n2⟩ = G := ⟨_, rfl⟩
              have HP := Lib.hid (show Value.tuple #[(vPrim ⟨n0, n1, n2⟩).v, .int .i64 (vGcd ⟨n0, n1, n2⟩)] = .tuple #[V3.v VP, .int .i64 G] by rw [hP, hG])
              have HQ := Lib.hid (show (veq (vPrim ⟨n0, n1, n2⟩) ⟨VP.x, VP.y, VP.z⟩ && vGcd ⟨n0, n1, n2⟩ == G) = true by rw [hP, hG]; simp [veq])
              clear hP hG
              go_wp2_with fail
              refine Calls.mono (callv (ref7_Prim n0 n1 n2 I0.out I1.out I2.out _) HP.out) ?_
              rintro e w4 ⟨rfl, hbx⟩
              replace os : Own w4 (osb) ck := Own.below (by repeat' (first | ((refine Own.new ?_); (focus (first | rfl | omega | (simp; done) | (simp; omega)))) | assumption | refine Own.alloc ?_ _ | refine Own.drew ?_ | (refine Own.far ?_ ?_ _; rotate_left; (focus (first | rfl | omega | (simp; done) | (simp; omega)))))) hbx
              replace osc := os.cell
              replace osf := os.thaw
              replace osz := os.lt
              replace ou : Own w4 (oub) #[.int .i64 n0, .int .i64 n1, .int .i64 n2] := Own.below (by repeat' (first | ((refine Own.new ?_); (focus (first | rfl | omega | (simp; done) | (simp; omega)))) | assumption | refine Own.alloc ?_ _ | refine Own.drew ?_ | (refine Own.far ?_ ?_ _; rotate_left; (focus (first | rfl | omega | (simp; done) | (simp; omega)))))) hbx
              replace ouc := ou.cell
              replace ouf := ou.thaw
              replace ouz := ou.lt
              replace ov : Own w4 (ovb) #[.int .i64 n3, .int .i64 n4, .int .i64 n5] := Own.below (by repeat' (first | ((refine Own.new ?_); (focus (first | rfl | omega | (simp; done) | (simp; omega)))) | assumption | refine Own.alloc ?_ _ | refine Own.drew ?_ | (refine Own.far ?_ ?_ _; rotate_left; (focus (first | rfl | omega | (simp; done) | (simp; omega)))))) hbx
              replace ovc := ov.cell
              replace ovf := ov.thaw
              replace ovz := ov.lt
              replace hw : Below w.heap.size w w4 := Below.hop (by repeat' (first | exact Below.refl _ _ | assumption | (refine Below.alloc ?_ ?_ _; rotate_left; (focus (first | rfl | omega | (simp; done) | (simp; omega)))) | (refine Below.setCell ?_ ?_ _; rotate_left; (focus (first | rfl | omega | (simp; done) | (simp; omega)))) | refine Below.drew ?_)) hbx
              replace hz := hw.size
              clear hbx
              go_wp2_with fail
              refine Calls.mono (callv (law7_prim n0 n1 n2 VP.x VP.y VP.z G I0.out I1.out I2.out _) (congrArg Value.bool HQ.out)) ?_
              rintro e w5 ⟨rfl, hbx⟩
              replace os : Own w5 (osb) ck := Own.below (by repeat' (first | ((refine Own.new ?_); (focus (first | rfl | omega | (simp; done) | (simp; omega)))) | assumption | refine Own.alloc ?_ _ | refine Own.drew ?_ | (refine Own.far ?_ ?_ _; rotate_left; (focus (first | rfl | omega | (simp; done) | (simp; omega)))))) hbx
              replace osc := os.cell
              replace osf := os.thaw
              replace osz := os.lt
              replace ou : Own w5 (oub) #[.int .i64 n0, .int .i64 n1, .int .i64 n2] := Own.below (by repeat' (first | ((refine Own.new ?_); (focus (first | rfl | omega | (simp; done) | (simp; omega)))) | assumption | refine Own.alloc ?_ _ | refine Own.drew ?_ | (refine Own.far ?_ ?_ _; rotate_left; (focus (first | rfl | omega | (simp; done) | (simp; omega)))))) hbx
              replace ouc := ou.cell
              replace ouf := ou.thaw
              replace ouz := ou.lt
              replace ov : Own w5 (ovb) #[.int .i64 n3, .int .i64 n4, .int .i64 n5] := Own.below (by repeat' (first | ((refine Own.new ?_); (focus (first | rfl | omega | (simp; done) | (simp; omega)))) | assumption | refine Own.alloc ?_ _ | refine Own.drew ?_ | (refine Own.far ?_ ?_ _; rotate_left; (focus (first | rfl | omega | (simp; done) | (simp; omega)))))) hbx
              replace ovc := ov.cell
              replace ovf := ov.thaw
              replace ovz := ov.lt
              replace hw : Below w.heap.size w w5 := Below.hop (by repeat' (first | exact Below.refl _ _ | assumption | (refine Below.alloc ?_ ?_ _; rotate_left; (focus (first | rfl | omega | (simp; done) | (simp; omega)))) | (refine Below.setCell ?_ ?_ _; rotate_left; (focus (first | rfl | omega | (simp; done) | (simp; omega)))) | refine Below.drew ?_)) hbx
              replace hz := hw.size
              clear hbx
              go_wp2
              go_roundw
              case rel => exact ⟨k + 1, by omega, by go_num, hw, os⟩
              case measure => simp [intOf]; omega
        · obtain rfl : k = 4 := by omega
          go_wp2
          go_ret
          exact ⟨rfl, hw⟩
end Go.Proofs.Ythijnggeoinlfaa
