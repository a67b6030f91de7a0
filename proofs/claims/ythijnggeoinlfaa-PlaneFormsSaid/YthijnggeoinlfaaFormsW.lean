/- The law PlaneForms returns true. The numbers are int64, and the slice reads as int64 numbers. -/
import Derived.Test.YthijnggeoinlfaaSan7
import Derived.Test.YthijnggeoinlfaaMade
import Derived.Test.YthijnggeoinlfaaOdd
import Derived.Test.YthijnggeoinlfaaPlaneX
import Derived.Test.YthijnggeoinlfaaPlaneZ
import Derived.Test.YthijnggeoinlfaaPlaneW
namespace Go.Proofs.Ythijnggeoinlfaa
open Go.RowKit

theorem rowAny (L : List Int) (i : Nat) (hi : i < L.length) : ∃ m, (L.map (Value.int .i64)).toArray[i]? = some (.int .i64 m) :=
  ⟨L[i], by simp [hi]⟩

set_option maxRecDepth 100000 in
set_option maxHeartbeats 4000000 in
theorem law7_Forms_walk (A : Option Addr) (n cap : Nat) (l : List Int) (r0 r1 r2 r3 v0 v1 v2 q0 q1 q2 by_ : Int) (hr : Pl.Ok ⟨⟨r0, r1, r2⟩, r3⟩) (hq : I64 q1) (hmo : Pl.Ok (madeV (l.take 12))) (w : World) (hl : SliceI w A n l) (hcap : n ≤ cap) (hcap2 : cap ≤ 9223372036854775807) :
    Calls Try.prog 6 #[.slice A n cap, vP r0 r1 r2 r3, vV v0 v1 v2, .agg #[.int .i64 q0, .int .i64 q1, .int .i64 q2], .int .i64 by_] w fun r w' => r = .returned (.bool true) ∧ Below w.heap.size w w' := by
  have hl2 := hl.cutTo 12
  have HL := Lib.hid hl2
  clear hl hl2
  have hn0 : 0 ≤ (n : Int) := by omega
  have hn1 : (n : Int) ≤ (cap : Int) := by omega
  have hn2 : (cap : Int) ≤ 9223372036854775807 := by omega
  obtain ⟨MP, hMP⟩ : ∃ MP, madeV (l.take 12) = MP := ⟨_, rfl⟩
  rw [hMP] at hmo
  have HMV := Lib.hid (show (madeV (l.take 12)).v = MP.v from congrArg Pl.v hMP)
  have HMO := Lib.hid hmo
  have HR := Lib.hid hr
  have HQ1 := Lib.hid hq
  clear hMP hmo hr hq
  obtain ⟨s0, hs0⟩ : ∃ s, v0.tmod 25 = s := ⟨_, rfl⟩
  obtain ⟨s1, hs1⟩ : ∃ s, v1.tmod 25 = s := ⟨_, rfl⟩
  obtain ⟨s2, hs2⟩ : ∃ s, v2.tmod 25 = s := ⟨_, rfl⟩
  have HSM := Lib.hid (show vV (v0.tmod 25) (v1.tmod 25) (v2.tmod 25) = vV s0 s1 s2 by rw [hs0, hs1, hs2])
  clear hs0 hs1 hs2
  go_enter Try.func6, Try.ntmps6
  go_wp2_with fail
  refine Calls.mono (law7_sanity _) ?_
  rintro e w1 ⟨rfl, hbx⟩
  have o6 : Own w1 (w.heap.size) #[.int .i64 r0, .int .i64 r1, .int .i64 r2, .int .i64 r3] := Own.below (by repeat' (first | ((refine Own.new ?_); (focus (first | rfl | omega | (simp; done) | (simp; omega)))) | assumption | refine Own.alloc ?_ _ | refine Own.drew ?_ | (refine Own.far ?_ ?_ _; rotate_left; (focus (first | rfl | omega | (simp; done) | (simp; omega)))))) hbx
  have o6c := o6.cell
  have o6f := o6.thaw
  have o6z := o6.lt
  have o7 : Own w1 (w.heap.size + 1) #[.int .i64 v0, .int .i64 v1, .int .i64 v2] := Own.below (by repeat' (first | ((refine Own.new ?_); (focus (first | rfl | omega | (simp; done) | (simp; omega)))) | assumption | refine Own.alloc ?_ _ | refine Own.drew ?_ | (refine Own.far ?_ ?_ _; rotate_left; (focus (first | rfl | omega | (simp; done) | (simp; omega)))))) hbx
  have o7c := o7.cell
  have o7f := o7.thaw
  have o7z := o7.lt
  have o8 : Own w1 (w.heap.size + 1 + 1) #[.int .i64 q0, .int .i64 q1, .int .i64 q2] := Own.below (by repeat' (first | ((refine Own.new ?_); (focus (first | rfl | omega | (simp; done) | (simp; omega)))) | assumption | refine Own.alloc ?_ _ | refine Own.drew ?_ | (refine Own.far ?_ ?_ _; rotate_left; (focus (first | rfl | omega | (simp; done) | (simp; omega)))))) hbx
  have o8c := o8.cell
  have o8f := o8.thaw
  have o8z := o8.lt
  have hw : Below w.heap.size w w1 := Below.hop (by repeat' (first | exact Below.refl _ _ | assumption | (refine Below.alloc ?_ ?_ _; rotate_left; (focus (first | rfl | omega | (simp; done) | (simp; omega)))) | (refine Below.setCell ?_ ?_ _; rotate_left; (focus (first | rfl | omega | (simp; done) | (simp; omega)))) | refine Below.drew ?_)) hbx
  have hz := hw.size
  clear hbx
  go_wp2_with fail
  all_goals
    have hl3 := HL.out.below hw
    first
      | rw [show min n 12 = 12 by omega] at hl3
      | rw [show min n 12 = n by omega] at hl3
    refine Calls.mono (callv (ref7_Made A _ cap _ _ hl3) HMV.out) ?_
    rintro e w2 ⟨rfl, hbx⟩
    replace o6 : Own w2 (w.heap.size) #[.int .i64 r0, .int .i64 r1, .int .i64 r2, .int .i64 r3] := Own.below (by repeat' (first | ((refine Own.new ?_); (focus (first | rfl | omega | (simp; done) | (simp; omega)))) | assumption | refine Own.alloc ?_ _ | refine Own.drew ?_ | (refine Own.far ?_ ?_ _; rotate_left; (focus (first | rfl | omega | (simp; done) | (simp; omega)))))) hbx
    replace o6c := o6.cell
    replace o6f := o6.thaw
    replace o6z := o6.lt
    replace o7 : Own w2 (w.heap.size + 1) #[.int .i64 v0, .int .i64 v1, .int .i64 v2] := Own.below (by repeat' (first | ((refine Own.new ?_); (focus (first | rfl | omega | (simp; done) | (simp; omega)))) | assumption | refine Own.alloc ?_ _ | refine Own.drew ?_ | (refine Own.far ?_ ?_ _; rotate_left; (focus (first | rfl | omega | (simp; done) | (simp; omega)))))) hbx
    replace o7c := o7.cell
    replace o7f := o7.thaw
    replace o7z := o7.lt
    replace o8 : Own w2 (w.heap.size + 1 + 1) #[.int .i64 q0, .int .i64 q1, .int .i64 q2] := Own.below (by repeat' (first | ((refine Own.new ?_); (focus (first | rfl | omega | (simp; done) | (simp; omega)))) | assumption | refine Own.alloc ?_ _ | refine Own.drew ?_ | (refine Own.far ?_ ?_ _; rotate_left; (focus (first | rfl | omega | (simp; done) | (simp; omega)))))) hbx
    replace o8c := o8.cell
    replace o8f := o8.thaw
    replace o8z := o8.lt
    replace hw : Below w.heap.size w w2 := Below.hop (by repeat' (first | exact Below.refl _ _ | assumption | (refine Below.alloc ?_ ?_ _; rotate_left; (focus (first | rfl | omega | (simp; done) | (simp; omega)))) | (refine Below.setCell ?_ ?_ _; rotate_left; (focus (first | rfl | omega | (simp; done) | (simp; omega)))) | refine Below.drew ?_)) hbx
    replace hz := hw.size
    clear hbx
    clear hl3
    go_wp2_with fail
    refine Calls.mono (ref7_Odd MP.n.x MP.n.y MP.n.z MP.b q0 q1 q2 HMO.out HQ1.out _) ?_
    rintro e w3 ⟨OP, rfl, hop, hbx⟩
    have HOP := Lib.hid hop
    clear hop
    have o12 : Own w3 (w2.heap.size) #[.int .i64 MP.n.x, .int .i64 MP.n.y, .int .i64 MP.n.z, .int .i64 MP.b] := Own.below (by repeat' (first | ((refine Own.new ?_); (focus (first | rfl | omega | (simp; done) | (simp; omega)))) | assumption | refine Own.alloc ?_ _ | refine Own.drew ?_ | (refine Own.far ?_ ?_ _; rotate_left; (focus (first | rfl | omega | (simp; done) | (simp; omega)))))) hbx
    replace o6 : Own w3 (w.heap.size) #[.int .i64 r0, .int .i64 r1, .int .i64 r2, .int .i64 r3] := Own.below (by repeat' (first | ((refine Own.new ?_); (focus (first | rfl | omega | (simp; done) | (simp; omega)))) | assumption | refine Own.alloc ?_ _ | refine Own.drew ?_ | (refine Own.far ?_ ?_ _; rotate_left; (focus (first | rfl | omega | (simp; done) | (simp; omega)))))) hbx
    replace o6c := o6.cell
    replace o6f := o6.thaw
    replace o6z := o6.lt
    replace o7 : Own w3 (w.heap.size + 1) #[.int .i64 v0, .int .i64 v1, .int .i64 v2] := Own.below (by repeat' (first | ((refine Own.new ?_); (focus (first | rfl | omega | (simp; done) | (simp; omega)))) | assumption | refine Own.alloc ?_ _ | refine Own.drew ?_ | (refine Own.far ?_ ?_ _; rotate_left; (focus (first | rfl | omega | (simp; done) | (simp; omega)))))) hbx
    replace o7c := o7.cell
    replace o7f := o7.thaw
    replace o7z := o7.lt
    replace o8 : Own w3 (w.heap.size + 1 + 1) #[.int .i64 q0, .int .i64 q1, .int .i64 q2] := Own.below (by repeat' (first | ((refine Own.new ?_); (focus (first | rfl | omega | (simp; done) | (simp; omega)))) | assumption | refine Own.alloc ?_ _ | refine Own.drew ?_ | (refine Own.far ?_ ?_ _; rotate_left; (focus (first | rfl | omega | (simp; done) | (simp; omega)))))) hbx
    replace o8c := o8.cell
    replace o8f := o8.thaw
    replace o8z := o8.lt
    replace hw : Below w.heap.size w w3 := Below.hop (by repeat' (first | exact Below.refl _ _ | assumption | (refine Below.alloc ?_ ?_ _; rotate_left; (focus (first | rfl | omega | (simp; done) | (simp; omega)))) | (refine Below.setCell ?_ ?_ _; rotate_left; (focus (first | rfl | omega | (simp; done) | (simp; omega)))) | refine Below.drew ?_)) hbx
    replace hz := hw.size
    clear hbx
    have o12c := o12.cell
    have o12f := o12.thaw
    have o12z := o12.lt
    clear o8c o8f o8z o8
    go_wp2_with fail
    refine Calls.mono (callv (law7_vec _ _ _ _) (HSM.out : _ = vV s0 s1 s2)) ?_
    rintro e w4 ⟨rfl, hbx⟩
    have o13 : Own w4 (w3.heap.size) #[.int .i64 OP.n.x, .int .i64 OP.n.y, .int .i64 OP.n.z, .int .i64 OP.b] := Own.below (by repeat' (first | ((refine Own.new ?_); (focus (first | rfl | omega | (simp; done) | (simp; omega)))) | assumption | refine Own.alloc ?_ _ | refine Own.drew ?_ | (refine Own.far ?_ ?_ _; rotate_left; (focus (first | rfl | omega | (simp; done) | (simp; omega)))))) hbx
    have o13c := o13.cell
    have o13f := o13.thaw
    have o13z := o13.lt
    replace o6 : Own w4 (w.heap.size) #[.int .i64 r0, .int .i64 r1, .int .i64 r2, .int .i64 r3] := Own.below (by repeat' (first | ((refine Own.new ?_); (focus (first | rfl | omega | (simp; done) | (simp; omega)))) | assumption | refine Own.alloc ?_ _ | refine Own.drew ?_ | (refine Own.far ?_ ?_ _; rotate_left; (focus (first | rfl | omega | (simp; done) | (simp; omega)))))) hbx
    replace o6c := o6.cell
    replace o6f := o6.thaw
    replace o6z := o6.lt
    replace o7 : Own w4 (w.heap.size + 1) #[.int .i64 v0, .int .i64 v1, .int .i64 v2] := Own.below (by repeat' (first | ((refine Own.new ?_); (focus (first | rfl | omega | (simp; done) | (simp; omega)))) | assumption | refine Own.alloc ?_ _ | refine Own.drew ?_ | (refine Own.far ?_ ?_ _; rotate_left; (focus (first | rfl | omega | (simp; done) | (simp; omega)))))) hbx
    replace o7c := o7.cell
    replace o7f := o7.thaw
    replace o7z := o7.lt
    replace o12 : Own w4 (w2.heap.size) #[.int .i64 MP.n.x, .int .i64 MP.n.y, .int .i64 MP.n.z, .int .i64 MP.b] := Own.below (by repeat' (first | ((refine Own.new ?_); (focus (first | rfl | omega | (simp; done) | (simp; omega)))) | assumption | refine Own.alloc ?_ _ | refine Own.drew ?_ | (refine Own.far ?_ ?_ _; rotate_left; (focus (first | rfl | omega | (simp; done) | (simp; omega)))))) hbx
    replace o12c := o12.cell
    replace o12f := o12.thaw
    replace o12z := o12.lt
    replace hw : Below w.heap.size w w4 := Below.hop (by repeat' (first | exact Below.refl _ _ | assumption | (refine Below.alloc ?_ ?_ _; rotate_left; (focus (first | rfl | omega | (simp; done) | (simp; omega)))) | (refine Below.setCell ?_ ?_ _; rotate_left; (focus (first | rfl | omega | (simp; done) | (simp; omega)))) | refine Below.drew ?_)) hbx
    replace hz := hw.size
    clear hbx
    go_wp2
    have o14 : Own ((w4.alloc (.cells #[.int .i64 s0, .int .i64 s1, .int .i64 s2] 24)).alloc (.cells #[.int .i64 MP.n.x, .int .i64 MP.n.y, .int .i64 MP.n.z, .int .i64 MP.b, .int .i64 r0, .int .i64 r1, .int .i64 r2, .int .i64 r3, .int .i64 OP.n.x, .int .i64 OP.n.y, .int .i64 OP.n.z, .int .i64 OP.b, .int .i64 OP.n.x, .int .i64 OP.n.y, .int .i64 OP.n.z, .int .i64 r3] 32)) (w4.heap.size) #[.int .i64 s0, .int .i64 s1, .int .i64 s2] := Own.alloc (Own.new rfl) _
    have os : Own ((w4.alloc (.cells #[.int .i64 s0, .int .i64 s1, .int .i64 s2] 24)).alloc (.cells #[.int .i64 MP.n.x, .int .i64 MP.n.y, .int .i64 MP.n.z, .int .i64 MP.b, .int .i64 r0, .int .i64 r1, .int .i64 r2, .int .i64 r3, .int .i64 OP.n.x, .int .i64 OP.n.y, .int .i64 OP.n.z, .int .i64 OP.b, .int .i64 OP.n.x, .int .i64 OP.n.y, .int .i64 OP.n.z, .int .i64 r3] 32)) (w4.heap.size + 1) #[.int .i64 MP.n.x, .int .i64 MP.n.y, .int .i64 MP.n.z, .int .i64 MP.b, .int .i64 r0, .int .i64 r1, .int .i64 r2, .int .i64 r3, .int .i64 OP.n.x, .int .i64 OP.n.y, .int .i64 OP.n.z, .int .i64 OP.b, .int .i64 OP.n.x, .int .i64 OP.n.y, .int .i64 OP.n.z, .int .i64 r3] := Own.new (by simp)
    replace o6 : Own ((w4.alloc (.cells #[.int .i64 s0, .int .i64 s1, .int .i64 s2] 24)).alloc (.cells #[.int .i64 MP.n.x, .int .i64 MP.n.y, .int .i64 MP.n.z, .int .i64 MP.b, .int .i64 r0, .int .i64 r1, .int .i64 r2, .int .i64 r3, .int .i64 OP.n.x, .int .i64 OP.n.y, .int .i64 OP.n.z, .int .i64 OP.b, .int .i64 OP.n.x, .int .i64 OP.n.y, .int .i64 OP.n.z, .int .i64 r3] 32)) (w.heap.size) #[.int .i64 r0, .int .i64 r1, .int .i64 r2, .int .i64 r3] := (by repeat' (first | ((refine Own.new ?_); (focus (first | rfl | omega | (simp; done) | (simp; omega)))) | assumption | refine Own.alloc ?_ _ | refine Own.drew ?_ | (refine Own.far ?_ ?_ _; rotate_left; (focus (first | rfl | omega | (simp; done) | (simp; omega))))))
    clear o6c o6f o6z
    replace o7 : Own ((w4.alloc (.cells #[.int .i64 s0, .int .i64 s1, .int .i64 s2] 24)).alloc (.cells #[.int .i64 MP.n.x, .int .i64 MP.n.y, .int .i64 MP.n.z, .int .i64 MP.b, .int .i64 r0, .int .i64 r1, .int .i64 r2, .int .i64 r3, .int .i64 OP.n.x, .int .i64 OP.n.y, .int .i64 OP.n.z, .int .i64 OP.b, .int .i64 OP.n.x, .int .i64 OP.n.y, .int .i64 OP.n.z, .int .i64 r3] 32)) (w.heap.size + 1) #[.int .i64 v0, .int .i64 v1, .int .i64 v2] := (by repeat' (first | ((refine Own.new ?_); (focus (first | rfl | omega | (simp; done) | (simp; omega)))) | assumption | refine Own.alloc ?_ _ | refine Own.drew ?_ | (refine Own.far ?_ ?_ _; rotate_left; (focus (first | rfl | omega | (simp; done) | (simp; omega))))))
    clear o7c o7f o7z
    replace o12 : Own ((w4.alloc (.cells #[.int .i64 s0, .int .i64 s1, .int .i64 s2] 24)).alloc (.cells #[.int .i64 MP.n.x, .int .i64 MP.n.y, .int .i64 MP.n.z, .int .i64 MP.b, .int .i64 r0, .int .i64 r1, .int .i64 r2, .int .i64 r3, .int .i64 OP.n.x, .int .i64 OP.n.y, .int .i64 OP.n.z, .int .i64 OP.b, .int .i64 OP.n.x, .int .i64 OP.n.y, .int .i64 OP.n.z, .int .i64 r3] 32)) (w2.heap.size) #[.int .i64 MP.n.x, .int .i64 MP.n.y, .int .i64 MP.n.z, .int .i64 MP.b] := (by repeat' (first | ((refine Own.new ?_); (focus (first | rfl | omega | (simp; done) | (simp; omega)))) | assumption | refine Own.alloc ?_ _ | refine Own.drew ?_ | (refine Own.far ?_ ?_ _; rotate_left; (focus (first | rfl | omega | (simp; done) | (simp; omega))))))
    clear o12c o12f o12z
    replace o13 : Own ((w4.alloc (.cells #[.int .i64 s0, .int .i64 s1, .int .i64 s2] 24)).alloc (.cells #[.int .i64 MP.n.x, .int .i64 MP.n.y, .int .i64 MP.n.z, .int .i64 MP.b, .int .i64 r0, .int .i64 r1, .int .i64 r2, .int .i64 r3, .int .i64 OP.n.x, .int .i64 OP.n.y, .int .i64 OP.n.z, .int .i64 OP.b, .int .i64 OP.n.x, .int .i64 OP.n.y, .int .i64 OP.n.z, .int .i64 r3] 32)) (w3.heap.size) #[.int .i64 OP.n.x, .int .i64 OP.n.y, .int .i64 OP.n.z, .int .i64 OP.b] := (by repeat' (first | ((refine Own.new ?_); (focus (first | rfl | omega | (simp; done) | (simp; omega)))) | assumption | refine Own.alloc ?_ _ | refine Own.drew ?_ | (refine Own.far ?_ ?_ _; rotate_left; (focus (first | rfl | omega | (simp; done) | (simp; omega))))))
    clear o13c o13f o13z
    replace hw : Below w.heap.size w ((w4.alloc (.cells #[.int .i64 s0, .int .i64 s1, .int .i64 s2] 24)).alloc (.cells #[.int .i64 MP.n.x, .int .i64 MP.n.y, .int .i64 MP.n.z, .int .i64 MP.b, .int .i64 r0, .int .i64 r1, .int .i64 r2, .int .i64 r3, .int .i64 OP.n.x, .int .i64 OP.n.y, .int .i64 OP.n.z, .int .i64 OP.b, .int .i64 OP.n.x, .int .i64 OP.n.y, .int .i64 OP.n.z, .int .i64 r3] 32)) := (by repeat' (first | exact Below.refl _ _ | assumption | (refine Below.alloc ?_ ?_ _; rotate_left; (focus (first | rfl | omega | (simp; done) | (simp; omega)))) | (refine Below.setCell ?_ ?_ _; rotate_left; (focus (first | rfl | omega | (simp; done) | (simp; omega)))) | refine Below.drew ?_))
    generalize (w4.alloc (.cells #[.int .i64 s0, .int .i64 s1, .int .i64 s2] 24)).alloc (.cells #[.int .i64 MP.n.x, .int .i64 MP.n.y, .int .i64 MP.n.z, .int .i64 MP.b, .int .i64 r0, .int .i64 r1, .int .i64 r2, .int .i64 r3, .int .i64 OP.n.x, .int .i64 OP.n.y, .int .i64 OP.n.z, .int .i64 OP.b, .int .i64 OP.n.x, .int .i64 OP.n.y, .int .i64 OP.n.z, .int .i64 r3] 32) = w5 at *
    have o6c := o6.cell
    have o6f := o6.thaw
    have o6z := o6.lt
    have o7c := o7.cell
    have o7f := o7.thaw
    have o7z := o7.lt
    have o12c := o12.cell
    have o12f := o12.thaw
    have o12z := o12.lt
    have o13c := o13.cell
    have o13f := o13.thaw
    have o13z := o13.lt
    have o14c := o14.cell
    have o14f := o14.thaw
    have o14z := o14.lt
    have osc := os.cell
    have osf := os.thaw
    have osz := os.lt
    replace hz := hw.size
    have hall : ∀ m ∈ [MP.n.x, MP.n.y, MP.n.z, MP.b, r0, r1, r2, r3, OP.n.x, OP.n.y, OP.n.z, OP.b, OP.n.x, OP.n.y, OP.n.z, r3], I64 m := by
      simp only [List.mem_cons, List.not_mem_nil, or_false, forall_eq_or_imp, forall_eq]
      exact ⟨HMO.out.n.x, HMO.out.n.y, HMO.out.n.z, HMO.out.b, HR.out.n.x, HR.out.n.y, HR.out.n.z, HR.out.b, HOP.out.n.x, HOP.out.n.y, HOP.out.n.z, HOP.out.b, HOP.out.n.x, HOP.out.n.y, HOP.out.n.z, HR.out.b⟩
    obtain ⟨ck, hck, hci⟩ : ∃ ck : Array Value, Own w5 (w4.heap.size + 1) ck ∧ ∀ i, i < 16 → ∃ m, ck[i]? = some (.int .i64 m) ∧ I64 m := ⟨_, os, fun i hi => rowInt _ hall i hi⟩
    have HCI := Lib.hid hci
    clear hall hci os osc osf osz
    have os := hck
    clear hck
    have osc := os.cell
    have osf := os.thaw
    have osz := os.lt
    go_loopw [55] (fun i wr => ∃ k : Nat, k ≤ 4 ∧ i = .int .i64 k ∧ Below w.heap.size w wr ∧ Own wr (w.heap.size) #[.int .i64 r0, .int .i64 r1, .int .i64 r2, .int .i64 r3] ∧ Own wr (w.heap.size + 1) #[.int .i64 v0, .int .i64 v1, .int .i64 v2] ∧ Own wr (w2.heap.size) #[.int .i64 MP.n.x, .int .i64 MP.n.y, .int .i64 MP.n.z, .int .i64 MP.b] ∧ Own wr (w3.heap.size) #[.int .i64 OP.n.x, .int .i64 OP.n.y, .int .i64 OP.n.z, .int .i64 OP.b] ∧ Own wr (w4.heap.size) #[.int .i64 s0, .int .i64 s1, .int .i64 s2] ∧ Own wr (w4.heap.size + 1) ck) (fun i _ => 4 - (intOf i).toNat)
    case atStart => exact ⟨0, by omega, rfl, hw, o6, o7, o12, o13, o14, os⟩
    case round =>
      clear hw hz o6 o6c o6f o6z o7 o7c o7f o7z o12 o12c o12f o12z o13 o13c o13f o13z o14 o14c o14f o14z os osc osf osz
      obtain ⟨k, hk, rfl, hw, o6, o7, o12, o13, o14, os⟩ := hrel
      have hz := hw.size
      have o6c := o6.cell
      have o6f := o6.thaw
      have o6z := o6.lt
      have o7c := o7.cell
      have o7f := o7.thaw
      have o7z := o7.lt
      have o12c := o12.cell
      have o12f := o12.thaw
      have o12z := o12.lt
      have o13c := o13.cell
      have o13f := o13.thaw
      have o13z := o13.lt
      have o14c := o14.cell
      have o14f := o14.thaw
      have o14z := o14.lt
      have osc := os.cell
      have osf := os.thaw
      have osz := os.lt
      by_cases hlt : k < 4
      · have hlt2 : (k : Int) < 4 := by omega
        obtain ⟨n0, e0, i0⟩ := HCI.out (k * 4) (by omega)
        have I0 := Lib.hid i0
        clear i0
        obtain ⟨n1, e1, i1⟩ := HCI.out (k * 4 + 1) (by omega)
        have I1 := Lib.hid i1
        clear i1
        obtain ⟨n2, e2, i2⟩ := HCI.out (k * 4 + 2) (by omega)
        have I2 := Lib.hid i2
        clear i2
        obtain ⟨n3, e3, i3⟩ := HCI.out (k * 4 + 3) (by omega)
        have I3 := Lib.hid i3
        clear i3
        go_wp2
        have ox : Own (wr.alloc (.cells #[.int .i64 n0, .int .i64 n1, .int .i64 n2, .int .i64 n3] 32)) (wr.heap.size) #[.int .i64 n0, .int .i64 n1, .int .i64 n2, .int .i64 n3] := Own.new rfl
        replace o6 : Own (wr.alloc (.cells #[.int .i64 n0, .int .i64 n1, .int .i64 n2, .int .i64 n3] 32)) (w.heap.size) #[.int .i64 r0, .int .i64 r1, .int .i64 r2, .int .i64 r3] := (by repeat' (first | ((refine Own.new ?_); (focus (first | rfl | omega | (simp; done) | (simp; omega)))) | assumption | refine Own.alloc ?_ _ | refine Own.drew ?_ | (refine Own.far ?_ ?_ _; rotate_left; (focus (first | rfl | omega | (simp; done) | (simp; omega))))))
        clear o6c o6f o6z
        replace o7 : Own (wr.alloc (.cells #[.int .i64 n0, .int .i64 n1, .int .i64 n2, .int .i64 n3] 32)) (w.heap.size + 1) #[.int .i64 v0, .int .i64 v1, .int .i64 v2] := (by repeat' (first | ((refine Own.new ?_); (focus (first | rfl | omega | (simp; done) | (simp; omega)))) | assumption | refine Own.alloc ?_ _ | refine Own.drew ?_ | (refine Own.far ?_ ?_ _; rotate_left; (focus (first | rfl | omega | (simp; done) | (simp; omega))))))
        clear o7c o7f o7z
        replace o12 : Own (wr.alloc (.cells #[.int .i64 n0, .int .i64 n1, .int .i64 n2, .int .i64 n3] 32)) (w2.heap.size) #[.int .i64 MP.n.x, .int .i64 MP.n.y, .int .i64 MP.n.z, .int .i64 MP.b] := (by repeat' (first | ((refine Own.new ?_); (focus (first | rfl | omega | (simp; done) | (simp; omega)))) | assumption | refine Own.alloc ?_ _ | refine Own.drew ?_ | (refine Own.far ?_ ?_ _; rotate_left; (focus (first | rfl | omega | (simp; done) | (simp; omega))))))
        clear o12c o12f o12z
        replace o13 : Own (wr.alloc (.cells #[.int .i64 n0, .int .i64 n1, .int .i64 n2, .int .i64 n3] 32)) (w3.heap.size) #[.int .i64 OP.n.x, .int .i64 OP.n.y, .int .i64 OP.n.z, .int .i64 OP.b] := (by repeat' (first | ((refine Own.new ?_); (focus (first | rfl | omega | (simp; done) | (simp; omega)))) | assumption | refine Own.alloc ?_ _ | refine Own.drew ?_ | (refine Own.far ?_ ?_ _; rotate_left; (focus (first | rfl | omega | (simp; done) | (simp; omega))))))
        clear o13c o13f o13z
        replace o14 : Own (wr.alloc (.cells #[.int .i64 n0, .int .i64 n1, .int .i64 n2, .int .i64 n3] 32)) (w4.heap.size) #[.int .i64 s0, .int .i64 s1, .int .i64 s2] := (by repeat' (first | ((refine Own.new ?_); (focus (first | rfl | omega | (simp; done) | (simp; omega)))) | assumption | refine Own.alloc ?_ _ | refine Own.drew ?_ | (refine Own.far ?_ ?_ _; rotate_left; (focus (first | rfl | omega | (simp; done) | (simp; omega))))))
        clear o14c o14f o14z
        replace os : Own (wr.alloc (.cells #[.int .i64 n0, .int .i64 n1, .int .i64 n2, .int .i64 n3] 32)) (w4.heap.size + 1) ck := (by repeat' (first | ((refine Own.new ?_); (focus (first | rfl | omega | (simp; done) | (simp; omega)))) | assumption | refine Own.alloc ?_ _ | refine Own.drew ?_ | (refine Own.far ?_ ?_ _; rotate_left; (focus (first | rfl | omega | (simp; done) | (simp; omega))))))
        clear osc osf osz
        replace hw : Below w.heap.size w (wr.alloc (.cells #[.int .i64 n0, .int .i64 n1, .int .i64 n2, .int .i64 n3] 32)) := (by repeat' (first | exact Below.refl _ _ | assumption | (refine Below.alloc ?_ ?_ _; rotate_left; (focus (first | rfl | omega | (simp; done) | (simp; omega)))) | (refine Below.setCell ?_ ?_ _; rotate_left; (focus (first | rfl | omega | (simp; done) | (simp; omega)))) | refine Below.drew ?_))
        generalize wr.alloc (.cells #[.int .i64 n0, .int .i64 n1, .int .i64 n2, .int .i64 n3] 32) = wq at *
        have o6c := o6.cell
        have o6f := o6.thaw
        have o6z := o6.lt
        have o7c := o7.cell
        have o7f := o7.thaw
        have o7z := o7.lt
        have o12c := o12.cell
        have o12f := o12.thaw
        have o12z := o12.lt
        have o13c := o13.cell
        have o13f := o13.thaw
        have o13z := o13.lt
        have o14c := o14.cell
        have o14f := o14.thaw
        have o14z := o14.lt
        have osc := os.cell
        have osf := os.thaw
        have osz := os.lt
        have oxc := ox.cell
        have oxf := ox.thaw
        have oxz := ox.lt
        replace hz := hw.size
        clear e0 e1 e2 e3
        generalize wr.heap.size = oxb at *
        refine region_late 30 [] (by kernel_rfl) (by kernel_rfl) (by rfl) ?_
        apply Exists.intro
        refine ⟨fun v hv hne => ?_, fun ue hu => ?_⟩
        · simp only [List.take_succ_cons, List.take_zero]
          have do6 := fun x => (o6.later (v := v) (T := []) (by first | (simp; done) | (simp; omega)) x).cell
          have do7 := fun x => (o7.later (v := v) (T := []) (by first | (simp; done) | (simp; omega)) x).cell
          have do12 := fun x => (o12.later (v := v) (T := []) (by first | (simp; done) | (simp; omega)) x).cell
          have do13 := fun x => (o13.later (v := v) (T := []) (by first | (simp; done) | (simp; omega)) x).cell
          have do14 := fun x => (o14.later (v := v) (T := []) (by first | (simp; done) | (simp; omega)) x).cell
          have dos := fun x => (os.later (v := v) (T := []) (by first | (simp; done) | (simp; omega)) x).cell
          have dox := fun x => (ox.later (v := v) (T := []) (by first | (simp; done) | (simp; omega)) x).cell
          repeat (go_big_quiet_step ((first | (go_at_call 38; with_reducible exact lateB (plane_Valid n0 n1 n2 n3 I0.out I1.out I2.out _)) | (go_at_call 39; with_reducible exact lateB (ref7_Valid n0 n1 n2 n3 I0.out I1.out I2.out _)) | (go_at_call 40; with_reducible exact lateB (plane_Flip n0 n1 n2 n3 _)) | (go_at_call 41; with_reducible exact lateB (ref7_Flip n0 n1 n2 n3 _)) | (go_at_call 42; with_reducible exact lateB (plane_Side n0 n1 n2 n3 _ _ _ I0.out I1.out I2.out _)) | (go_at_call 43; with_reducible exact lateB (ref7_Side n0 n1 n2 n3 _ _ _ I0.out I1.out I2.out _)))))
          refine wpQuiet_nil ?_
          exact rfl
        · simp only [List.drop_succ_cons, List.drop_zero]
          replace o6 := o6.below hu
          replace o7 := o7.below hu
          replace o12 := o12.below hu
          replace o13 := o13.below hu
          replace o14 := o14.below hu
          replace os := os.below hu
          replace ox := ox.below hu
          replace hw := Below.hop hw hu
          replace hz := hw.size
          clear hu
          refine late_nil ?_
          (try simp only [Act.put, List.setIfInBounds_toArray, List.set_cons_zero, List.set_cons_succ])
          have o6c := o6.cell
          have o6f := o6.thaw
          have o6z := o6.lt
          have o7c := o7.cell
          have o7f := o7.thaw
          have o7z := o7.lt
          have o12c := o12.cell
          have o12f := o12.thaw
          have o12z := o12.lt
          have o13c := o13.cell
          have o13f := o13.thaw
          have o13z := o13.lt
          have o14c := o14.cell
          have o14f := o14.thaw
          have o14z := o14.lt
          have osc := os.cell
          have osf := os.thaw
          have osz := os.lt
          have oxc := ox.cell
          have oxf := ox.thaw
          have oxz := ox.lt
          obtain ⟨RE, hRE⟩ : ∃ RE, vReach ⟨n0, n1, n2⟩ ⟨s0, s1, s2⟩ = RE := ⟨_, rfl⟩
          have HRE := Lib.hid (congrArg (Value.int IntKind.i64) hRE)
          clear hRE
          go_wp2_with fail
          refine Calls.mono (callv (ref7_Reach n0 n1 n2 _ _ _ _) HRE.out) ?_
          rintro e w6 ⟨rfl, hbx⟩
          replace o6 : Own w6 (w.heap.size) #[.int .i64 r0, .int .i64 r1, .int .i64 r2, .int .i64 r3] := Own.below (by repeat' (first | ((refine Own.new ?_); (focus (first | rfl | omega | (simp; done) | (simp; omega)))) | assumption | refine Own.alloc ?_ _ | refine Own.drew ?_ | (refine Own.far ?_ ?_ _; rotate_left; (focus (first | rfl | omega | (simp; done) | (simp; omega)))))) hbx
          replace o6c := o6.cell
          replace o6f := o6.thaw
          replace o6z := o6.lt
          replace o7 : Own w6 (w.heap.size + 1) #[.int .i64 v0, .int .i64 v1, .int .i64 v2] := Own.below (by repeat' (first | ((refine Own.new ?_); (focus (first | rfl | omega | (simp; done) | (simp; omega)))) | assumption | refine Own.alloc ?_ _ | refine Own.drew ?_ | (refine Own.far ?_ ?_ _; rotate_left; (focus (first | rfl | omega | (simp; done) | (simp; omega)))))) hbx
          replace o7c := o7.cell
          replace o7f := o7.thaw
          replace o7z := o7.lt
          replace o12 : Own w6 (w2.heap.size) #[.int .i64 MP.n.x, .int .i64 MP.n.y, .int .i64 MP.n.z, .int .i64 MP.b] := Own.below (by repeat' (first | ((refine Own.new ?_); (focus (first | rfl | omega | (simp; done) | (simp; omega)))) | assumption | refine Own.alloc ?_ _ | refine Own.drew ?_ | (refine Own.far ?_ ?_ _; rotate_left; (focus (first | rfl | omega | (simp; done) | (simp; omega)))))) hbx
          replace o12c := o12.cell
          replace o12f := o12.thaw
          replace o12z := o12.lt
          replace o13 : Own w6 (w3.heap.size) #[.int .i64 OP.n.x, .int .i64 OP.n.y, .int .i64 OP.n.z, .int .i64 OP.b] := Own.below (by repeat' (first | ((refine Own.new ?_); (focus (first | rfl | omega | (simp; done) | (simp; omega)))) | assumption | refine Own.alloc ?_ _ | refine Own.drew ?_ | (refine Own.far ?_ ?_ _; rotate_left; (focus (first | rfl | omega | (simp; done) | (simp; omega)))))) hbx
          replace o13c := o13.cell
          replace o13f := o13.thaw
          replace o13z := o13.lt
          replace o14 : Own w6 (w4.heap.size) #[.int .i64 s0, .int .i64 s1, .int .i64 s2] := Own.below (by repeat' (first | ((refine Own.new ?_); (focus (first | rfl | omega | (simp; done) | (simp; omega)))) | assumption | refine Own.alloc ?_ _ | refine Own.drew ?_ | (refine Own.far ?_ ?_ _; rotate_left; (focus (first | rfl | omega | (simp; done) | (simp; omega)))))) hbx
          replace o14c := o14.cell
          replace o14f := o14.thaw
          replace o14z := o14.lt
          replace os : Own w6 (w4.heap.size + 1) ck := Own.below (by repeat' (first | ((refine Own.new ?_); (focus (first | rfl | omega | (simp; done) | (simp; omega)))) | assumption | refine Own.alloc ?_ _ | refine Own.drew ?_ | (refine Own.far ?_ ?_ _; rotate_left; (focus (first | rfl | omega | (simp; done) | (simp; omega)))))) hbx
          replace osc := os.cell
          replace osf := os.thaw
          replace osz := os.lt
          replace ox : Own w6 (oxb) #[.int .i64 n0, .int .i64 n1, .int .i64 n2, .int .i64 n3] := Own.below (by repeat' (first | ((refine Own.new ?_); (focus (first | rfl | omega | (simp; done) | (simp; omega)))) | assumption | refine Own.alloc ?_ _ | refine Own.drew ?_ | (refine Own.far ?_ ?_ _; rotate_left; (focus (first | rfl | omega | (simp; done) | (simp; omega)))))) hbx
          replace oxc := ox.cell
          replace oxf := ox.thaw
          replace oxz := ox.lt
          replace hw : Below w.heap.size w w6 := Below.hop (by repeat' (first | exact Below.refl _ _ | assumption | (refine Below.alloc ?_ ?_ _; rotate_left; (focus (first | rfl | omega | (simp; done) | (simp; omega)))) | (refine Below.setCell ?_ ?_ _; rotate_left; (focus (first | rfl | omega | (simp; done) | (simp; omega)))) | refine Below.drew ?_)) hbx
          replace hz := hw.size
          clear hbx
          go_wp2
          have on : Own (w6.alloc (.cells #[.int .i64 by_, .int .i64 (by_.tmod 100), .int .i64 RE] 3)) (w6.heap.size) #[.int .i64 by_, .int .i64 (by_.tmod 100), .int .i64 RE] := Own.new rfl
          replace o6 : Own (w6.alloc (.cells #[.int .i64 by_, .int .i64 (by_.tmod 100), .int .i64 RE] 3)) (w.heap.size) #[.int .i64 r0, .int .i64 r1, .int .i64 r2, .int .i64 r3] := (by repeat' (first | ((refine Own.new ?_); (focus (first | rfl | omega | (simp; done) | (simp; omega)))) | assumption | refine Own.alloc ?_ _ | refine Own.drew ?_ | (refine Own.far ?_ ?_ _; rotate_left; (focus (first | rfl | omega | (simp; done) | (simp; omega))))))
          clear o6c o6f o6z
          replace o7 : Own (w6.alloc (.cells #[.int .i64 by_, .int .i64 (by_.tmod 100), .int .i64 RE] 3)) (w.heap.size + 1) #[.int .i64 v0, .int .i64 v1, .int .i64 v2] := (by repeat' (first | ((refine Own.new ?_); (focus (first | rfl | omega | (simp; done) | (simp; omega)))) | assumption | refine Own.alloc ?_ _ | refine Own.drew ?_ | (refine Own.far ?_ ?_ _; rotate_left; (focus (first | rfl | omega | (simp; done) | (simp; omega))))))
          clear o7c o7f o7z
          replace o12 : Own (w6.alloc (.cells #[.int .i64 by_, .int .i64 (by_.tmod 100), .int .i64 RE] 3)) (w2.heap.size) #[.int .i64 MP.n.x, .int .i64 MP.n.y, .int .i64 MP.n.z, .int .i64 MP.b] := (by repeat' (first | ((refine Own.new ?_); (focus (first | rfl | omega | (simp; done) | (simp; omega)))) | assumption | refine Own.alloc ?_ _ | refine Own.drew ?_ | (refine Own.far ?_ ?_ _; rotate_left; (focus (first | rfl | omega | (simp; done) | (simp; omega))))))
          clear o12c o12f o12z
          replace o13 : Own (w6.alloc (.cells #[.int .i64 by_, .int .i64 (by_.tmod 100), .int .i64 RE] 3)) (w3.heap.size) #[.int .i64 OP.n.x, .int .i64 OP.n.y, .int .i64 OP.n.z, .int .i64 OP.b] := (by repeat' (first | ((refine Own.new ?_); (focus (first | rfl | omega | (simp; done) | (simp; omega)))) | assumption | refine Own.alloc ?_ _ | refine Own.drew ?_ | (refine Own.far ?_ ?_ _; rotate_left; (focus (first | rfl | omega | (simp; done) | (simp; omega))))))
          clear o13c o13f o13z
          replace o14 : Own (w6.alloc (.cells #[.int .i64 by_, .int .i64 (by_.tmod 100), .int .i64 RE] 3)) (w4.heap.size) #[.int .i64 s0, .int .i64 s1, .int .i64 s2] := (by repeat' (first | ((refine Own.new ?_); (focus (first | rfl | omega | (simp; done) | (simp; omega)))) | assumption | refine Own.alloc ?_ _ | refine Own.drew ?_ | (refine Own.far ?_ ?_ _; rotate_left; (focus (first | rfl | omega | (simp; done) | (simp; omega))))))
          clear o14c o14f o14z
          replace os : Own (w6.alloc (.cells #[.int .i64 by_, .int .i64 (by_.tmod 100), .int .i64 RE] 3)) (w4.heap.size + 1) ck := (by repeat' (first | ((refine Own.new ?_); (focus (first | rfl | omega | (simp; done) | (simp; omega)))) | assumption | refine Own.alloc ?_ _ | refine Own.drew ?_ | (refine Own.far ?_ ?_ _; rotate_left; (focus (first | rfl | omega | (simp; done) | (simp; omega))))))
          clear osc osf osz
          replace ox : Own (w6.alloc (.cells #[.int .i64 by_, .int .i64 (by_.tmod 100), .int .i64 RE] 3)) (oxb) #[.int .i64 n0, .int .i64 n1, .int .i64 n2, .int .i64 n3] := (by repeat' (first | ((refine Own.new ?_); (focus (first | rfl | omega | (simp; done) | (simp; omega)))) | assumption | refine Own.alloc ?_ _ | refine Own.drew ?_ | (refine Own.far ?_ ?_ _; rotate_left; (focus (first | rfl | omega | (simp; done) | (simp; omega))))))
          clear oxc oxf oxz
          replace hw : Below w.heap.size w (w6.alloc (.cells #[.int .i64 by_, .int .i64 (by_.tmod 100), .int .i64 RE] 3)) := (by repeat' (first | exact Below.refl _ _ | assumption | (refine Below.alloc ?_ ?_ _; rotate_left; (focus (first | rfl | omega | (simp; done) | (simp; omega)))) | (refine Below.setCell ?_ ?_ _; rotate_left; (focus (first | rfl | omega | (simp; done) | (simp; omega)))) | refine Below.drew ?_))
          generalize w6.alloc (.cells #[.int .i64 by_, .int .i64 (by_.tmod 100), .int .i64 RE] 3) = w7 at *
          have o6c := o6.cell
          have o6f := o6.thaw
          have o6z := o6.lt
          have o7c := o7.cell
          have o7f := o7.thaw
          have o7z := o7.lt
          have o12c := o12.cell
          have o12f := o12.thaw
          have o12z := o12.lt
          have o13c := o13.cell
          have o13f := o13.thaw
          have o13z := o13.lt
          have o14c := o14.cell
          have o14f := o14.thaw
          have o14z := o14.lt
          have osc := os.cell
          have osf := os.thaw
          have osz := os.lt
          have oxc := ox.cell
          have oxf := ox.thaw
          have oxz := ox.lt
          have onc := on.cell
          have onf := on.thaw
          have onz := on.lt
          replace hz := hw.size
          obtain ⟨cn, hcn, hni⟩ : ∃ cn : Array Value, Own w7 (w6.heap.size) cn ∧ ∀ i, i < 3 → ∃ m, cn[i]? = some (.int .i64 m) := ⟨_, on, fun i hi => rowAny [by_, by_.tmod 100, RE] i hi⟩
          have HNI := Lib.hid hni
          clear hni on onc onf onz
          have on := hcn
          clear hcn
          have onc := on.cell
          have onf := on.thaw
          have onz := on.lt
          go_loopw [98] (fun i wr => ∃ k2 : Nat, k2 ≤ 3 ∧ i = .int .i64 k2 ∧ Below w.heap.size w wr ∧ Own wr (w.heap.size) #[.int .i64 r0, .int .i64 r1, .int .i64 r2, .int .i64 r3] ∧ Own wr (w.heap.size + 1) #[.int .i64 v0, .int .i64 v1, .int .i64 v2] ∧ Own wr (w2.heap.size) #[.int .i64 MP.n.x, .int .i64 MP.n.y, .int .i64 MP.n.z, .int .i64 MP.b] ∧ Own wr (w3.heap.size) #[.int .i64 OP.n.x, .int .i64 OP.n.y, .int .i64 OP.n.z, .int .i64 OP.b] ∧ Own wr (w4.heap.size) #[.int .i64 s0, .int .i64 s1, .int .i64 s2] ∧ Own wr (w4.heap.size + 1) ck ∧ Own wr (oxb) #[.int .i64 n0, .int .i64 n1, .int .i64 n2, .int .i64 n3] ∧ Own wr (w6.heap.size) cn) (fun i _ => 3 - (intOf i).toNat)
          case atStart => exact ⟨0, by omega, rfl, hw, o6, o7, o12, o13, o14, os, ox, on⟩
          case round =>
            clear hw hz o6 o6c o6f o6z o7 o7c o7f o7z o12 o12c o12f o12z o13 o13c o13f o13z o14 o14c o14f o14z os osc osf osz ox oxc oxf oxz on onc onf onz
            obtain ⟨k2, hk, rfl, hw, o6, o7, o12, o13, o14, os, ox, on⟩ := hrel
            have hz := hw.size
            have o6c := o6.cell
            have o6f := o6.thaw
            have o6z := o6.lt
            have o7c := o7.cell
            have o7f := o7.thaw
            have o7z := o7.lt
            have o12c := o12.cell
            have o12f := o12.thaw
            have o12z := o12.lt
            have o13c := o13.cell
            have o13f := o13.thaw
            have o13z := o13.lt
            have o14c := o14.cell
            have o14f := o14.thaw
            have o14z := o14.lt
            have osc := os.cell
            have osf := os.thaw
            have osz := os.lt
            have oxc := ox.cell
            have oxf := ox.thaw
            have oxz := ox.lt
            have onc := on.cell
            have onf := on.thaw
            have onz := on.lt
            by_cases hlt : k2 < 3
            · have hlt2 : (k2 : Int) < 3 := by omega
              obtain ⟨m, hm⟩ := HNI.out k2 hlt
              have c1 := plane_Push n0 n1 n2 n3 m I0.out I1.out I2.out
              have c2 := ref7_Push n0 n1 n2 n3 m I0.out I1.out I2.out
              generalize pPush ⟨⟨n0, n1, n2⟩, n3⟩ m = PP at c1 c2
              generalize okPush ⟨⟨n0, n1, n2⟩, n3⟩ m = PO at c1 c2
              have C1 := Lib.hid c1
              have C2 := Lib.hid c2
              clear c1 c2
              go_wp2_with fail
              refine Calls.mono (C1.out _) ?_
              rintro e w8 ⟨rfl, hbx⟩
              replace o6 : Own w8 (w.heap.size) #[.int .i64 r0, .int .i64 r1, .int .i64 r2, .int .i64 r3] := Own.below (by repeat' (first | ((refine Own.new ?_); (focus (first | rfl | omega | (simp; done) | (simp; omega)))) | assumption | refine Own.alloc ?_ _ | refine Own.drew ?_ | (refine Own.far ?_ ?_ _; rotate_left; (focus (first | rfl | omega | (simp; done) | (simp; omega)))))) hbx
              replace o6c := o6.cell
              replace o6f := o6.thaw
              replace o6z := o6.lt
              replace o7 : Own w8 (w.heap.size + 1) #[.int .i64 v0, .int .i64 v1, .int .i64 v2] := Own.below (by repeat' (first | ((refine Own.new ?_); (focus (first | rfl | omega | (simp; done) | (simp; omega)))) | assumption | refine Own.alloc ?_ _ | refine Own.drew ?_ | (refine Own.far ?_ ?_ _; rotate_left; (focus (first | rfl | omega | (simp; done) | (simp; omega)))))) hbx
              replace o7c := o7.cell
              replace o7f := o7.thaw
              replace o7z := o7.lt
              replace o12 : Own w8 (w2.heap.size) #[.int .i64 MP.n.x, .int .i64 MP.n.y, .int .i64 MP.n.z, .int .i64 MP.b] := Own.below (by repeat' (first | ((refine Own.new ?_); (focus (first | rfl | omega | (simp; done) | (simp; omega)))) | assumption | refine Own.alloc ?_ _ | refine Own.drew ?_ | (refine Own.far ?_ ?_ _; rotate_left; (focus (first | rfl | omega | (simp; done) | (simp; omega)))))) hbx
              replace o12c := o12.cell
              replace o12f := o12.thaw
              replace o12z := o12.lt
              replace o13 : Own w8 (w3.heap.size) #[.int .i64 OP.n.x, .int .i64 OP.n.y, .int .i64 OP.n.z, .int .i64 OP.b] := Own.below (by repeat' (first | ((refine Own.new ?_); (focus (first | rfl | omega | (simp; done) | (simp; omega)))) | assumption | refine Own.alloc ?_ _ | refine Own.drew ?_ | (refine Own.far ?_ ?_ _; rotate_left; (focus (first | rfl | omega | (simp; done) | (simp; omega)))))) hbx
              replace o13c := o13.cell
              replace o13f := o13.thaw
              replace o13z := o13.lt
              replace o14 : Own w8 (w4.heap.size) #[.int .i64 s0, .int .i64 s1, .int .i64 s2] := Own.below (by repeat' (first | ((refine Own.new ?_); (focus (first | rfl | omega | (simp; done) | (simp; omega)))) | assumption | refine Own.alloc ?_ _ | refine Own.drew ?_ | (refine Own.far ?_ ?_ _; rotate_left; (focus (first | rfl | omega | (simp; done) | (simp; omega)))))) hbx
              replace o14c := o14.cell
              replace o14f := o14.thaw
              replace o14z := o14.lt
              replace os : Own w8 (w4.heap.size + 1) ck := Own.below (by repeat' (first | ((refine Own.new ?_); (focus (first | rfl | omega | (simp; done) | (simp; omega)))) | assumption | refine Own.alloc ?_ _ | refine Own.drew ?_ | (refine Own.far ?_ ?_ _; rotate_left; (focus (first | rfl | omega | (simp; done) | (simp; omega)))))) hbx
              replace osc := os.cell
              replace osf := os.thaw
              replace osz := os.lt
              replace ox : Own w8 (oxb) #[.int .i64 n0, .int .i64 n1, .int .i64 n2, .int .i64 n3] := Own.below (by repeat' (first | ((refine Own.new ?_); (focus (first | rfl | omega | (simp; done) | (simp; omega)))) | assumption | refine Own.alloc ?_ _ | refine Own.drew ?_ | (refine Own.far ?_ ?_ _; rotate_left; (focus (first | rfl | omega | (simp; done) | (simp; omega)))))) hbx
              replace oxc := ox.cell
              replace oxf := ox.thaw
              replace oxz := ox.lt
              replace on : Own w8 (w6.heap.size) cn := Own.below (by repeat' (first | ((refine Own.new ?_); (focus (first | rfl | omega | (simp; done) | (simp; omega)))) | assumption | refine Own.alloc ?_ _ | refine Own.drew ?_ | (refine Own.far ?_ ?_ _; rotate_left; (focus (first | rfl | omega | (simp; done) | (simp; omega)))))) hbx
              replace onc := on.cell
              replace onf := on.thaw
              replace onz := on.lt
              replace hw : Below w.heap.size w w8 := Below.hop (by repeat' (first | exact Below.refl _ _ | assumption | (refine Below.alloc ?_ ?_ _; rotate_left; (focus (first | rfl | omega | (simp; done) | (simp; omega)))) | (refine Below.setCell ?_ ?_ _; rotate_left; (focus (first | rfl | omega | (simp; done) | (simp; omega)))) | refine Below.drew ?_)) hbx
              replace hz := hw.size
              clear hbx
              clear hm
              go_wp2_with fail
              refine Calls.mono (C2.out _) ?_
              rintro e w9 ⟨rfl, hbx⟩
              have oa : Own w9 (w8.heap.size) #[.int .i64 PP.n.x, .int .i64 PP.n.y, .int .i64 PP.n.z, .int .i64 PP.b] := Own.below (by repeat' (first | ((refine Own.new ?_); (focus (first | rfl | omega | (simp; done) | (simp; omega)))) | assumption | refine Own.alloc ?_ _ | refine Own.drew ?_ | (refine Own.far ?_ ?_ _; rotate_left; (focus (first | rfl | omega | (simp; done) | (simp; omega)))))) hbx
              have oac := oa.cell
              have oaf := oa.thaw
              have oaz := oa.lt
              replace o6 : Own w9 (w.heap.size) #[.int .i64 r0, .int .i64 r1, .int .i64 r2, .int .i64 r3] := Own.below (by repeat' (first | ((refine Own.new ?_); (focus (first | rfl | omega | (simp; done) | (simp; omega)))) | assumption | refine Own.alloc ?_ _ | refine Own.drew ?_ | (refine Own.far ?_ ?_ _; rotate_left; (focus (first | rfl | omega | (simp; done) | (simp; omega)))))) hbx
              replace o6c := o6.cell
              replace o6f := o6.thaw
              replace o6z := o6.lt
              replace o7 : Own w9 (w.heap.size + 1) #[.int .i64 v0, .int .i64 v1, .int .i64 v2] := Own.below (by repeat' (first | ((refine Own.new ?_); (focus (first | rfl | omega | (simp; done) | (simp; omega)))) | assumption | refine Own.alloc ?_ _ | refine Own.drew ?_ | (refine Own.far ?_ ?_ _; rotate_left; (focus (first | rfl | omega | (simp; done) | (simp; omega)))))) hbx
              replace o7c := o7.cell
              replace o7f := o7.thaw
              replace o7z := o7.lt
              replace o12 : Own w9 (w2.heap.size) #[.int .i64 MP.n.x, .int .i64 MP.n.y, .int .i64 MP.n.z, .int .i64 MP.b] := Own.below (by repeat' (first | ((refine Own.new ?_); (focus (first | rfl | omega | (simp; done) | (simp; omega)))) | assumption | refine Own.alloc ?_ _ | refine Own.drew ?_ | (refine Own.far ?_ ?_ _; rotate_left; (focus (first | rfl | omega | (simp; done) | (simp; omega)))))) hbx
              replace o12c := o12.cell
              replace o12f := o12.thaw
              replace o12z := o12.lt
              replace o13 : Own w9 (w3.heap.size) #[.int .i64 OP.n.x, .int .i64 OP.n.y, .int .i64 OP.n.z, .int .i64 OP.b] := Own.below (by repeat' (first | ((refine Own.new ?_); (focus (first | rfl | omega | (simp; done) | (simp; omega)))) | assumption | refine Own.alloc ?_ _ | refine Own.drew ?_ | (refine Own.far ?_ ?_ _; rotate_left; (focus (first | rfl | omega | (simp; done) | (simp; omega)))))) hbx
              replace o13c := o13.cell
              replace o13f := o13.thaw
              replace o13z := o13.lt
              replace o14 : Own w9 (w4.heap.size) #[.int .i64 s0, .int .i64 s1, .int .i64 s2] := Own.below (by repeat' (first | ((refine Own.new ?_); (focus (first | rfl | omega | (simp; done) | (simp; omega)))) | assumption | refine Own.alloc ?_ _ | refine Own.drew ?_ | (refine Own.far ?_ ?_ _; rotate_left; (focus (first | rfl | omega | (simp; done) | (simp; omega)))))) hbx
              replace o14c := o14.cell
              replace o14f := o14.thaw
              replace o14z := o14.lt
              replace os : Own w9 (w4.heap.size + 1) ck := Own.below (by repeat' (first | ((refine Own.new ?_); (focus (first | rfl | omega | (simp; done) | (simp; omega)))) | assumption | refine Own.alloc ?_ _ | refine Own.drew ?_ | (refine Own.far ?_ ?_ _; rotate_left; (focus (first | rfl | omega | (simp; done) | (simp; omega)))))) hbx
              replace osc := os.cell
              replace osf := os.thaw
              replace osz := os.lt
              replace ox : Own w9 (oxb) #[.int .i64 n0, .int .i64 n1, .int .i64 n2, .int .i64 n3] := Own.below (by repeat' (first | ((refine Own.new ?_); (focus (first | rfl | omega | (simp; done) | (simp; omega)))) | assumption | refine Own.alloc ?_ _ | refine Own.drew ?_ | (refine Own.far ?_ ?_ _; rotate_left; (focus (first | rfl | omega | (simp; done) | (simp; omega)))))) hbx
              replace oxc := ox.cell
              replace oxf := ox.thaw
              replace oxz := ox.lt
              replace on : Own w9 (w6.heap.size) cn := Own.below (by repeat' (first | ((refine Own.new ?_); (focus (first | rfl | omega | (simp; done) | (simp; omega)))) | assumption | refine Own.alloc ?_ _ | refine Own.drew ?_ | (refine Own.far ?_ ?_ _; rotate_left; (focus (first | rfl | omega | (simp; done) | (simp; omega)))))) hbx
              replace onc := on.cell
              replace onf := on.thaw
              replace onz := on.lt
              replace hw : Below w.heap.size w w9 := Below.hop (by repeat' (first | exact Below.refl _ _ | assumption | (refine Below.alloc ?_ ?_ _; rotate_left; (focus (first | rfl | omega | (simp; done) | (simp; omega)))) | (refine Below.setCell ?_ ?_ _; rotate_left; (focus (first | rfl | omega | (simp; done) | (simp; omega)))) | refine Below.drew ?_)) hbx
              replace hz := hw.size
              clear hbx
              go_wp2
              replace o6 : Own (w9.alloc (.cells #[.int .i64 PP.n.x, .int .i64 PP.n.y, .int .i64 PP.n.z, .int .i64 PP.b] 32)) (w.heap.size) #[.int .i64 r0, .int .i64 r1, .int .i64 r2, .int .i64 r3] := (by repeat' (first | ((refine Own.new ?_); (focus (first | rfl | omega | (simp; done) | (simp; omega)))) | assumption | refine Own.alloc ?_ _ | refine Own.drew ?_ | (refine Own.far ?_ ?_ _; rotate_left; (focus (first | rfl | omega | (simp; done) | (simp; omega))))))
              clear o6c o6f o6z
              replace o7 : Own (w9.alloc (.cells #[.int .i64 PP.n.x, .int .i64 PP.n.y, .int .i64 PP.n.z, .int .i64 PP.b] 32)) (w.heap.size + 1) #[.int .i64 v0, .int .i64 v1, .int .i64 v2] := (by repeat' (first | ((refine Own.new ?_); (focus (first | rfl | omega | (simp; done) | (simp; omega)))) | assumption | refine Own.alloc ?_ _ | refine Own.drew ?_ | (refine Own.far ?_ ?_ _; rotate_left; (focus (first | rfl | omega | (simp; done) | (simp; omega))))))
              clear o7c o7f o7z
              replace o12 : Own (w9.alloc (.cells #[.int .i64 PP.n.x, .int .i64 PP.n.y, .int .i64 PP.n.z, .int .i64 PP.b] 32)) (w2.heap.size) #[.int .i64 MP.n.x, .int .i64 MP.n.y, .int .i64 MP.n.z, .int .i64 MP.b] := (by repeat' (first | ((refine Own.new ?_); (focus (first | rfl | omega | (simp; done) | (simp; omega)))) | assumption | refine Own.alloc ?_ _ | refine Own.drew ?_ | (refine Own.far ?_ ?_ _; rotate_left; (focus (first | rfl | omega | (simp; done) | (simp; omega))))))
              clear o12c o12f o12z
              replace o13 : Own (w9.alloc (.cells #[.int .i64 PP.n.x, .int .i64 PP.n.y, .int .i64 PP.n.z, .int .i64 PP.b] 32)) (w3.heap.size) #[.int .i64 OP.n.x, .int .i64 OP.n.y, .int .i64 OP.n.z, .int .i64 OP.b] := (by repeat' (first | ((refine Own.new ?_); (focus (first | rfl | omega | (simp; done) | (simp; omega)))) | assumption | refine Own.alloc ?_ _ | refine Own.drew ?_ | (refine Own.far ?_ ?_ _; rotate_left; (focus (first | rfl | omega | (simp; done) | (simp; omega))))))
              clear o13c o13f o13z
              replace o14 : Own (w9.alloc (.cells #[.int .i64 PP.n.x, .int .i64 PP.n.y, .int .i64 PP.n.z, .int .i64 PP.b] 32)) (w4.heap.size) #[.int .i64 s0, .int .i64 s1, .int .i64 s2] := (by repeat' (first | ((refine Own.new ?_); (focus (first | rfl | omega | (simp; done) | (simp; omega)))) | assumption | refine Own.alloc ?_ _ | refine Own.drew ?_ | (refine Own.far ?_ ?_ _; rotate_left; (focus (first | rfl | omega | (simp; done) | (simp; omega))))))
              clear o14c o14f o14z
              replace os : Own (w9.alloc (.cells #[.int .i64 PP.n.x, .int .i64 PP.n.y, .int .i64 PP.n.z, .int .i64 PP.b] 32)) (w4.heap.size + 1) ck := (by repeat' (first | ((refine Own.new ?_); (focus (first | rfl | omega | (simp; done) | (simp; omega)))) | assumption | refine Own.alloc ?_ _ | refine Own.drew ?_ | (refine Own.far ?_ ?_ _; rotate_left; (focus (first | rfl | omega | (simp; done) | (simp; omega))))))
              clear osc osf osz
              replace ox : Own (w9.alloc (.cells #[.int .i64 PP.n.x, .int .i64 PP.n.y, .int .i64 PP.n.z, .int .i64 PP.b] 32)) (oxb) #[.int .i64 n0, .int .i64 n1, .int .i64 n2, .int .i64 n3] := (by repeat' (first | ((refine Own.new ?_); (focus (first | rfl | omega | (simp; done) | (simp; omega)))) | assumption | refine Own.alloc ?_ _ | refine Own.drew ?_ | (refine Own.far ?_ ?_ _; rotate_left; (focus (first | rfl | omega | (simp; done) | (simp; omega))))))
              clear oxc oxf oxz
              replace on : Own (w9.alloc (.cells #[.int .i64 PP.n.x, .int .i64 PP.n.y, .int .i64 PP.n.z, .int .i64 PP.b] 32)) (w6.heap.size) cn := (by repeat' (first | ((refine Own.new ?_); (focus (first | rfl | omega | (simp; done) | (simp; omega)))) | assumption | refine Own.alloc ?_ _ | refine Own.drew ?_ | (refine Own.far ?_ ?_ _; rotate_left; (focus (first | rfl | omega | (simp; done) | (simp; omega))))))
              clear onc onf onz
              replace oa : Own (w9.alloc (.cells #[.int .i64 PP.n.x, .int .i64 PP.n.y, .int .i64 PP.n.z, .int .i64 PP.b] 32)) (w8.heap.size) #[.int .i64 PP.n.x, .int .i64 PP.n.y, .int .i64 PP.n.z, .int .i64 PP.b] := (by repeat' (first | ((refine Own.new ?_); (focus (first | rfl | omega | (simp; done) | (simp; omega)))) | assumption | refine Own.alloc ?_ _ | refine Own.drew ?_ | (refine Own.far ?_ ?_ _; rotate_left; (focus (first | rfl | omega | (simp; done) | (simp; omega))))))
              clear oac oaf oaz
              replace hw : Below w.heap.size w (w9.alloc (.cells #[.int .i64 PP.n.x, .int .i64 PP.n.y, .int .i64 PP.n.z, .int .i64 PP.b] 32)) := (by repeat' (first | exact Below.refl _ _ | assumption | (refine Below.alloc ?_ ?_ _; rotate_left; (focus (first | rfl | omega | (simp; done) | (simp; omega)))) | (refine Below.setCell ?_ ?_ _; rotate_left; (focus (first | rfl | omega | (simp; done) | (simp; omega)))) | refine Below.drew ?_))
              generalize w9.alloc (.cells #[.int .i64 PP.n.x, .int .i64 PP.n.y, .int .i64 PP.n.z, .int .i64 PP.b] 32) = wz at *
              have o6c := o6.cell
              have o6f := o6.thaw
              have o6z := o6.lt
              have o7c := o7.cell
              have o7f := o7.thaw
              have o7z := o7.lt
              have o12c := o12.cell
              have o12f := o12.thaw
              have o12z := o12.lt
              have o13c := o13.cell
              have o13f := o13.thaw
              have o13z := o13.lt
              have o14c := o14.cell
              have o14f := o14.thaw
              have o14z := o14.lt
              have osc := os.cell
              have osf := os.thaw
              have osz := os.lt
              have oxc := ox.cell
              have oxf := ox.thaw
              have oxz := ox.lt
              have onc := on.cell
              have onf := on.thaw
              have onz := on.lt
              have oac := oa.cell
              have oaf := oa.thaw
              have oaz := oa.lt
              replace hz := hw.size
              clear oac oaf oaz oa
              go_roundw
              case rel => exact ⟨k2 + 1, by omega, by go_num, hw, o6, o7, o12, o13, o14, os, ox, on⟩
              case measure => simp [intOf]; omega
            · obtain rfl : k2 = 3 := by omega
              go_wp2
              clear onc onf onz on
              have oc : Own (wr.alloc (.cells #[.int .i64 MP.n.x, .int .i64 MP.n.y, .int .i64 MP.n.z, .int .i64 MP.b, .int .i64 r0, .int .i64 r1, .int .i64 r2, .int .i64 r3, .int .i64 OP.n.x, .int .i64 OP.n.y, .int .i64 OP.n.z, .int .i64 OP.b] 32)) (wr.heap.size) #[.int .i64 MP.n.x, .int .i64 MP.n.y, .int .i64 MP.n.z, .int .i64 MP.b, .int .i64 r0, .int .i64 r1, .int .i64 r2, .int .i64 r3, .int .i64 OP.n.x, .int .i64 OP.n.y, .int .i64 OP.n.z, .int .i64 OP.b] := Own.new rfl
              replace o6 : Own (wr.alloc (.cells #[.int .i64 MP.n.x, .int .i64 MP.n.y, .int .i64 MP.n.z, .int .i64 MP.b, .int .i64 r0, .int .i64 r1, .int .i64 r2, .int .i64 r3, .int .i64 OP.n.x, .int .i64 OP.n.y, .int .i64 OP.n.z, .int .i64 OP.b] 32)) (w.heap.size) #[.int .i64 r0, .int .i64 r1, .int .i64 r2, .int .i64 r3] := (by repeat' (first | ((refine Own.new ?_); (focus (first | rfl | omega | (simp; done) | (simp; omega)))) | assumption | refine Own.alloc ?_ _ | refine Own.drew ?_ | (refine Own.far ?_ ?_ _; rotate_left; (focus (first | rfl | omega | (simp; done) | (simp; omega))))))
              clear o6c o6f o6z
              replace o7 : Own (wr.alloc (.cells #[.int .i64 MP.n.x, .int .i64 MP.n.y, .int .i64 MP.n.z, .int .i64 MP.b, .int .i64 r0, .int .i64 r1, .int .i64 r2, .int .i64 r3, .int .i64 OP.n.x, .int .i64 OP.n.y, .int .i64 OP.n.z, .int .i64 OP.b] 32)) (w.heap.size + 1) #[.int .i64 v0, .int .i64 v1, .int .i64 v2] := (by repeat' (first | ((refine Own.new ?_); (focus (first | rfl | omega | (simp; done) | (simp; omega)))) | assumption | refine Own.alloc ?_ _ | refine Own.drew ?_ | (refine Own.far ?_ ?_ _; rotate_left; (focus (first | rfl | omega | (simp; done) | (simp; omega))))))
              clear o7c o7f o7z
              replace o12 : Own (wr.alloc (.cells #[.int .i64 MP.n.x, .int .i64 MP.n.y, .int .i64 MP.n.z, .int .i64 MP.b, .int .i64 r0, .int .i64 r1, .int .i64 r2, .int .i64 r3, .int .i64 OP.n.x, .int .i64 OP.n.y, .int .i64 OP.n.z, .int .i64 OP.b] 32)) (w2.heap.size) #[.int .i64 MP.n.x, .int .i64 MP.n.y, .int .i64 MP.n.z, .int .i64 MP.b] := (by repeat' (first | ((refine Own.new ?_); (focus (first | rfl | omega | (simp; done) | (simp; omega)))) | assumption | refine Own.alloc ?_ _ | refine Own.drew ?_ | (refine Own.far ?_ ?_ _; rotate_left; (focus (first | rfl | omega | (simp; done) | (simp; omega))))))
              clear o12c o12f o12z
              replace o13 : Own (wr.alloc (.cells #[.int .i64 MP.n.x, .int .i64 MP.n.y, .int .i64 MP.n.z, .int .i64 MP.b, .int .i64 r0, .int .i64 r1, .int .i64 r2, .int .i64 r3, .int .i64 OP.n.x, .int .i64 OP.n.y, .int .i64 OP.n.z, .int .i64 OP.b] 32)) (w3.heap.size) #[.int .i64 OP.n.x, .int .i64 OP.n.y, .int .i64 OP.n.z, .int .i64 OP.b] := (by repeat' (first | ((refine Own.new ?_); (focus (first | rfl | omega | (simp; done) | (simp; omega)))) | assumption | refine Own.alloc ?_ _ | refine Own.drew ?_ | (refine Own.far ?_ ?_ _; rotate_left; (focus (first | rfl | omega | (simp; done) | (simp; omega))))))
              clear o13c o13f o13z
              replace o14 : Own (wr.alloc (.cells #[.int .i64 MP.n.x, .int .i64 MP.n.y, .int .i64 MP.n.z, .int .i64 MP.b, .int .i64 r0, .int .i64 r1, .int .i64 r2, .int .i64 r3, .int .i64 OP.n.x, .int .i64 OP.n.y, .int .i64 OP.n.z, .int .i64 OP.b] 32)) (w4.heap.size) #[.int .i64 s0, .int .i64 s1, .int .i64 s2] := (by repeat' (first | ((refine Own.new ?_); (focus (first | rfl | omega | (simp; done) | (simp; omega)))) | assumption | refine Own.alloc ?_ _ | refine Own.drew ?_ | (refine Own.far ?_ ?_ _; rotate_left; (focus (first | rfl | omega | (simp; done) | (simp; omega))))))
              clear o14c o14f o14z
              replace os : Own (wr.alloc (.cells #[.int .i64 MP.n.x, .int .i64 MP.n.y, .int .i64 MP.n.z, .int .i64 MP.b, .int .i64 r0, .int .i64 r1, .int .i64 r2, .int .i64 r3, .int .i64 OP.n.x, .int .i64 OP.n.y, .int .i64 OP.n.z, .int .i64 OP.b] 32)) (w4.heap.size + 1) ck := (by repeat' (first | ((refine Own.new ?_); (focus (first | rfl | omega | (simp; done) | (simp; omega)))) | assumption | refine Own.alloc ?_ _ | refine Own.drew ?_ | (refine Own.far ?_ ?_ _; rotate_left; (focus (first | rfl | omega | (simp; done) | (simp; omega))))))
              clear osc osf osz
              replace ox : Own (wr.alloc (.cells #[.int .i64 MP.n.x, .int .i64 MP.n.y, .int .i64 MP.n.z, .int .i64 MP.b, .int .i64 r0, .int .i64 r1, .int .i64 r2, .int .i64 r3, .int .i64 OP.n.x, .int .i64 OP.n.y, .int .i64 OP.n.z, .int .i64 OP.b] 32)) (oxb) #[.int .i64 n0, .int .i64 n1, .int .i64 n2, .int .i64 n3] := (by repeat' (first | ((refine Own.new ?_); (focus (first | rfl | omega | (simp; done) | (simp; omega)))) | assumption | refine Own.alloc ?_ _ | refine Own.drew ?_ | (refine Own.far ?_ ?_ _; rotate_left; (focus (first | rfl | omega | (simp; done) | (simp; omega))))))
              clear oxc oxf oxz
              replace hw : Below w.heap.size w (wr.alloc (.cells #[.int .i64 MP.n.x, .int .i64 MP.n.y, .int .i64 MP.n.z, .int .i64 MP.b, .int .i64 r0, .int .i64 r1, .int .i64 r2, .int .i64 r3, .int .i64 OP.n.x, .int .i64 OP.n.y, .int .i64 OP.n.z, .int .i64 OP.b] 32)) := (by repeat' (first | exact Below.refl _ _ | assumption | (refine Below.alloc ?_ ?_ _; rotate_left; (focus (first | rfl | omega | (simp; done) | (simp; omega)))) | (refine Below.setCell ?_ ?_ _; rotate_left; (focus (first | rfl | omega | (simp; done) | (simp; omega)))) | refine Below.drew ?_))
              generalize wr.alloc (.cells #[.int .i64 MP.n.x, .int .i64 MP.n.y, .int .i64 MP.n.z, .int .i64 MP.b, .int .i64 r0, .int .i64 r1, .int .i64 r2, .int .i64 r3, .int .i64 OP.n.x, .int .i64 OP.n.y, .int .i64 OP.n.z, .int .i64 OP.b] 32) = w7b at *
              have o6c := o6.cell
              have o6f := o6.thaw
              have o6z := o6.lt
              have o7c := o7.cell
              have o7f := o7.thaw
              have o7z := o7.lt
              have o12c := o12.cell
              have o12f := o12.thaw
              have o12z := o12.lt
              have o13c := o13.cell
              have o13f := o13.thaw
              have o13z := o13.lt
              have o14c := o14.cell
              have o14f := o14.thaw
              have o14z := o14.lt
              have osc := os.cell
              have osf := os.thaw
              have osz := os.lt
              have oxc := ox.cell
              have oxf := ox.thaw
              have oxz := ox.lt
              have occ := oc.cell
              have ocf := oc.thaw
              have ocz := oc.lt
              replace hz := hw.size
              obtain ⟨cc, hcc, hci⟩ : ∃ cc : Array Value, Own w7b wr.heap.size cc ∧ ∀ i, i < 12 → ∃ m, cc[i]? = some (.int .i64 m) := ⟨_, oc, fun i hi => rowAny [MP.n.x, MP.n.y, MP.n.z, MP.b, r0, r1, r2, r3, OP.n.x, OP.n.y, OP.n.z, OP.b] i hi⟩
              have HCC := Lib.hid hci
              clear hci oc occ ocf ocz
              have oc := hcc
              clear hcc
              generalize wr.heap.size = ocb at *
              have occ := oc.cell
              have ocf := oc.thaw
              have ocz := oc.lt
              go_loopw [128] (fun i wr => ∃ k3 : Nat, k3 ≤ 3 ∧ i = .int .i64 k3 ∧ Below w.heap.size w wr ∧ Own wr (w.heap.size) #[.int .i64 r0, .int .i64 r1, .int .i64 r2, .int .i64 r3] ∧ Own wr (w.heap.size + 1) #[.int .i64 v0, .int .i64 v1, .int .i64 v2] ∧ Own wr (w2.heap.size) #[.int .i64 MP.n.x, .int .i64 MP.n.y, .int .i64 MP.n.z, .int .i64 MP.b] ∧ Own wr (w3.heap.size) #[.int .i64 OP.n.x, .int .i64 OP.n.y, .int .i64 OP.n.z, .int .i64 OP.b] ∧ Own wr (w4.heap.size) #[.int .i64 s0, .int .i64 s1, .int .i64 s2] ∧ Own wr (w4.heap.size + 1) ck ∧ Own wr (oxb) #[.int .i64 n0, .int .i64 n1, .int .i64 n2, .int .i64 n3] ∧ Own wr (ocb) cc) (fun i _ => 3 - (intOf i).toNat)
              case atStart => exact ⟨0, by omega, rfl, hw, o6, o7, o12, o13, o14, os, ox, oc⟩
              case round =>
                clear hw hz o6 o6c o6f o6z o7 o7c o7f o7z o12 o12c o12f o12z o13 o13c o13f o13z o14 o14c o14f o14z os osc osf osz ox oxc oxf oxz oc occ ocf ocz
                obtain ⟨k3, hk, rfl, hw, o6, o7, o12, o13, o14, os, ox, oc⟩ := hrel
                have hz := hw.size
                have o6c := o6.cell
                have o6f := o6.thaw
                have o6z := o6.lt
                have o7c := o7.cell
                have o7f := o7.thaw
                have o7z := o7.lt
                have o12c := o12.cell
                have o12f := o12.thaw
                have o12z := o12.lt
                have o13c := o13.cell
                have o13f := o13.thaw
                have o13z := o13.lt
                have o14c := o14.cell
                have o14f := o14.thaw
                have o14z := o14.lt
                have osc := os.cell
                have osf := os.thaw
                have osz := os.lt
                have oxc := ox.cell
                have oxf := ox.thaw
                have oxz := ox.lt
                have occ := oc.cell
                have ocf := oc.thaw
                have ocz := oc.lt
                by_cases hlt : k3 < 3
                · have hlt2 : (k3 : Int) < 3 := by omega
                  obtain ⟨m0, e0⟩ := HCC.out (k3 * 4) (by omega)
                  obtain ⟨m1, e1⟩ := HCC.out (k3 * 4 + 1) (by omega)
                  obtain ⟨m2, e2⟩ := HCC.out (k3 * 4 + 2) (by omega)
                  obtain ⟨m3, e3⟩ := HCC.out (k3 * 4 + 3) (by omega)
                  go_wp2
                  have oy : Own (wr.alloc (.cells #[.int .i64 m0, .int .i64 m1, .int .i64 m2, .int .i64 m3] 32)) (wr.heap.size) #[.int .i64 m0, .int .i64 m1, .int .i64 m2, .int .i64 m3] := Own.new rfl
                  replace o6 : Own (wr.alloc (.cells #[.int .i64 m0, .int .i64 m1, .int .i64 m2, .int .i64 m3] 32)) (w.heap.size) #[.int .i64 r0, .int .i64 r1, .int .i64 r2, .int .i64 r3] := (by repeat' (first | ((refine Own.new ?_); (focus (first | rfl | omega | (simp; done) | (simp; omega)))) | assumption | refine Own.alloc ?_ _ | refine Own.drew ?_ | (refine Own.far ?_ ?_ _; rotate_left; (focus (first | rfl | omega | (simp; done) | (simp; omega))))))
                  clear o6c o6f o6z
                  replace o7 : Own (wr.alloc (.cells #[.int .i64 m0, .int .i64 m1, .int .i64 m2, .int .i64 m3] 32)) (w.heap.size + 1) #[.int .i64 v0, .int .i64 v1, .int .i64 v2] := (by repeat' (first | ((refine Own.new ?_); (focus (first | rfl | omega | (simp; done) | (simp; omega)))) | assumption | refine Own.alloc ?_ _ | refine Own.drew ?_ | (refine Own.far ?_ ?_ _; rotate_left; (focus (first | rfl | omega | (simp; done) | (simp; omega))))))
                  clear o7c o7f o7z
                  replace o12 : Own (wr.alloc (.cells #[.int .i64 m0, .int .i64 m1, .int .i64 m2, .int .i64 m3] 32)) (w2.heap.size) #[.int .i64 MP.n.x, .int .i64 MP.n.y, .int .i64 MP.n.z, .int .i64 MP.b] := (by repeat' (first | ((refine Own.new ?_); (focus (first | rfl | omega | (simp; done) | (simp; omega)))) | assumption | refine Own.alloc ?_ _ | refine Own.drew ?_ | (refine Own.far ?_ ?_ _; rotate_left; (focus (first | rfl | omega | (simp; done) | (simp; omega))))))
                  clear o12c o12f o12z
                  replace o13 : Own (wr.alloc (.cells #[.int .i64 m0, .int .i64 m1, .int .i64 m2, .int .i64 m3] 32)) (w3.heap.size) #[.int .i64 OP.n.x, .int .i64 OP.n.y, .int .i64 OP.n.z, .int .i64 OP.b] := (by repeat' (first | ((refine Own.new ?_); (focus (first | rfl | omega | (simp; done) | (simp; omega)))) | assumption | refine Own.alloc ?_ _ | refine Own.drew ?_ | (refine Own.far ?_ ?_ _; rotate_left; (focus (first | rfl | omega | (simp; done) | (simp; omega))))))
                  clear o13c o13f o13z
                  replace o14 : Own (wr.alloc (.cells #[.int .i64 m0, .int .i64 m1, .int .i64 m2, .int .i64 m3] 32)) (w4.heap.size) #[.int .i64 s0, .int .i64 s1, .int .i64 s2] := (by repeat' (first | ((refine Own.new ?_); (focus (first | rfl | omega | (simp; done) | (simp; omega)))) | assumption | refine Own.alloc ?_ _ | refine Own.drew ?_ | (refine Own.far ?_ ?_ _; rotate_left; (focus (first | rfl | omega | (simp; done) | (simp; omega))))))
                  clear o14c o14f o14z
                  replace os : Own (wr.alloc (.cells #[.int .i64 m0, .int .i64 m1, .int .i64 m2, .int .i64 m3] 32)) (w4.heap.size + 1) ck := (by repeat' (first | ((refine Own.new ?_); (focus (first | rfl | omega | (simp; done) | (simp; omega)))) | assumption | refine Own.alloc ?_ _ | refine Own.drew ?_ | (refine Own.far ?_ ?_ _; rotate_left; (focus (first | rfl | omega | (simp; done) | (simp; omega))))))
                  clear osc osf osz
                  replace ox : Own (wr.alloc (.cells #[.int .i64 m0, .int .i64 m1, .int .i64 m2, .int .i64 m3] 32)) (oxb) #[.int .i64 n0, .int .i64 n1, .int .i64 n2, .int .i64 n3] := (by repeat' (first | ((refine Own.new ?_); (focus (first | rfl | omega | (simp; done) | (simp; omega)))) | assumption | refine Own.alloc ?_ _ | refine Own.drew ?_ | (refine Own.far ?_ ?_ _; rotate_left; (focus (first | rfl | omega | (simp; done) | (simp; omega))))))
                  clear oxc oxf oxz
                  replace oc : Own (wr.alloc (.cells #[.int .i64 m0, .int .i64 m1, .int .i64 m2, .int .i64 m3] 32)) (ocb) cc := (by repeat' (first | ((refine Own.new ?_); (focus (first | rfl | omega | (simp; done) | (simp; omega)))) | assumption | refine Own.alloc ?_ _ | refine Own.drew ?_ | (refine Own.far ?_ ?_ _; rotate_left; (focus (first | rfl | omega | (simp; done) | (simp; omega))))))
                  clear occ ocf ocz
                  replace hw : Below w.heap.size w (wr.alloc (.cells #[.int .i64 m0, .int .i64 m1, .int .i64 m2, .int .i64 m3] 32)) := (by repeat' (first | exact Below.refl _ _ | assumption | (refine Below.alloc ?_ ?_ _; rotate_left; (focus (first | rfl | omega | (simp; done) | (simp; omega)))) | (refine Below.setCell ?_ ?_ _; rotate_left; (focus (first | rfl | omega | (simp; done) | (simp; omega)))) | refine Below.drew ?_))
                  generalize wr.alloc (.cells #[.int .i64 m0, .int .i64 m1, .int .i64 m2, .int .i64 m3] 32) = wq3 at *
                  have o6c := o6.cell
                  have o6f := o6.thaw
                  have o6z := o6.lt
                  have o7c := o7.cell
                  have o7f := o7.thaw
                  have o7z := o7.lt
                  have o12c := o12.cell
                  have o12f := o12.thaw
                  have o12z := o12.lt
                  have o13c := o13.cell
                  have o13f := o13.thaw
                  have o13z := o13.lt
                  have o14c := o14.cell
                  have o14f := o14.thaw
                  have o14z := o14.lt
                  have osc := os.cell
                  have osf := os.thaw
                  have osz := os.lt
                  have oxc := ox.cell
                  have oxf := ox.thaw
                  have oxz := ox.lt
                  have occ := oc.cell
                  have ocf := oc.thaw
                  have ocz := oc.lt
                  have oyc := oy.cell
                  have oyf := oy.thaw
                  have oyz := oy.lt
                  replace hz := hw.size
                  clear e0 e1 e2 e3
                  refine region_late 7 [] (by kernel_rfl) (by kernel_rfl) (by rfl) ?_
                  apply Exists.intro
                  refine ⟨fun v hv hne => ?_, fun uf hu => ?_⟩
                  · simp only [List.take_succ_cons, List.take_zero]
                    have do6 := fun x => (o6.later (v := v) (T := []) (by first | (simp; done) | (simp; omega)) x).cell
                    have do7 := fun x => (o7.later (v := v) (T := []) (by first | (simp; done) | (simp; omega)) x).cell
                    have do12 := fun x => (o12.later (v := v) (T := []) (by first | (simp; done) | (simp; omega)) x).cell
                    have do13 := fun x => (o13.later (v := v) (T := []) (by first | (simp; done) | (simp; omega)) x).cell
                    have do14 := fun x => (o14.later (v := v) (T := []) (by first | (simp; done) | (simp; omega)) x).cell
                    have dos := fun x => (os.later (v := v) (T := []) (by first | (simp; done) | (simp; omega)) x).cell
                    have dox := fun x => (ox.later (v := v) (T := []) (by first | (simp; done) | (simp; omega)) x).cell
                    have doc := fun x => (oc.later (v := v) (T := []) (by first | (simp; done) | (simp; omega)) x).cell
                    have doy := fun x => (oy.later (v := v) (T := []) (by first | (simp; done) | (simp; omega)) x).cell
                    repeat (go_big_quiet_step ((first | (go_at_call 46; with_reducible exact lateB (plane_Compare n0 n1 n2 n3 m0 m1 m2 m3 _)) | (go_at_call 47; with_reducible exact lateB (ref7_Compare n0 n1 n2 n3 m0 m1 m2 m3 _)))))
                    refine wpQuiet_nil ?_
                    exact rfl
                  · simp only [List.drop_succ_cons, List.drop_zero]
                    replace o6 := o6.below hu
                    replace o7 := o7.below hu
                    replace o12 := o12.below hu
                    replace o13 := o13.below hu
                    replace o14 := o14.below hu
                    replace os := os.below hu
                    replace ox := ox.below hu
                    replace oc := oc.below hu
                    replace oy := oy.below hu
                    replace hw := Below.hop hw hu
                    replace hz := hw.size
                    clear hu
                    refine late_nil ?_
                    (try simp only [Act.put, List.setIfInBounds_toArray, List.set_cons_zero, List.set_cons_succ])
                    have o6c := o6.cell
                    have o6f := o6.thaw
                    have o6z := o6.lt
                    have o7c := o7.cell
                    have o7f := o7.thaw
                    have o7z := o7.lt
                    have o12c := o12.cell
                    have o12f := o12.thaw
                    have o12z := o12.lt
                    have o13c := o13.cell
                    have o13f := o13.thaw
                    have o13z := o13.lt
                    have o14c := o14.cell
                    have o14f := o14.thaw
                    have o14z := o14.lt
                    have osc := os.cell
                    have osf := os.thaw
                    have osz := os.lt
                    have oxc := ox.cell
                    have oxf := ox.thaw
                    have oxz := ox.lt
                    have occ := oc.cell
                    have ocf := oc.thaw
                    have ocz := oc.lt
                    have oyc := oy.cell
                    have oyf := oy.thaw
                    have oyz := oy.lt
                    go_wp2
                    go_roundw
                    case rel => exact ⟨k3 + 1, by omega, by go_num, hw, o6, o7, o12, o13, o14, os, ox, oc⟩
                    case measure => simp [intOf]; omega
                · obtain rfl : k3 = 3 := by omega
                  go_wp2
                  go_roundw
                  case rel => exact ⟨k + 1, by omega, by go_num, hw, o6, o7, o12, o13, o14, os⟩
                  case measure => simp [intOf]; omega
      · obtain rfl : k = 4 := by omega
        go_wp2
        go_ret
        exact ⟨rfl, hw⟩
end Go.Proofs.Ythijnggeoinlfaa
