/- What Made of the reference of package plane returns. The slice of numbers holds int64. -/
import Derived.Test.YthijnggeoinlfaaDraw3
import Derived.Test.YthijnggeoinlfaaPlaneU
namespace Go.Proofs.Ythijnggeoinlfaa
open Go.RowKit

def kindV (l : List Int) : Int := nextV l 8
def byV (l : List Int) : Int := nextV l.tail 17 - 8
def threeV (l : List Int) : V3 × V3 × V3 := (vecV l.tail.tail 8, vecV l.tail.tail.tail.tail.tail 8, vecV l.tail.tail.tail.tail.tail.tail.tail.tail 8)
def axisV (k b : Int) : V3 := if b % 3 = 1 then ⟨0, 1 - 2 * (k % 2), 0⟩ else if b % 3 = 2 then ⟨0, 0, 1 - 2 * (k % 2)⟩ else ⟨1 - 2 * (k % 2), 0, 0⟩
def madeV (l : List Int) : Pl :=
  if decide (1 < kindV l) && okThrough (threeV l).1 (threeV l).2.1 (threeV l).2.2 then pThrough (threeV l).1 (threeV l).2.1 (threeV l).2.2 else ⟨axisV (kindV l) (byV l), byV l⟩

set_option maxRecDepth 100000 in
set_option maxHeartbeats 2000000 in
theorem ref7_Made (A : Option Addr) (n cap : Nat) (l : List Int) (w : World) (hl : SliceI w A n l) :
    Calls Try.prog 36 #[.slice A n cap] w fun r w' => r = .returned (madeV l).v ∧ Below w.heap.size w w' := by
  have HL := Lib.hid hl
  clear hl
  obtain ⟨K, hK⟩ : ∃ K, nextV l 8 = K := ⟨_, rfl⟩
  obtain ⟨Q, hQ⟩ : ∃ Q, nextV l.tail 17 = Q := ⟨_, rfl⟩
  have kb := nextV_bd l 8 (by omega)
  have qb := nextV_bd l.tail 17 (by omega)
  rw [hK] at kb
  rw [hQ] at qb
  have HK := Lib.hid hK
  have HQ := Lib.hid hQ
  clear hK hQ
  obtain ⟨MV, hMV⟩ : ∃ MV, madeV l = MV := ⟨_, rfl⟩
  obtain ⟨PT, hPT⟩ : ∃ PT, pThrough (threeV l).1 (threeV l).2.1 (threeV l).2.2 = PT := ⟨_, rfl⟩
  obtain ⟨OT, hOT⟩ : ∃ OT, okThrough (threeV l).1 (threeV l).2.1 (threeV l).2.2 = OT := ⟨_, rfl⟩
  have HT : Hid (Value.tuple #[(pThrough ⟨(vecV l.tail.tail 8).x, (vecV l.tail.tail 8).y, (vecV l.tail.tail 8).z⟩ ⟨(vecV l.tail.tail.tail.tail.tail 8).x, (vecV l.tail.tail.tail.tail.tail 8).y, (vecV l.tail.tail.tail.tail.tail 8).z⟩ ⟨(vecV l.tail.tail.tail.tail.tail.tail.tail.tail 8).x, (vecV l.tail.tail.tail.tail.tail.tail.tail.tail 8).y, (vecV l.tail.tail.tail.tail.tail.tail.tail.tail 8).z⟩).v, .bool (okThrough ⟨(vecV l.tail.tail 8).x, (vecV l.tail.tail 8).y, (vecV l.tail.tail 8).z⟩ ⟨(vecV l.tail.tail.tail.tail.tail 8).x, (vecV l.tail.tail.tail.tail.tail 8).y, (vecV l.tail.tail.tail.tail.tail 8).z⟩ ⟨(vecV l.tail.tail.tail.tail.tail.tail.tail.tail 8).x, (vecV l.tail.tail.tail.tail.tail.tail.tail.tail 8).y, (vecV l.tail.tail.tail.tail.tail.tail.tail.tail 8).z⟩)] = .tuple #[PT.v, .bool OT]) := Lib.hid (show Value.tuple #[(pThrough (threeV l).1 (threeV l).2.1 (threeV l).2.2).v, .bool (okThrough (threeV l).1 (threeV l).2.1 (threeV l).2.2)] = .tuple #[PT.v, .bool OT] by rw [hPT, hOT])
  have HM := Lib.hid (show MV = if decide (1 < K) && OT then PT else ⟨axisV K (Q - 8), Q - 8⟩ by rw [← hMV]; unfold madeV kindV byV; rw [hPT, hOT, HK.out, HQ.out])
  rw [hMV]
  clear hPT hOT hMV
  go_enter Try.func36, Try.ntmps36
  go_wp2_with fail
  have hd0 : DrawAt ((w.alloc (.cells #[.int .i64 0, .int .i64 0, .int .i64 0, .int .i64 0] 32)).alloc (.cells #[.slice A n cap, .int .i64 0] 85)) (w.heap.size + 1) l := by
    have := DrawAt.start (cap := cap) (T := 85) (HL.out.below ((Below.refl _ _).alloc (Nat.le_refl _) (.cells #[.int .i64 0, .int .i64 0, .int .i64 0, .int .i64 0] 32)))
    simpa using this
  have ho0 : Own ((w.alloc (.cells #[.int .i64 0, .int .i64 0, .int .i64 0, .int .i64 0] 32)).alloc (.cells #[.slice A n cap, .int .i64 0] 85)) w.heap.size #[.int .i64 0, .int .i64 0, .int .i64 0, .int .i64 0] := (by repeat' (first | ((refine Own.new ?_); (focus (first | rfl | omega | (simp; done) | (simp; omega)))) | assumption | refine Own.alloc ?_ _ | refine Own.drew ?_ | (refine Own.far ?_ ?_ _; rotate_left; (focus (first | rfl | omega | (simp; done) | (simp; omega))))))
  have hw0 : Below w.heap.size w ((w.alloc (.cells #[.int .i64 0, .int .i64 0, .int .i64 0, .int .i64 0] 32)).alloc (.cells #[.slice A n cap, .int .i64 0] 85)) := (by repeat' (first | exact Below.refl _ _ | assumption | (refine Below.alloc ?_ ?_ _; rotate_left; (focus (first | rfl | omega | (simp; done) | (simp; omega)))) | (refine Below.setCell ?_ ?_ _; rotate_left; (focus (first | rfl | omega | (simp; done) | (simp; omega)))) | refine Below.drew ?_))
  refine Calls.mono (callv (ref1_Next (w.heap.size + 1) l 8 (by omega) (by omega) _ hd0) (congrArg (Value.int IntKind.i64) HK.out)) ?_
  rintro e w1 ⟨rfl, hu, hd⟩
  have D1 := Lib.hid hd
  have B1 := Lib.hid (Upd.below hw0 hu (by simp))
  have O1 := ho0.upd hu (by simp)
  clear hd hu hd0 ho0 hw0
  go_wp2_with fail
  refine Calls.mono (callv (ref1_Next (w.heap.size + 1) l.tail 17 (by omega) (by omega) _ D1.out) (congrArg (Value.int IntKind.i64) HQ.out)) ?_
  rintro e w2 ⟨rfl, hu, hd⟩
  have D2 := Lib.hid hd
  have B2 := Lib.hid (Upd.below B1.out hu (by simp))
  have O2 := O1.upd hu (by simp)
  clear hd hu O1
  go_wp2_with fail
  refine Calls.mono (ref7_Vec (w.heap.size + 1) _ 8 (by omega) (by omega) _ D2.out) ?_
  rintro e w3 ⟨rfl, hu, hd⟩
  have D3 := Lib.hid hd
  have B3 := Lib.hid (Upd.below B2.out hu (by simp))
  have O3 := O2.upd hu (by simp)
  clear hd hu O2
  go_wp2_with fail
  refine Calls.mono (ref7_Vec (w.heap.size + 1) _ 8 (by omega) (by omega) _ D3.out) ?_
  rintro e w4 ⟨rfl, hu, hd⟩
  have D4 := Lib.hid hd
  have B4 := Lib.hid (Upd.below B3.out hu (by simp))
  have O4 := O3.upd hu (by simp)
  clear hd hu O3
  go_wp2_with fail
  refine Calls.mono (ref7_Vec (w.heap.size + 1) _ 8 (by omega) (by omega) _ D4.out) ?_
  rintro e w5 ⟨rfl, hu, hd⟩
  have D5 := Lib.hid hd
  have B5 := Lib.hid (Upd.below B4.out hu (by simp))
  have O5 := O4.upd hu (by simp)
  clear hd hu O4
  go_wp2_with fail
  refine Calls.mono (callv (ref7_Through _ _ _ _ _ _ _ _ _ _) HT.out) ?_
  rintro e w6 ⟨rfl, hb6⟩
  have B6 := Below.hop B5.out hb6
  have z6 := B6.size
  have o6 : Own w6 (w.heap.size) #[.int .i64 0, .int .i64 0, .int .i64 0, .int .i64 0] := Own.below (by repeat' (first | ((refine Own.new ?_); (focus (first | rfl | omega | (simp; done) | (simp; omega)))) | assumption | refine Own.alloc ?_ _ | refine Own.drew ?_ | (refine Own.far ?_ ?_ _; rotate_left; (focus (first | rfl | omega | (simp; done) | (simp; omega)))))) hb6
  have o6c := o6.cell
  have o6f := o6.thaw
  have o6z := o6.lt
  clear O5 hb6 HT D1 D2 D3 D4 D5 B1 B2 B3 B4 B5
  have lt1 : K < 8 := kb.2
  have ge1 : 0 ≤ K := kb.1
  clear kb
  by_cases hk : 1 < K
  · cases OT
    · have HV := Lib.hid (show MV = ⟨axisV K (Q - 8), Q - 8⟩ by rw [HM.out]; simp [hk])
      clear HM HK HQ
      rcases (show (Q - 8) % 3 = 0 ∨ (Q - 8) % 3 = 1 ∨ (Q - 8) % 3 = 2 by omega) with hr | hr | hr
      · have HR := Lib.hid (congrArg (Value.int IntKind.i64) hr)
        have HX := Lib.hid (show MV = ⟨⟨1 - 2 * (K % 2), 0, 0⟩, Q - 8⟩ by rw [HV.out]; unfold axisV; simp [hr])
        clear hr
        go_wp2_with fail
        refine Calls.mono (callv (ref1_Mod (Q - 8) 3 (by omega) (by omega) _) HR.out) ?_
        rintro e wz ⟨rfl, rfl⟩
        go_wp2
        refine retC (b := w.heap.size) (v := MV.v) (by repeat' (first | (with_reducible assumption) | ((with_reducible apply Own.new); (focus (first | rfl | omega | (simp; done) | (simp; omega)))) | (with_reducible apply Own.set) | (with_reducible apply Own.alloc) | (with_reducible apply Own.drew) | ((with_reducible apply Own.far); case hp => (focus (first | rfl | omega | (simp; done) | (simp; omega)))))) (fun w' hw' => by simp [results, Try.results36, go_sem, hw', HX.out]) rfl ⟨rfl, ?_⟩
        exact (((((B6.setCell (by simp) _).setCell (by simp) _).setCell (by simp) _).setCell (by simp) _).alloc (by simp; omega) _).alloc (by simp; omega) _
      · have HR := Lib.hid (congrArg (Value.int IntKind.i64) hr)
        have HX := Lib.hid (show MV = ⟨⟨0, 1 - 2 * (K % 2), 0⟩, Q - 8⟩ by rw [HV.out]; unfold axisV; simp [hr])
        clear hr
        go_wp2_with fail
        refine Calls.mono (callv (ref1_Mod (Q - 8) 3 (by omega) (by omega) _) HR.out) ?_
        rintro e wz ⟨rfl, rfl⟩
        go_wp2
        refine retC (b := w.heap.size) (v := MV.v) (by repeat' (first | (with_reducible assumption) | ((with_reducible apply Own.new); (focus (first | rfl | omega | (simp; done) | (simp; omega)))) | (with_reducible apply Own.set) | (with_reducible apply Own.alloc) | (with_reducible apply Own.drew) | ((with_reducible apply Own.far); case hp => (focus (first | rfl | omega | (simp; done) | (simp; omega)))))) (fun w' hw' => by simp [results, Try.results36, go_sem, hw', HX.out]) rfl ⟨rfl, ?_⟩
        exact (((((B6.setCell (by simp) _).setCell (by simp) _).setCell (by simp) _).setCell (by simp) _).alloc (by simp; omega) _).alloc (by simp; omega) _
      · have HR := Lib.hid (congrArg (Value.int IntKind.i64) hr)
        have HX := Lib.hid (show MV = ⟨⟨0, 0, 1 - 2 * (K % 2)⟩, Q - 8⟩ by rw [HV.out]; unfold axisV; simp [hr])
        clear hr
        go_wp2_with fail
        refine Calls.mono (callv (ref1_Mod (Q - 8) 3 (by omega) (by omega) _) HR.out) ?_
        rintro e wz ⟨rfl, rfl⟩
        go_wp2
        refine retC (b := w.heap.size) (v := MV.v) (by repeat' (first | (with_reducible assumption) | ((with_reducible apply Own.new); (focus (first | rfl | omega | (simp; done) | (simp; omega)))) | (with_reducible apply Own.set) | (with_reducible apply Own.alloc) | (with_reducible apply Own.drew) | ((with_reducible apply Own.far); case hp => (focus (first | rfl | omega | (simp; done) | (simp; omega)))))) (fun w' hw' => by simp [results, Try.results36, go_sem, hw', HX.out]) rfl ⟨rfl, ?_⟩
        exact (((((B6.setCell (by simp) _).setCell (by simp) _).setCell (by simp) _).setCell (by simp) _).alloc (by simp; omega) _).alloc (by simp; omega) _
    · have HV := Lib.hid (show MV = PT by rw [HM.out]; simp [hk])
      clear HM HK HQ
      go_wp2
      refine retC (b := w.heap.size) (v := MV.v) (by repeat' (first | (with_reducible assumption) | ((with_reducible apply Own.new); (focus (first | rfl | omega | (simp; done) | (simp; omega)))) | (with_reducible apply Own.set) | (with_reducible apply Own.alloc) | (with_reducible apply Own.drew) | ((with_reducible apply Own.far); case hp => (focus (first | rfl | omega | (simp; done) | (simp; omega)))))) (fun w' hw' => by simp [results, Try.results36, go_sem, hw', HV.out]) rfl ⟨rfl, ?_⟩
      exact (((((B6.setCell (by simp) _).setCell (by simp) _).setCell (by simp) _).setCell (by simp) _).alloc (by simp; omega) _)
  · have HV := Lib.hid (show MV = ⟨axisV K (Q - 8), Q - 8⟩ by rw [HM.out]; simp [hk])
    clear HM HK HQ
    rcases (show (Q - 8) % 3 = 0 ∨ (Q - 8) % 3 = 1 ∨ (Q - 8) % 3 = 2 by omega) with hr | hr | hr
    · have HR := Lib.hid (congrArg (Value.int IntKind.i64) hr)
      have HX := Lib.hid (show MV = ⟨⟨1 - 2 * (K % 2), 0, 0⟩, Q - 8⟩ by rw [HV.out]; unfold axisV; simp [hr])
      clear hr
      go_wp2_with fail
      refine Calls.mono (callv (ref1_Mod (Q - 8) 3 (by omega) (by omega) _) HR.out) ?_
      rintro e wz ⟨rfl, rfl⟩
      go_wp2
      refine retC (b := w.heap.size) (v := MV.v) (by repeat' (first | (with_reducible assumption) | ((with_reducible apply Own.new); (focus (first | rfl | omega | (simp; done) | (simp; omega)))) | (with_reducible apply Own.set) | (with_reducible apply Own.alloc) | (with_reducible apply Own.drew) | ((with_reducible apply Own.far); case hp => (focus (first | rfl | omega | (simp; done) | (simp; omega)))))) (fun w' hw' => by simp [results, Try.results36, go_sem, hw', HX.out]) rfl ⟨rfl, ?_⟩
      exact (((((B6.setCell (by simp) _).setCell (by simp) _).setCell (by simp) _).setCell (by simp) _).alloc (by simp; omega) _).alloc (by simp; omega) _
    · have HR := Lib.hid (congrArg (Value.int IntKind.i64) hr)
      have HX := Lib.hid (show MV = ⟨⟨0, 1 - 2 * (K % 2), 0⟩, Q - 8⟩ by rw [HV.out]; unfold axisV; simp [hr])
      clear hr
      go_wp2_with fail
      refine Calls.mono (callv (ref1_Mod (Q - 8) 3 (by omega) (by omega) _) HR.out) ?_
      rintro e wz ⟨rfl, rfl⟩
      go_wp2
      refine retC (b := w.heap.size) (v := MV.v) (by repeat' (first | (with_reducible assumption) | ((with_reducible apply Own.new); (focus (first | rfl | omega | (simp; done) | (simp; omega)))) | (with_reducible apply Own.set) | (with_reducible apply Own.alloc) | (with_reducible apply Own.drew) | ((with_reducible apply Own.far); case hp => (focus (first | rfl | omega | (simp; done) | (simp; omega)))))) (fun w' hw' => by simp [results, Try.results36, go_sem, hw', HX.out]) rfl ⟨rfl, ?_⟩
      exact (((((B6.setCell (by simp) _).setCell (by simp) _).setCell (by simp) _).setCell (by simp) _).alloc (by simp; omega) _).alloc (by simp; omega) _
    · have HR := Lib.hid (congrArg (Value.int IntKind.i64) hr)
      have HX := Lib.hid (show MV = ⟨⟨0, 0, 1 - 2 * (K % 2)⟩, Q - 8⟩ by rw [HV.out]; unfold axisV; simp [hr])
      clear hr
      go_wp2_with fail
      refine Calls.mono (callv (ref1_Mod (Q - 8) 3 (by omega) (by omega) _) HR.out) ?_
      rintro e wz ⟨rfl, rfl⟩
      go_wp2
      refine retC (b := w.heap.size) (v := MV.v) (by repeat' (first | (with_reducible assumption) | ((with_reducible apply Own.new); (focus (first | rfl | omega | (simp; done) | (simp; omega)))) | (with_reducible apply Own.set) | (with_reducible apply Own.alloc) | (with_reducible apply Own.drew) | ((with_reducible apply Own.far); case hp => (focus (first | rfl | omega | (simp; done) | (simp; omega)))))) (fun w' hw' => by simp [results, Try.results36, go_sem, hw', HX.out]) rfl ⟨rfl, ?_⟩
      exact (((((B6.setCell (by simp) _).setCell (by simp) _).setCell (by simp) _).setCell (by simp) _).alloc (by simp; omega) _).alloc (by simp; omega) _
end Go.Proofs.Ythijnggeoinlfaa
