/- What Through in the reference of package plane returns. No condition. -/
import Derived.Test.YtccnlnkgoaelpaaPlaneT
namespace Go.Proofs.Ytccnlnkgoaelpaa
open Go.RowKit

set_option maxRecDepth 100000 in
set_option maxHeartbeats 4000000 in
theorem ref7_Through (x y z x' y' z' x2 y2 z2 : Int) (w : World) :
    Calls Try.prog 44 #[vV x y z, vV x' y' z', vV x2 y2 z2] w fun r w' => r = .returned (.tuple #[(pThrough ⟨x, y, z⟩ ⟨x', y', z'⟩ ⟨x2, y2, z2⟩).v, .bool (okThrough ⟨x, y, z⟩ ⟨x', y', z'⟩ ⟨x2, y2, z2⟩)]) ∧ Below w.heap.size w w' := by
  have no : okThrough ⟨x, y, z⟩ ⟨x', y', z'⟩ ⟨x2, y2, z2⟩ = false → pThrough ⟨x, y, z⟩ ⟨x', y', z'⟩ ⟨x2, y2, z2⟩ = ⟨⟨0, 0, 0⟩, 0⟩ := fun h => by unfold pThrough; rw [h]; rfl
  have NO := Lib.hid no
  clear no
  cases ha : vIn ⟨x, y, z⟩
  · have HA := Lib.hid ha
    clear ha
    have hok := Lib.hid (show okThrough ⟨x, y, z⟩ ⟨x', y', z'⟩ ⟨x2, y2, z2⟩ = false by unfold okThrough; rw [HA.out]; rfl)
    go_enter Try.func44, Try.ntmps44
    go_wp2_with fail
    refine Calls.mono (callv (ref7_In x y z _) (congrArg Value.bool HA.out)) ?_
    rintro e w1 ⟨rfl, hb1⟩
    have o4 : Own w1 (w.heap.size + 1 + 1 + 1) #[.int .i64 0, .int .i64 0, .int .i64 0, .int .i64 0] := Own.below (by repeat' (first | ((refine Own.new ?_); (focus (first | rfl | omega | (simp; done) | (simp; omega)))) | assumption | refine Own.alloc ?_ _ | refine Own.drew ?_ | (refine Own.far ?_ ?_ _; rotate_left; (focus (first | rfl | omega | (simp; done) | (simp; omega)))))) hb1
    have o4c := o4.cell
    have o4f := o4.thaw
    have o4z := o4.lt
    have hs1 := hb1.size
    (try simp at hs1)
    have hw1 : Below w.heap.size w w1 := Below.hop (by repeat' (first | exact Below.refl _ _ | assumption | (refine Below.alloc ?_ ?_ _; rotate_left; (focus (first | rfl | omega | (simp; done) | (simp; omega)))) | (refine Below.setCell ?_ ?_ _; rotate_left; (focus (first | rfl | omega | (simp; done) | (simp; omega)))) | refine Below.drew ?_)) hb1
    have hz1 := hw1.size
    clear hb1
    go_wp2
    refine bodyPost_ret (v := .tuple #[(pThrough ⟨x, y, z⟩ ⟨x', y', z'⟩ ⟨x2, y2, z2⟩).v, .bool (okThrough ⟨x, y, z⟩ ⟨x', y', z'⟩ ⟨x2, y2, z2⟩)]) (by simp [results, Try.results44, go_sem, hok.out, NO.out hok.out, o4c]) rfl ⟨rfl, (by repeat' (first | exact Below.refl _ _ | assumption | (refine Below.alloc ?_ ?_ _; rotate_left; (focus (first | rfl | omega | (simp; done) | (simp; omega)))) | (refine Below.setCell ?_ ?_ _; rotate_left; (focus (first | rfl | omega | (simp; done) | (simp; omega)))) | refine Below.drew ?_))⟩
  · have HA := Lib.hid ha
    clear ha
    cases hc : vIn ⟨x', y', z'⟩
    · have HC := Lib.hid hc
      clear hc
      have hok := Lib.hid (show okThrough ⟨x, y, z⟩ ⟨x', y', z'⟩ ⟨x2, y2, z2⟩ = false by unfold okThrough; rw [HA.out, HC.out]; rfl)
      go_enter Try.func44, Try.ntmps44
      go_wp2_with fail
      refine Calls.mono (callv (ref7_In x y z _) (congrArg Value.bool HA.out)) ?_
      rintro e w1 ⟨rfl, hb1⟩
      have o2 : Own w1 (w.heap.size + 1) #[.int .i64 x', .int .i64 y', .int .i64 z'] := Own.below (by repeat' (first | ((refine Own.new ?_); (focus (first | rfl | omega | (simp; done) | (simp; omega)))) | assumption | refine Own.alloc ?_ _ | refine Own.drew ?_ | (refine Own.far ?_ ?_ _; rotate_left; (focus (first | rfl | omega | (simp; done) | (simp; omega)))))) hb1
      have o2c := o2.cell
      have o2f := o2.thaw
      have o2z := o2.lt
      have o4 : Own w1 (w.heap.size + 1 + 1 + 1) #[.int .i64 0, .int .i64 0, .int .i64 0, .int .i64 0] := Own.below (by repeat' (first | ((refine Own.new ?_); (focus (first | rfl | omega | (simp; done) | (simp; omega)))) | assumption | refine Own.alloc ?_ _ | refine Own.drew ?_ | (refine Own.far ?_ ?_ _; rotate_left; (focus (first | rfl | omega | (simp; done) | (simp; omega)))))) hb1
      have o4c := o4.cell
      have o4f := o4.thaw
      have o4z := o4.lt
      have hs1 := hb1.size
      (try simp at hs1)
      have hw1 : Below w.heap.size w w1 := Below.hop (by repeat' (first | exact Below.refl _ _ | assumption | (refine Below.alloc ?_ ?_ _; rotate_left; (focus (first | rfl | omega | (simp; done) | (simp; omega)))) | (refine Below.setCell ?_ ?_ _; rotate_left; (focus (first | rfl | omega | (simp; done) | (simp; omega)))) | refine Below.drew ?_)) hb1
      have hz1 := hw1.size
      clear hb1
      go_wp2_with fail
      refine Calls.mono (callv (ref7_In x' y' z' _) (congrArg Value.bool HC.out)) ?_
      rintro e w2 ⟨rfl, hb2⟩
      have p4 : Own w2 (w.heap.size + 1 + 1 + 1) #[.int .i64 0, .int .i64 0, .int .i64 0, .int .i64 0] := Own.below (by repeat' (first | ((refine Own.new ?_); (focus (first | rfl | omega | (simp; done) | (simp; omega)))) | assumption | refine Own.alloc ?_ _ | refine Own.drew ?_ | (refine Own.far ?_ ?_ _; rotate_left; (focus (first | rfl | omega | (simp; done) | (simp; omega)))))) hb2
      have p4c := p4.cell
      have p4f := p4.thaw
      have p4z := p4.lt
      clear o4c o4f
      have hs2 := hb2.size
      (try simp at hs2)
      have hw2 : Below w.heap.size w w2 := Below.hop (by repeat' (first | exact Below.refl _ _ | assumption | (refine Below.alloc ?_ ?_ _; rotate_left; (focus (first | rfl | omega | (simp; done) | (simp; omega)))) | (refine Below.setCell ?_ ?_ _; rotate_left; (focus (first | rfl | omega | (simp; done) | (simp; omega)))) | refine Below.drew ?_)) hb2
      have hz2 := hw2.size
      clear hb2
      go_wp2
      refine bodyPost_ret (v := .tuple #[(pThrough ⟨x, y, z⟩ ⟨x', y', z'⟩ ⟨x2, y2, z2⟩).v, .bool (okThrough ⟨x, y, z⟩ ⟨x', y', z'⟩ ⟨x2, y2, z2⟩)]) (by simp [results, Try.results44, go_sem, hok.out, NO.out hok.out, p4c]) rfl ⟨rfl, (by repeat' (first | exact Below.refl _ _ | assumption | (refine Below.alloc ?_ ?_ _; rotate_left; (focus (first | rfl | omega | (simp; done) | (simp; omega)))) | (refine Below.setCell ?_ ?_ _; rotate_left; (focus (first | rfl | omega | (simp; done) | (simp; omega)))) | refine Below.drew ?_))⟩
    · have HC := Lib.hid hc
      clear hc
      cases hd : vIn ⟨x2, y2, z2⟩
      · have HD := Lib.hid hd
        clear hd
        have hok := Lib.hid (show okThrough ⟨x, y, z⟩ ⟨x', y', z'⟩ ⟨x2, y2, z2⟩ = false by unfold okThrough; rw [HA.out, HC.out, HD.out]; rfl)
        go_enter Try.func44, Try.ntmps44
        go_wp2_with fail
        refine Calls.mono (callv (ref7_In x y z _) (congrArg Value.bool HA.out)) ?_
        rintro e w1 ⟨rfl, hb1⟩
        have o2 : Own w1 (w.heap.size + 1) #[.int .i64 x', .int .i64 y', .int .i64 z'] := Own.below (by repeat' (first | ((refine Own.new ?_); (focus (first | rfl | omega | (simp; done) | (simp; omega)))) | assumption | refine Own.alloc ?_ _ | refine Own.drew ?_ | (refine Own.far ?_ ?_ _; rotate_left; (focus (first | rfl | omega | (simp; done) | (simp; omega)))))) hb1
        have o2c := o2.cell
        have o2f := o2.thaw
        have o2z := o2.lt
        have o3 : Own w1 (w.heap.size + 1 + 1) #[.int .i64 x2, .int .i64 y2, .int .i64 z2] := Own.below (by repeat' (first | ((refine Own.new ?_); (focus (first | rfl | omega | (simp; done) | (simp; omega)))) | assumption | refine Own.alloc ?_ _ | refine Own.drew ?_ | (refine Own.far ?_ ?_ _; rotate_left; (focus (first | rfl | omega | (simp; done) | (simp; omega)))))) hb1
        have o3c := o3.cell
        have o3f := o3.thaw
        have o3z := o3.lt
        have o4 : Own w1 (w.heap.size + 1 + 1 + 1) #[.int .i64 0, .int .i64 0, .int .i64 0, .int .i64 0] := Own.below (by repeat' (first | ((refine Own.new ?_); (focus (first | rfl | omega | (simp; done) | (simp; omega)))) | assumption | refine Own.alloc ?_ _ | refine Own.drew ?_ | (refine Own.far ?_ ?_ _; rotate_left; (focus (first | rfl | omega | (simp; done) | (simp; omega)))))) hb1
        have o4c := o4.cell
        have o4f := o4.thaw
        have o4z := o4.lt
        have hs1 := hb1.size
        (try simp at hs1)
        have hw1 : Below w.heap.size w w1 := Below.hop (by repeat' (first | exact Below.refl _ _ | assumption | (refine Below.alloc ?_ ?_ _; rotate_left; (focus (first | rfl | omega | (simp; done) | (simp; omega)))) | (refine Below.setCell ?_ ?_ _; rotate_left; (focus (first | rfl | omega | (simp; done) | (simp; omega)))) | refine Below.drew ?_)) hb1
        have hz1 := hw1.size
        clear hb1
        go_wp2_with fail
        refine Calls.mono (callv (ref7_In x' y' z' _) (congrArg Value.bool HC.out)) ?_
        rintro e w2 ⟨rfl, hb2⟩
        have p3 : Own w2 (w.heap.size + 1 + 1) #[.int .i64 x2, .int .i64 y2, .int .i64 z2] := Own.below (by repeat' (first | ((refine Own.new ?_); (focus (first | rfl | omega | (simp; done) | (simp; omega)))) | assumption | refine Own.alloc ?_ _ | refine Own.drew ?_ | (refine Own.far ?_ ?_ _; rotate_left; (focus (first | rfl | omega | (simp; done) | (simp; omega)))))) hb2
        have p3c := p3.cell
        have p3f := p3.thaw
        have p3z := p3.lt
        have p4 : Own w2 (w.heap.size + 1 + 1 + 1) #[.int .i64 0, .int .i64 0, .int .i64 0, .int .i64 0] := Own.below (by repeat' (first | ((refine Own.new ?_); (focus (first | rfl | omega | (simp; done) | (simp; omega)))) | assumption | refine Own.alloc ?_ _ | refine Own.drew ?_ | (refine Own.far ?_ ?_ _; rotate_left; (focus (first | rfl | omega | (simp; done) | (simp; omega)))))) hb2
        have p4c := p4.cell
        have p4f := p4.thaw
        have p4z := p4.lt
        clear o3c o3f o4c o4f
        have hs2 := hb2.size
        (try simp at hs2)
        have hw2 : Below w.heap.size w w2 := Below.hop (by repeat' (first | exact Below.refl _ _ | assumption | (refine Below.alloc ?_ ?_ _; rotate_left; (focus (first | rfl | omega | (simp; done) | (simp; omega)))) | (refine Below.setCell ?_ ?_ _; rotate_left; (focus (first | rfl | omega | (simp; done) | (simp; omega)))) | refine Below.drew ?_)) hb2
        have hz2 := hw2.size
        clear hb2
        go_wp2_with fail
        refine Calls.mono (callv (ref7_In x2 y2 z2 _) (congrArg Value.bool HD.out)) ?_
        rintro e w3 ⟨rfl, hb3⟩
        have q4 : Own w3 (w.heap.size + 1 + 1 + 1) #[.int .i64 0, .int .i64 0, .int .i64 0, .int .i64 0] := Own.below (by repeat' (first | ((refine Own.new ?_); (focus (first | rfl | omega | (simp; done) | (simp; omega)))) | assumption | refine Own.alloc ?_ _ | refine Own.drew ?_ | (refine Own.far ?_ ?_ _; rotate_left; (focus (first | rfl | omega | (simp; done) | (simp; omega)))))) hb3
        have q4c := q4.cell
        have q4f := q4.thaw
        have q4z := q4.lt
        clear p4c p4f
        have hs3 := hb3.size
        (try simp at hs3)
        have hw3 : Below w.heap.size w w3 := Below.hop (by repeat' (first | exact Below.refl _ _ | assumption | (refine Below.alloc ?_ ?_ _; rotate_left; (focus (first | rfl | omega | (simp; done) | (simp; omega)))) | (refine Below.setCell ?_ ?_ _; rotate_left; (focus (first | rfl | omega | (simp; done) | (simp; omega)))) | refine Below.drew ?_)) hb3
        have hz3 := hw3.size
        clear hb3
        go_wp2
        refine bodyPost_ret (v := .tuple #[(pThrough ⟨x, y, z⟩ ⟨x', y', z'⟩ ⟨x2, y2, z2⟩).v, .bool (okThrough ⟨x, y, z⟩ ⟨x', y', z'⟩ ⟨x2, y2, z2⟩)]) (by simp [results, Try.results44, go_sem, hok.out, NO.out hok.out, q4c]) rfl ⟨rfl, (by repeat' (first | exact Below.refl _ _ | assumption | (refine Below.alloc ?_ ?_ _; rotate_left; (focus (first | rfl | omega | (simp; done) | (simp; omega)))) | (refine Below.setCell ?_ ?_ _; rotate_left; (focus (first | rfl | omega | (simp; done) | (simp; omega)))) | refine Below.drew ?_))⟩
      · have HD := Lib.hid hd
        clear hd
        obtain ⟨N, hN⟩ : ∃ N : V3, vCross ⟨wrap64 (x' - x), wrap64 (y' - y), wrap64 (z' - z)⟩ ⟨wrap64 (x2 - x), wrap64 (y2 - y), wrap64 (z2 - z)⟩ = N := ⟨_, rfl⟩
        have hI : I64 N.x ∧ I64 N.y ∧ I64 N.z := by rw [← hN]; exact ⟨wrap_I64 _, wrap_I64 _, wrap_I64 _⟩
        have hok := Lib.hid (show okThrough ⟨x, y, z⟩ ⟨x', y', z'⟩ ⟨x2, y2, z2⟩ = decide (0 < vGcd N) by rw [← vGcd_flag]; unfold okThrough; rw [HA.out, HC.out, HD.out, ← hN]; rfl)
        have hpl := Lib.hid (show pThrough ⟨x, y, z⟩ ⟨x', y', z'⟩ ⟨x2, y2, z2⟩ = ⟨vPrim N, vDot (vPrim N) ⟨x, y, z⟩⟩ by
          have e : vCross (vSub ⟨x', y', z'⟩ ⟨x, y, z⟩) (vSub ⟨x2, y2, z2⟩ ⟨x, y, z⟩) = N := hN
          unfold pThrough
          rw [hok.out, e]
          by_cases h : vGcd N = 0
          · have e2 : vPrim N = ⟨0, 0, 0⟩ := by unfold vPrim; rw [if_pos h]
            rw [h, e2, vDot_zero]; rfl
          · rw [if_pos (by simpa using vGcd_pos h)])
        have HN := Lib.hid hN
        clear hN
        go_enter Try.func44, Try.ntmps44
        go_wp2_with fail
        refine Calls.mono (callv (ref7_In x y z _) (congrArg Value.bool HA.out)) ?_
        rintro e w1 ⟨rfl, hb1⟩
        have o1 : Own w1 (w.heap.size) #[.int .i64 x, .int .i64 y, .int .i64 z] := Own.below (by repeat' (first | ((refine Own.new ?_); (focus (first | rfl | omega | (simp; done) | (simp; omega)))) | assumption | refine Own.alloc ?_ _ | refine Own.drew ?_ | (refine Own.far ?_ ?_ _; rotate_left; (focus (first | rfl | omega | (simp; done) | (simp; omega)))))) hb1
        have o1c := o1.cell
        have o1f := o1.thaw
        have o1z := o1.lt
        have o2 : Own w1 (w.heap.size + 1) #[.int .i64 x', .int .i64 y', .int .i64 z'] := Own.below (by repeat' (first | ((refine Own.new ?_); (focus (first | rfl | omega | (simp; done) | (simp; omega)))) | assumption | refine Own.alloc ?_ _ | refine Own.drew ?_ | (refine Own.far ?_ ?_ _; rotate_left; (focus (first | rfl | omega | (simp; done) | (simp; omega)))))) hb1
        have o2c := o2.cell
        have o2f := o2.thaw
        have o2z := o2.lt
        have o3 : Own w1 (w.heap.size + 1 + 1) #[.int .i64 x2, .int .i64 y2, .int .i64 z2] := Own.below (by repeat' (first | ((refine Own.new ?_); (focus (first | rfl | omega | (simp; done) | (simp; omega)))) | assumption | refine Own.alloc ?_ _ | refine Own.drew ?_ | (refine Own.far ?_ ?_ _; rotate_left; (focus (first | rfl | omega | (simp; done) | (simp; omega)))))) hb1
        have o3c := o3.cell
        have o3f := o3.thaw
        have o3z := o3.lt
        have o4 : Own w1 (w.heap.size + 1 + 1 + 1) #[.int .i64 0, .int .i64 0, .int .i64 0, .int .i64 0] := Own.below (by repeat' (first | ((refine Own.new ?_); (focus (first | rfl | omega | (simp; done) | (simp; omega)))) | assumption | refine Own.alloc ?_ _ | refine Own.drew ?_ | (refine Own.far ?_ ?_ _; rotate_left; (focus (first | rfl | omega | (simp; done) | (simp; omega)))))) hb1
        have o4c := o4.cell
        have o4f := o4.thaw
        have o4z := o4.lt
        have hs1 := hb1.size
        (try simp at hs1)
        have hw1 : Below w.heap.size w w1 := Below.hop (by repeat' (first | exact Below.refl _ _ | assumption | (refine Below.alloc ?_ ?_ _; rotate_left; (focus (first | rfl | omega | (simp; done) | (simp; omega)))) | (refine Below.setCell ?_ ?_ _; rotate_left; (focus (first | rfl | omega | (simp; done) | (simp; omega)))) | refine Below.drew ?_)) hb1
        have hz1 := hw1.size
        clear hb1
        go_wp2_with fail
        refine Calls.mono (callv (ref7_In x' y' z' _) (congrArg Value.bool HC.out)) ?_
        rintro e w2 ⟨rfl, hb2⟩
        have p1 : Own w2 (w.heap.size) #[.int .i64 x, .int .i64 y, .int .i64 z] := Own.below (by repeat' (first | ((refine Own.new ?_); (focus (first | rfl | omega | (simp; done) | (simp; omega)))) | assumption | refine Own.alloc ?_ _ | refine Own.drew ?_ | (refine Own.far ?_ ?_ _; rotate_left; (focus (first | rfl | omega | (simp; done) | (simp; omega)))))) hb2
        have p1c := p1.cell
        have p1f := p1.thaw
        have p1z := p1.lt
        have p2 : Own w2 (w.heap.size + 1) #[.int .i64 x', .int .i64 y', .int .i64 z'] := Own.below (by repeat' (first | ((refine Own.new ?_); (focus (first | rfl | omega | (simp; done) | (simp; omega)))) | assumption | refine Own.alloc ?_ _ | refine Own.drew ?_ | (refine Own.far ?_ ?_ _; rotate_left; (focus (first | rfl | omega | (simp; done) | (simp; omega)))))) hb2
        have p2c := p2.cell
        have p2f := p2.thaw
        have p2z := p2.lt
        have p3 : Own w2 (w.heap.size + 1 + 1) #[.int .i64 x2, .int .i64 y2, .int .i64 z2] := Own.below (by repeat' (first | ((refine Own.new ?_); (focus (first | rfl | omega | (simp; done) | (simp; omega)))) | assumption | refine Own.alloc ?_ _ | refine Own.drew ?_ | (refine Own.far ?_ ?_ _; rotate_left; (focus (first | rfl | omega | (simp; done) | (simp; omega)))))) hb2
        have p3c := p3.cell
        have p3f := p3.thaw
        have p3z := p3.lt
        have p4 : Own w2 (w.heap.size + 1 + 1 + 1) #[.int .i64 0, .int .i64 0, .int .i64 0, .int .i64 0] := Own.below (by repeat' (first | ((refine Own.new ?_); (focus (first | rfl | omega | (simp; done) | (simp; omega)))) | assumption | refine Own.alloc ?_ _ | refine Own.drew ?_ | (refine Own.far ?_ ?_ _; rotate_left; (focus (first | rfl | omega | (simp; done) | (simp; omega)))))) hb2
        have p4c := p4.cell
        have p4f := p4.thaw
        have p4z := p4.lt
        clear o1c o1f o2c o2f o3c o3f o4c o4f
        have hs2 := hb2.size
        (try simp at hs2)
        have hw2 : Below w.heap.size w w2 := Below.hop (by repeat' (first | exact Below.refl _ _ | assumption | (refine Below.alloc ?_ ?_ _; rotate_left; (focus (first | rfl | omega | (simp; done) | (simp; omega)))) | (refine Below.setCell ?_ ?_ _; rotate_left; (focus (first | rfl | omega | (simp; done) | (simp; omega)))) | refine Below.drew ?_)) hb2
        have hz2 := hw2.size
        clear hb2
        go_wp2_with fail
        refine Calls.mono (callv (ref7_In x2 y2 z2 _) (congrArg Value.bool HD.out)) ?_
        rintro e w3 ⟨rfl, hb3⟩
        have q1 : Own w3 (w.heap.size) #[.int .i64 x, .int .i64 y, .int .i64 z] := Own.below (by repeat' (first | ((refine Own.new ?_); (focus (first | rfl | omega | (simp; done) | (simp; omega)))) | assumption | refine Own.alloc ?_ _ | refine Own.drew ?_ | (refine Own.far ?_ ?_ _; rotate_left; (focus (first | rfl | omega | (simp; done) | (simp; omega)))))) hb3
        have q1c := q1.cell
        have q1f := q1.thaw
        have q1z := q1.lt
        have q2 : Own w3 (w.heap.size + 1) #[.int .i64 x', .int .i64 y', .int .i64 z'] := Own.below (by repeat' (first | ((refine Own.new ?_); (focus (first | rfl | omega | (simp; done) | (simp; omega)))) | assumption | refine Own.alloc ?_ _ | refine Own.drew ?_ | (refine Own.far ?_ ?_ _; rotate_left; (focus (first | rfl | omega | (simp; done) | (simp; omega)))))) hb3
        have q2c := q2.cell
        have q2f := q2.thaw
        have q2z := q2.lt
        have q3 : Own w3 (w.heap.size + 1 + 1) #[.int .i64 x2, .int .i64 y2, .int .i64 z2] := Own.below (by repeat' (first | ((refine Own.new ?_); (focus (first | rfl | omega | (simp; done) | (simp; omega)))) | assumption | refine Own.alloc ?_ _ | refine Own.drew ?_ | (refine Own.far ?_ ?_ _; rotate_left; (focus (first | rfl | omega | (simp; done) | (simp; omega)))))) hb3
        have q3c := q3.cell
        have q3f := q3.thaw
        have q3z := q3.lt
        have q4 : Own w3 (w.heap.size + 1 + 1 + 1) #[.int .i64 0, .int .i64 0, .int .i64 0, .int .i64 0] := Own.below (by repeat' (first | ((refine Own.new ?_); (focus (first | rfl | omega | (simp; done) | (simp; omega)))) | assumption | refine Own.alloc ?_ _ | refine Own.drew ?_ | (refine Own.far ?_ ?_ _; rotate_left; (focus (first | rfl | omega | (simp; done) | (simp; omega)))))) hb3
        have q4c := q4.cell
        have q4f := q4.thaw
        have q4z := q4.lt
        clear p1c p1f p2c p2f p3c p3f p4c p4f
        have hs3 := hb3.size
        (try simp at hs3)
        have hw3 : Below w.heap.size w w3 := Below.hop (by repeat' (first | exact Below.refl _ _ | assumption | (refine Below.alloc ?_ ?_ _; rotate_left; (focus (first | rfl | omega | (simp; done) | (simp; omega)))) | (refine Below.setCell ?_ ?_ _; rotate_left; (focus (first | rfl | omega | (simp; done) | (simp; omega)))) | refine Below.drew ?_)) hb3
        have hz3 := hw3.size
        clear hb3
        go_wp2
        refine region_late 11 [] (by kernel_rfl) (by kernel_rfl) (by rfl) ?_
        apply Exists.intro
        refine ⟨fun v hv hne => ?_, fun u hu => ?_⟩
        · simp only [List.take_succ_cons, List.take_zero]
          have d1 := fun x => (q1.later (v := v) (T := []) (by simp) x).cell
          have d2 := fun x => (q2.later (v := v) (T := []) (by simp) x).cell
          have d3 := fun x => (q3.later (v := v) (T := []) (by simp) x).cell
          repeat (go_big_quiet_step ((first | (go_at_call 64; exact lateB (ref7_Sub _ _ _ _ _ _ _)) | (go_at_call 63; exact lateB (callv (ref7_Cross _ _ _ _ _ _ _) (congrArg V3.v HN.out))) | (go_at_call 62; exact lateB (ref7_Prim _ _ _ hI.1 hI.2.1 hI.2.2 _)))))
          refine wpQuiet_nil ?_
          exact rfl
        · simp only [List.drop_succ_cons, List.drop_zero]
          have r1 : Own u (w.heap.size) #[.int .i64 x, .int .i64 y, .int .i64 z] := Own.below (by repeat' (first | ((refine Own.new ?_); (focus (first | rfl | omega | (simp; done) | (simp; omega)))) | assumption | refine Own.alloc ?_ _ | refine Own.drew ?_ | (refine Own.far ?_ ?_ _; rotate_left; (focus (first | rfl | omega | (simp; done) | (simp; omega)))))) hu
          have r1c := r1.cell
          have r1f := r1.thaw
          have r1z := r1.lt
          have r2 : Own u (w.heap.size + 1) #[.int .i64 x', .int .i64 y', .int .i64 z'] := Own.below (by repeat' (first | ((refine Own.new ?_); (focus (first | rfl | omega | (simp; done) | (simp; omega)))) | assumption | refine Own.alloc ?_ _ | refine Own.drew ?_ | (refine Own.far ?_ ?_ _; rotate_left; (focus (first | rfl | omega | (simp; done) | (simp; omega)))))) hu
          have r2c := r2.cell
          have r2f := r2.thaw
          have r2z := r2.lt
          have r3 : Own u (w.heap.size + 1 + 1) #[.int .i64 x2, .int .i64 y2, .int .i64 z2] := Own.below (by repeat' (first | ((refine Own.new ?_); (focus (first | rfl | omega | (simp; done) | (simp; omega)))) | assumption | refine Own.alloc ?_ _ | refine Own.drew ?_ | (refine Own.far ?_ ?_ _; rotate_left; (focus (first | rfl | omega | (simp; done) | (simp; omega)))))) hu
          have r3c := r3.cell
          have r3f := r3.thaw
          have r3z := r3.lt
          have r4 : Own u (w.heap.size + 1 + 1 + 1) #[.int .i64 0, .int .i64 0, .int .i64 0, .int .i64 0] := Own.below (by repeat' (first | ((refine Own.new ?_); (focus (first | rfl | omega | (simp; done) | (simp; omega)))) | assumption | refine Own.alloc ?_ _ | refine Own.drew ?_ | (refine Own.far ?_ ?_ _; rotate_left; (focus (first | rfl | omega | (simp; done) | (simp; omega)))))) hu
          have r4c := r4.cell
          have r4f := r4.thaw
          have r4z := r4.lt
          clear q1c q1f q2c q2f q3c q3f q4c q4f
          refine late_mem (fun K hK => ?_)
          go_simp
          refine hK _ _ ((Keeps.of_below hu).alloc _) (fun u2 hu2 => ?_)
          clear hK K
          have r5 : Own u2 (u.heap.size) #[.int .i64 0, .int .i64 0, .int .i64 0] := Own.below (by repeat' (first | ((refine Own.new ?_); (focus (first | rfl | omega | (simp; done) | (simp; omega)))) | assumption | refine Own.alloc ?_ _ | refine Own.drew ?_ | (refine Own.far ?_ ?_ _; rotate_left; (focus (first | rfl | omega | (simp; done) | (simp; omega)))))) hu2
          have r5c := r5.cell
          have r5f := r5.thaw
          have r5z := r5.lt
          have s1 : Own u2 (w.heap.size) #[.int .i64 x, .int .i64 y, .int .i64 z] := Own.below (by repeat' (first | ((refine Own.new ?_); (focus (first | rfl | omega | (simp; done) | (simp; omega)))) | assumption | refine Own.alloc ?_ _ | refine Own.drew ?_ | (refine Own.far ?_ ?_ _; rotate_left; (focus (first | rfl | omega | (simp; done) | (simp; omega)))))) hu2
          have s1c := s1.cell
          have s1f := s1.thaw
          have s1z := s1.lt
          have s4 : Own u2 (w.heap.size + 1 + 1 + 1) #[.int .i64 0, .int .i64 0, .int .i64 0, .int .i64 0] := Own.below (by repeat' (first | ((refine Own.new ?_); (focus (first | rfl | omega | (simp; done) | (simp; omega)))) | assumption | refine Own.alloc ?_ _ | refine Own.drew ?_ | (refine Own.far ?_ ?_ _; rotate_left; (focus (first | rfl | omega | (simp; done) | (simp; omega)))))) hu2
          have s4c := s4.cell
          have s4f := s4.thaw
          have s4z := s4.lt
          clear r1c r1f r4c r4f
          refine late_mem (fun K hK => ?_)
          go_simp
          refine hK _ _ ((((((Keeps.of_below hu).alloc _).later hu2).new hu.size _).new hu.size _).new hu.size _) (fun u3 hu3 => ?_)
          clear hK K
          have t5 : Own u3 (u.heap.size) #[.int .i64 (vPrim N).x, .int .i64 (vPrim N).y, .int .i64 (vPrim N).z] := (((r5.set 0 _).set 1 _).set 2 _).below hu3
          have t5c := t5.cell
          have t5f := t5.thaw
          have t5z := t5.lt
          have t1 : Own u3 (w.heap.size) #[.int .i64 x, .int .i64 y, .int .i64 z] := Own.below (by repeat' (first | ((refine Own.new ?_); (focus (first | rfl | omega | (simp; done) | (simp; omega)))) | assumption | refine Own.alloc ?_ _ | refine Own.drew ?_ | (refine Own.far ?_ ?_ _; rotate_left; (focus (first | rfl | omega | (simp; done) | (simp; omega)))))) hu3
          have t1c := t1.cell
          have t1f := t1.thaw
          have t1z := t1.lt
          have t4 : Own u3 (w.heap.size + 1 + 1 + 1) #[.int .i64 0, .int .i64 0, .int .i64 0, .int .i64 0] := Own.below (by repeat' (first | ((refine Own.new ?_); (focus (first | rfl | omega | (simp; done) | (simp; omega)))) | assumption | refine Own.alloc ?_ _ | refine Own.drew ?_ | (refine Own.far ?_ ?_ _; rotate_left; (focus (first | rfl | omega | (simp; done) | (simp; omega)))))) hu3
          have t4c := t4.cell
          have t4f := t4.thaw
          have t4z := t4.lt
          clear s1c s1f s4c s4f
          clear r5c r5f
          have kp := (((((Keeps.of_below (T := []) hu).alloc (.cells #[.int .i64 0, .int .i64 0, .int .i64 0] 31)).later hu2).new (p := ⟨u.heap.size, 0, none⟩) hu.size (.int .i64 (vPrim N).x)).new (p := ⟨u.heap.size, 1, none⟩) hu.size (.int .i64 (vPrim N).y)).new (p := ⟨u.heap.size, 2, none⟩) hu.size (.int .i64 (vPrim N).z)
          refine late_mem (fun K hK => ?_)
          go_simp
          refine hK _ _ (kp.later hu3) (fun u4 hu4 => ?_)
          clear hK K kp
          have x1 : Own u4 (w.heap.size) #[.int .i64 x, .int .i64 y, .int .i64 z] := Own.below (by repeat' (first | ((refine Own.new ?_); (focus (first | rfl | omega | (simp; done) | (simp; omega)))) | assumption | refine Own.alloc ?_ _ | refine Own.drew ?_ | (refine Own.far ?_ ?_ _; rotate_left; (focus (first | rfl | omega | (simp; done) | (simp; omega)))))) hu4
          have x1c := x1.cell
          have x1f := x1.thaw
          have x1z := x1.lt
          have x4 : Own u4 (w.heap.size + 1 + 1 + 1) #[.int .i64 0, .int .i64 0, .int .i64 0, .int .i64 0] := Own.below (by repeat' (first | ((refine Own.new ?_); (focus (first | rfl | omega | (simp; done) | (simp; omega)))) | assumption | refine Own.alloc ?_ _ | refine Own.drew ?_ | (refine Own.far ?_ ?_ _; rotate_left; (focus (first | rfl | omega | (simp; done) | (simp; omega)))))) hu4
          have x4c := x4.cell
          have x4f := x4.thaw
          have x4z := x4.lt
          have x5 : Own u4 (u.heap.size) #[.int .i64 (vPrim N).x, .int .i64 (vPrim N).y, .int .i64 (vPrim N).z] := Own.below (by repeat' (first | ((refine Own.new ?_); (focus (first | rfl | omega | (simp; done) | (simp; omega)))) | assumption | refine Own.alloc ?_ _ | refine Own.drew ?_ | (refine Own.far ?_ ?_ _; rotate_left; (focus (first | rfl | omega | (simp; done) | (simp; omega)))))) hu4
          have x5c := x5.cell
          have x5f := x5.thaw
          have x5z := x5.lt
          clear t1c t1f t4c t4f t5c t5f
          have hw4 : Below w.heap.size w u4 := Below.hop (Below.hop ((((Below.hop ((Below.hop hw3 hu).alloc (by omega) _) hu2).setCell (by simp; omega) _).setCell (by simp; omega) _).setCell (by simp; omega) _) hu3) hu4
          clear hu hu2 hu3 hu4 hw3 hw2 hw1 s1 s4 t1 t4 t5 r1 r2 r3 r4 r5 q1 q2 q3 q4
          refine late_nil ?_
          (try simp only [Act.put, List.setIfInBounds_toArray, List.set_cons_zero, List.set_cons_succ])
          by_cases hg : vGcd N = 0
          · have hg1 : (vGcd N == 0) = true := by simpa using hg
            have hok2 := Lib.hid (show okThrough ⟨x, y, z⟩ ⟨x', y', z'⟩ ⟨x2, y2, z2⟩ = false by rw [hok.out, hg]; rfl)
            clear hg
            go_wp2
            refine bodyPost_ret (v := .tuple #[(pThrough ⟨x, y, z⟩ ⟨x', y', z'⟩ ⟨x2, y2, z2⟩).v, .bool (okThrough ⟨x, y, z⟩ ⟨x', y', z'⟩ ⟨x2, y2, z2⟩)]) (by simp [results, Try.results44, go_sem, hok2.out, NO.out hok2.out, x4c]) rfl ⟨rfl, (by repeat' (first | exact Below.refl _ _ | assumption | (refine Below.alloc ?_ ?_ _; rotate_left; (focus (first | rfl | omega | (simp; done) | (simp; omega)))) | (refine Below.setCell ?_ ?_ _; rotate_left; (focus (first | rfl | omega | (simp; done) | (simp; omega)))) | refine Below.drew ?_))⟩
          · have hg1 : (vGcd N == 0) = false := by simpa using hg
            have hok2 := Lib.hid (show okThrough ⟨x, y, z⟩ ⟨x', y', z'⟩ ⟨x2, y2, z2⟩ = true by rw [hok.out]; simp [vGcd_pos hg])
            clear hg
            go_wp2
            refine region_late 5 [w.heap.size + 1 + 1 + 1] (by kernel_rfl) (by kernel_rfl) (by rfl) ?_
            apply Exists.intro
            refine ⟨fun v hv hne => ?_, fun u5 hu5 => ?_⟩
            · simp only [List.take_succ_cons, List.take_zero]
              have d1 := fun x => (x1.later (v := v) (T := [w.heap.size + 1 + 1 + 1]) (by simp; omega) x).cell
              have d5 := fun x => (x5.later (v := v) (T := [w.heap.size + 1 + 1 + 1]) (by simp; omega) x).cell
              repeat (go_big_quiet_step ((go_at_call 65; exact lateB (ref7_Dot _ _ _ _ _ _ _))))
              refine wpQuiet_nil ?_
              exact rfl
            · simp only [List.drop_succ_cons, List.drop_zero]
              have y4 : Own u5 (w.heap.size + 1 + 1 + 1) #[.int .i64 0, .int .i64 0, .int .i64 0, .int .i64 0] := Own.below (by repeat' (first | ((refine Own.new ?_); (focus (first | rfl | omega | (simp; done) | (simp; omega)))) | assumption | refine Own.alloc ?_ _ | refine Own.drew ?_ | (refine Own.far ?_ ?_ _; rotate_left; (focus (first | rfl | omega | (simp; done) | (simp; omega)))))) hu5
              have y4c := y4.cell
              have y4f := y4.thaw
              have y4z := y4.lt
              clear x4c x4f
              refine late_mem (fun K hK => ?_)
              go_simp
              refine hK _ _ (((((Keeps.of_below hu5).set (by simp) _).set (by simp) _).set (by simp) _).set (by simp) _) (fun u6 hu6 => ?_)
              clear hK K
              have y5 : Own u6 (w.heap.size + 1 + 1 + 1) #[.int .i64 (vPrim N).x, .int .i64 (vPrim N).y, .int .i64 (vPrim N).z, .int .i64 (vDot (vPrim N) ⟨x, y, z⟩)] := ((((y4.set 0 _).set 1 _).set 2 _).set 3 _).below hu6
              have y5c := y5.cell
              have y5f := y5.thaw
              have y5z := y5.lt
              clear y4c y4f
              have kp := ((((Keeps.of_below (T := [w.heap.size + 1 + 1 + 1]) hu5).set (p := ⟨w.heap.size + 1 + 1 + 1, 0, none⟩) (by simp) (.int .i64 (vPrim N).x)).set (p := ⟨w.heap.size + 1 + 1 + 1, 1, none⟩) (by simp) (.int .i64 (vPrim N).y)).set (p := ⟨w.heap.size + 1 + 1 + 1, 2, none⟩) (by simp) (.int .i64 (vPrim N).z)).set (p := ⟨w.heap.size + 1 + 1 + 1, 3, none⟩) (by simp) (.int .i64 (vDot (vPrim N) ⟨x, y, z⟩))
              refine late_mem (fun K hK => ?_)
              go_simp
              refine hK _ _ (kp.later hu6) (fun u7 hu7 => ?_)
              clear hK K kp
              have z5 : Own u7 (w.heap.size + 1 + 1 + 1) #[.int .i64 (vPrim N).x, .int .i64 (vPrim N).y, .int .i64 (vPrim N).z, .int .i64 (vDot (vPrim N) ⟨x, y, z⟩)] := Own.below (by repeat' (first | ((refine Own.new ?_); (focus (first | rfl | omega | (simp; done) | (simp; omega)))) | assumption | refine Own.alloc ?_ _ | refine Own.drew ?_ | (refine Own.far ?_ ?_ _; rotate_left; (focus (first | rfl | omega | (simp; done) | (simp; omega)))))) hu7
              have z5c := z5.cell
              have z5f := z5.thaw
              have z5z := z5.lt
              clear y5c y5f
              refine late_nil ?_
              (try simp only [Act.put, List.setIfInBounds_toArray, List.set_cons_zero, List.set_cons_succ])
              go_wp2
              refine bodyPost_ret (v := .tuple #[(pThrough ⟨x, y, z⟩ ⟨x', y', z'⟩ ⟨x2, y2, z2⟩).v, .bool (okThrough ⟨x, y, z⟩ ⟨x', y', z'⟩ ⟨x2, y2, z2⟩)]) (by simp [results, Try.results44, go_sem, hok2.out, hpl.out, z5c]) rfl ⟨rfl, ?_⟩
              exact Below.hop (Below.hop (((((Below.hop hw4 hu5).setCell (by simp; omega) _).setCell (by simp; omega) _).setCell (by simp; omega) _).setCell (by simp; omega) _) hu6) hu7
end Go.Proofs.Ytccnlnkgoaelpaa
