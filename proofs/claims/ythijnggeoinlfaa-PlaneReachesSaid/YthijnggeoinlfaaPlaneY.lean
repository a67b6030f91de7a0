/- What prim in the laws of package plane, and Compare, return. The components are int64. -/
import Derived.Test.YthijnggeoinlfaaPlaneV
namespace Go.Proofs.Ythijnggeoinlfaa
open Go.RowKit

def veq (a b : V3) : Bool := (a.x == b.x && (a.y == b.y && a.z == b.z))

set_option maxRecDepth 100000 in
set_option maxHeartbeats 400000 in
theorem law7_prim (x y z x' y' z' g : Int) (hx : I64 x) (hy : I64 y) (hz : I64 z) (w : World) :
    Calls Try.prog 24 #[vV x y z, vV x' y' z', .int .i64 g] w fun r w' => r = .returned (.bool (veq (vPrim ⟨x, y, z⟩) ⟨x', y', z'⟩ && vGcd ⟨x, y, z⟩ == g)) ∧ Below w.heap.size w w' := by
  obtain ⟨P, hP⟩ : ∃ P, vPrim ⟨x, y, z⟩ = P := ⟨_, rfl⟩
  obtain ⟨G, hG⟩ : ∃ G, vGcd ⟨x, y, z⟩ = G := ⟨_, rfl⟩
  rw [hP, hG]
  have c0 := plane_Prim x y z hx hy hz
  rw [hP, hG] at c0
  have C0 := Lib.hid c0
  clear hP hG c0
  by_cases h1 : P.x = x'
  · have e1 : (P.x == x') = true := by simpa using h1
    have E1 := Lib.hid e1
    by_cases h2 : P.y = y'
    · have e2 : (P.y == y') = true := by simpa using h2
      have E2 := Lib.hid e2
      by_cases h3 : P.z = z'
      · have e3 : (P.z == z') = true := by simpa using h3
        have E3 := Lib.hid e3
        by_cases h4 : G = g
        · have E4 := Lib.hid (show (G == g) = true by simpa using h4)
          subst h1 h2 h3 h4
          go_enter Try.func24, Try.ntmps24
          go_wp2_with fail
          refine Calls.mono (C0.out _) ?_
          rintro e w1 ⟨rfl, hb1⟩
          have o2 : Own w1 (w.heap.size + 1) #[.int .i64 P.x, .int .i64 P.y, .int .i64 P.z] := Own.below (by repeat' (first | ((refine Own.new ?_); (focus (first | rfl | omega | (simp; done) | (simp; omega)))) | assumption | refine Own.alloc ?_ _ | refine Own.drew ?_ | (refine Own.far ?_ ?_ _; rotate_left; (focus (first | rfl | omega | (simp; done) | (simp; omega)))))) hb1
          have o2c := o2.cell
          have o2f := o2.thaw
          have o2z := o2.lt
          have hs1 := hb1.size
          (try simp at hs1)
          have hw1 : Below w.heap.size w w1 := Below.hop (by repeat' (first | exact Below.refl _ _ | assumption | (refine Below.alloc ?_ ?_ _; rotate_left; (focus (first | rfl | omega | (simp; done) | (simp; omega)))) | (refine Below.setCell ?_ ?_ _; rotate_left; (focus (first | rfl | omega | (simp; done) | (simp; omega)))) | refine Below.drew ?_)) hb1
          have hz1 := hw1.size
          clear hb1
          go_wp2
          go_ret
          exact ⟨ret_bool (by unfold veq; simp), (by repeat' (first | exact Below.refl _ _ | assumption | (refine Below.alloc ?_ ?_ _; rotate_left; (focus (first | rfl | omega | (simp; done) | (simp; omega)))) | (refine Below.setCell ?_ ?_ _; rotate_left; (focus (first | rfl | omega | (simp; done) | (simp; omega)))) | refine Below.drew ?_))⟩
        · have e4 : (G == g) = false := by simpa using h4
          have E4 := Lib.hid e4
          subst h1 h2 h3
          go_enter Try.func24, Try.ntmps24
          go_wp2_with fail
          refine Calls.mono (C0.out _) ?_
          rintro e w1 ⟨rfl, hb1⟩
          have o2 : Own w1 (w.heap.size + 1) #[.int .i64 P.x, .int .i64 P.y, .int .i64 P.z] := Own.below (by repeat' (first | ((refine Own.new ?_); (focus (first | rfl | omega | (simp; done) | (simp; omega)))) | assumption | refine Own.alloc ?_ _ | refine Own.drew ?_ | (refine Own.far ?_ ?_ _; rotate_left; (focus (first | rfl | omega | (simp; done) | (simp; omega)))))) hb1
          have o2c := o2.cell
          have o2f := o2.thaw
          have o2z := o2.lt
          have hs1 := hb1.size
          (try simp at hs1)
          have hw1 : Below w.heap.size w w1 := Below.hop (by repeat' (first | exact Below.refl _ _ | assumption | (refine Below.alloc ?_ ?_ _; rotate_left; (focus (first | rfl | omega | (simp; done) | (simp; omega)))) | (refine Below.setCell ?_ ?_ _; rotate_left; (focus (first | rfl | omega | (simp; done) | (simp; omega)))) | refine Below.drew ?_)) hb1
          have hz1 := hw1.size
          clear hb1
          go_wp2
          go_ret
          exact ⟨ret_bool (by unfold veq; simp [E4.out]), (by repeat' (first | exact Below.refl _ _ | assumption | (refine Below.alloc ?_ ?_ _; rotate_left; (focus (first | rfl | omega | (simp; done) | (simp; omega)))) | (refine Below.setCell ?_ ?_ _; rotate_left; (focus (first | rfl | omega | (simp; done) | (simp; omega)))) | refine Below.drew ?_))⟩
      · have e3 : (P.z == z') = false := by simpa using h3
        have E3 := Lib.hid e3
        have E4 := Lib.hid (rfl : (1 : Nat) = 1)
        subst h1 h2
        go_enter Try.func24, Try.ntmps24
        go_wp2_with fail
        refine Calls.mono (C0.out _) ?_
        rintro e w1 ⟨rfl, hb1⟩
        have o2 : Own w1 (w.heap.size + 1) #[.int .i64 P.x, .int .i64 P.y, .int .i64 z'] := Own.below (by repeat' (first | ((refine Own.new ?_); (focus (first | rfl | omega | (simp; done) | (simp; omega)))) | assumption | refine Own.alloc ?_ _ | refine Own.drew ?_ | (refine Own.far ?_ ?_ _; rotate_left; (focus (first | rfl | omega | (simp; done) | (simp; omega)))))) hb1
        have o2c := o2.cell
        have o2f := o2.thaw
        have o2z := o2.lt
        have hs1 := hb1.size
        (try simp at hs1)
        have hw1 : Below w.heap.size w w1 := Below.hop (by repeat' (first | exact Below.refl _ _ | assumption | (refine Below.alloc ?_ ?_ _; rotate_left; (focus (first | rfl | omega | (simp; done) | (simp; omega)))) | (refine Below.setCell ?_ ?_ _; rotate_left; (focus (first | rfl | omega | (simp; done) | (simp; omega)))) | refine Below.drew ?_)) hb1
        have hz1 := hw1.size
        clear hb1
        go_wp2
        go_ret
        exact ⟨ret_bool (by unfold veq; simp [E3.out]), (by repeat' (first | exact Below.refl _ _ | assumption | (refine Below.alloc ?_ ?_ _; rotate_left; (focus (first | rfl | omega | (simp; done) | (simp; omega)))) | (refine Below.setCell ?_ ?_ _; rotate_left; (focus (first | rfl | omega | (simp; done) | (simp; omega)))) | refine Below.drew ?_))⟩
    · have e2 : (P.y == y') = false := by simpa using h2
      have E2 := Lib.hid e2
      have E3 := Lib.hid (rfl : (1 : Nat) = 1)
      have E4 := Lib.hid (rfl : (1 : Nat) = 1)
      subst h1
      go_enter Try.func24, Try.ntmps24
      go_wp2_with fail
      refine Calls.mono (C0.out _) ?_
      rintro e w1 ⟨rfl, hb1⟩
      have o2 : Own w1 (w.heap.size + 1) #[.int .i64 P.x, .int .i64 y', .int .i64 z'] := Own.below (by repeat' (first | ((refine Own.new ?_); (focus (first | rfl | omega | (simp; done) | (simp; omega)))) | assumption | refine Own.alloc ?_ _ | refine Own.drew ?_ | (refine Own.far ?_ ?_ _; rotate_left; (focus (first | rfl | omega | (simp; done) | (simp; omega)))))) hb1
      have o2c := o2.cell
      have o2f := o2.thaw
      have o2z := o2.lt
      have hs1 := hb1.size
      (try simp at hs1)
      have hw1 : Below w.heap.size w w1 := Below.hop (by repeat' (first | exact Below.refl _ _ | assumption | (refine Below.alloc ?_ ?_ _; rotate_left; (focus (first | rfl | omega | (simp; done) | (simp; omega)))) | (refine Below.setCell ?_ ?_ _; rotate_left; (focus (first | rfl | omega | (simp; done) | (simp; omega)))) | refine Below.drew ?_)) hb1
      have hz1 := hw1.size
      clear hb1
      go_wp2
      go_ret
      exact ⟨ret_bool (by unfold veq; simp [E2.out]), (by repeat' (first | exact Below.refl _ _ | assumption | (refine Below.alloc ?_ ?_ _; rotate_left; (focus (first | rfl | omega | (simp; done) | (simp; omega)))) | (refine Below.setCell ?_ ?_ _; rotate_left; (focus (first | rfl | omega | (simp; done) | (simp; omega)))) | refine Below.drew ?_))⟩
  · have e1 : (P.x == x') = false := by simpa using h1
    have E1 := Lib.hid e1
    have E2 := Lib.hid (rfl : (1 : Nat) = 1)
    have E3 := Lib.hid (rfl : (1 : Nat) = 1)
    have E4 := Lib.hid (rfl : (1 : Nat) = 1)
    go_enter Try.func24, Try.ntmps24
    go_wp2_with fail
    refine Calls.mono (C0.out _) ?_
    rintro e w1 ⟨rfl, hb1⟩
    have o2 : Own w1 (w.heap.size + 1) #[.int .i64 x', .int .i64 y', .int .i64 z'] := Own.below (by repeat' (first | ((refine Own.new ?_); (focus (first | rfl | omega | (simp; done) | (simp; omega)))) | assumption | refine Own.alloc ?_ _ | refine Own.drew ?_ | (refine Own.far ?_ ?_ _; rotate_left; (focus (first | rfl | omega | (simp; done) | (simp; omega)))))) hb1
    have o2c := o2.cell
    have o2f := o2.thaw
    have o2z := o2.lt
    have hs1 := hb1.size
    (try simp at hs1)
    have hw1 : Below w.heap.size w w1 := Below.hop (by repeat' (first | exact Below.refl _ _ | assumption | (refine Below.alloc ?_ ?_ _; rotate_left; (focus (first | rfl | omega | (simp; done) | (simp; omega)))) | (refine Below.setCell ?_ ?_ _; rotate_left; (focus (first | rfl | omega | (simp; done) | (simp; omega)))) | refine Below.drew ?_)) hb1
    have hz1 := hw1.size
    clear hb1
    go_wp2
    go_ret
    exact ⟨ret_bool (by unfold veq; simp [E1.out]), (by repeat' (first | exact Below.refl _ _ | assumption | (refine Below.alloc ?_ ?_ _; rotate_left; (focus (first | rfl | omega | (simp; done) | (simp; omega)))) | (refine Below.setCell ?_ ?_ _; rotate_left; (focus (first | rfl | omega | (simp; done) | (simp; omega)))) | refine Below.drew ?_))⟩
end Go.Proofs.Ythijnggeoinlfaa
