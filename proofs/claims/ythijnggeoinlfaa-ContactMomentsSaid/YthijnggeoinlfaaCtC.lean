/- What small functions of the laws and of the reference of package contact return; SameInts and SameVecs of equal lists. -/
import Derived.Test.YthijnggeoinlfaaCtB
import Derived.Test.YthijnggeoinlfaaLate
import Derived.Test.YthijnggeoinlfaaDraw
namespace Go.Proofs.Ythijnggeoinlfaa
open Go.RowKit

def vTimes (n : Int) (v : V3) : V3 := ⟨wrap64 (n * v.x), wrap64 (n * v.y), wrap64 (n * v.z)⟩
def vSum (v : V3) (n : Int) (u : V3) : V3 := ⟨wrap64 (v.x + wrap64 (n * u.x)), wrap64 (v.y + wrap64 (n * u.y)), wrap64 (v.z + wrap64 (n * u.z))⟩
def vSmall (v : V3) : V3 := ⟨v.x.tmod 1000, v.y.tmod 1000, v.z.tmod 1000⟩

set_option maxHeartbeats 400000 in
theorem law25_vec (x y z : Int) (w : World) :
    Calls Try.prog 58 #[.int .i64 x, .int .i64 y, .int .i64 z] w fun r w' => r = .returned (vV x y z) ∧ Below w.heap.size w w' := by
  go_enter Try.func58, Try.ntmps58
  go_wp2
  refine bodyPost_ret (v := vV x y z) (by simp [results, Try.results58, go_sem]) rfl ⟨rfl, (by repeat' (first | exact Below.refl _ _ | assumption | (refine Below.alloc ?_ ?_ _; rotate_left; (focus (first | rfl | omega | (simp; done) | (simp; omega)))) | (refine Below.setCell ?_ ?_ _; rotate_left; (focus (first | rfl | omega | (simp; done) | (simp; omega)))) | refine Below.drew ?_))⟩
set_option maxHeartbeats 400000 in
theorem ref25_times (n x y z : Int) (w : World) :
    Calls Try.prog 79 #[.int .i64 n, vV x y z] w fun r w' => r = .returned (vTimes n ⟨x, y, z⟩).v ∧ Below w.heap.size w w' := by
  go_enter Try.func79, Try.ntmps79
  go_wp2
  refine bodyPost_ret (v := (vTimes n ⟨x, y, z⟩).v) (by simp [results, Try.results79, go_sem, vTimes]) rfl ⟨rfl, (by repeat' (first | exact Below.refl _ _ | assumption | (refine Below.alloc ?_ ?_ _; rotate_left; (focus (first | rfl | omega | (simp; done) | (simp; omega)))) | (refine Below.setCell ?_ ?_ _; rotate_left; (focus (first | rfl | omega | (simp; done) | (simp; omega)))) | refine Below.drew ?_))⟩
set_option maxHeartbeats 400000 in
theorem law25_small (x y z : Int) (w : World) :
    Calls Try.prog 57 #[vV x y z] w fun r w' => r = .returned (vSmall ⟨x, y, z⟩).v ∧ Below w.heap.size w w' := by
  go_enter Try.func57, Try.ntmps57
  go_wp2_with fail
  refine Calls.mono (law25_vec _ _ _ _) ?_
  rintro e w1 ⟨rfl, hb1⟩
  have o1 : Own w1 (w.heap.size + 1) #[.int .i64 0, .int .i64 0, .int .i64 0] := Own.below (by repeat' (first | ((refine Own.new ?_); (focus (first | rfl | omega | (simp; done) | (simp; omega)))) | assumption | refine Own.alloc ?_ _ | refine Own.drew ?_ | (refine Own.far ?_ ?_ _; rotate_left; (focus (first | rfl | omega | (simp; done) | (simp; omega)))))) hb1
  have o1c := o1.cell
  have o1f := o1.thaw
  have o1z := o1.lt
  have hs1 := hb1.size
  (try simp at hs1)
  have hw1 : Below w.heap.size w w1 := Below.hop (by repeat' (first | exact Below.refl _ _ | assumption | (refine Below.alloc ?_ ?_ _; rotate_left; (focus (first | rfl | omega | (simp; done) | (simp; omega)))) | (refine Below.setCell ?_ ?_ _; rotate_left; (focus (first | rfl | omega | (simp; done) | (simp; omega)))) | refine Below.drew ?_)) hb1
  have hz1 := hw1.size
  clear hb1
  go_wp2
  refine retC (b := w.heap.size + 1) (v := (vSmall ⟨x, y, z⟩).v) (by repeat' (first | (with_reducible assumption) | ((with_reducible apply Own.new); (focus (first | rfl | omega | (simp; done) | (simp; omega)))) | (with_reducible apply Own.set) | (with_reducible apply Own.alloc) | (with_reducible apply Own.drew) | ((with_reducible apply Own.far); case hp => (focus (first | rfl | omega | (simp; done) | (simp; omega)))))) (fun w' hw' => by simp [results, Try.results57, go_sem, hw', vSmall]) rfl ⟨rfl, ?_⟩
  exact ((hw1.setCell (by simp) _).setCell (by simp) _).setCell (by simp) _
set_option maxHeartbeats 400000 in
theorem law25_sum (x y z n x' y' z' : Int) (w : World) :
    Calls Try.prog 64 #[vV x y z, .int .i64 n, vV x' y' z'] w fun r w' => r = .returned (vSum ⟨x, y, z⟩ n ⟨x', y', z'⟩).v ∧ Below w.heap.size w w' := by
  go_enter Try.func64, Try.ntmps64
  go_wp2_with fail
  refine Calls.mono (law25_vec _ _ _ _) ?_
  rintro e w1 ⟨rfl, hb1⟩
  have o1 : Own w1 (w.heap.size + 1 + 1) #[.int .i64 0, .int .i64 0, .int .i64 0] := Own.below (by repeat' (first | ((refine Own.new ?_); (focus (first | rfl | omega | (simp; done) | (simp; omega)))) | assumption | refine Own.alloc ?_ _ | refine Own.drew ?_ | (refine Own.far ?_ ?_ _; rotate_left; (focus (first | rfl | omega | (simp; done) | (simp; omega)))))) hb1
  have o1c := o1.cell
  have o1f := o1.thaw
  have o1z := o1.lt
  have hs1 := hb1.size
  (try simp at hs1)
  have hw1 : Below w.heap.size w w1 := Below.hop (by repeat' (first | exact Below.refl _ _ | assumption | (refine Below.alloc ?_ ?_ _; rotate_left; (focus (first | rfl | omega | (simp; done) | (simp; omega)))) | (refine Below.setCell ?_ ?_ _; rotate_left; (focus (first | rfl | omega | (simp; done) | (simp; omega)))) | refine Below.drew ?_)) hb1
  have hz1 := hw1.size
  clear hb1
  go_wp2
  refine retC (b := w.heap.size + 1 + 1) (v := (vSum ⟨x, y, z⟩ n ⟨x', y', z'⟩).v) (by repeat' (first | (with_reducible assumption) | ((with_reducible apply Own.new); (focus (first | rfl | omega | (simp; done) | (simp; omega)))) | (with_reducible apply Own.set) | (with_reducible apply Own.alloc) | (with_reducible apply Own.drew) | ((with_reducible apply Own.far); case hp => (focus (first | rfl | omega | (simp; done) | (simp; omega)))))) (fun w' hw' => by simp [results, Try.results64, go_sem, hw', vSum]) rfl ⟨rfl, ?_⟩
  exact ((hw1.setCell (by simp; omega) _).setCell (by simp; omega) _).setCell (by simp; omega) _
set_option maxRecDepth 100000 in
set_option maxHeartbeats 400000 in
theorem law25_with (a0 a1 a2 n0 n1 n2 mn md m d : Int) (w : World) :
    Calls Try.prog 66 #[vC a0 a1 a2 n0 n1 n2 mn md, .int .i64 m, .int .i64 d] w fun r w' => r = .returned (vC a0 a1 a2 n0 n1 n2 m d) ∧ Below w.heap.size w w' := by
  go_enter Try.func66, Try.ntmps66
  go_wp2
  refine bodyPost_ret (v := vC a0 a1 a2 n0 n1 n2 m d) (by simp [results, Try.results66, go_sem]) rfl ⟨rfl, (by repeat' (first | exact Below.refl _ _ | assumption | (refine Below.alloc ?_ ?_ _; rotate_left; (focus (first | rfl | omega | (simp; done) | (simp; omega)))) | (refine Below.setCell ?_ ?_ _; rotate_left; (focus (first | rfl | omega | (simp; done) | (simp; omega)))) | refine Below.drew ?_))⟩
set_option maxHeartbeats 400000 in
theorem ref25_absolute (x : Int) (h1 : -2147483648 ≤ x) (h2 : x ≤ 2147483648) (w : World) :
    Calls Try.prog 81 #[.int .i64 x] w fun r w' => r = .returned (.int .i64 (if x < -x then -x else x)) ∧ w = w' := by
  go_enter Try.func81, Try.ntmps81
  go_wp2
  all_goals go_ret
  all_goals exact ⟨ret_int (by first | rfl | (split <;> first | rfl | omega)), rfl⟩
theorem ng_not (x : Int) : (!ng x) = (decide (x < -2147483648) || decide (2147483648 < x)) := by
  unfold ng
  by_cases h1 : x < -2147483648
  · simp [h1, show ¬ -2147483648 ≤ x by omega]
  · by_cases h2 : 2147483648 < x
    · simp [h2, show ¬ x ≤ 2147483648 by omega]
    · simp [h1, h2, show -2147483648 ≤ x by omega, show x ≤ 2147483648 by omega]
set_option maxHeartbeats 400000 in
theorem ref25_great (x : Int) (w : World) :
    Calls Try.prog 80 #[.int .i64 x] w fun r w' => r = .returned (.bool (!ng x)) ∧ w = w' := by
  go_enter Try.func80, Try.ntmps80
  go_wp2
  all_goals go_ret
  all_goals exact ⟨ret_bool (by (try rw [ng_not]); try (first | rfl | (simp; done) | (simp; omega) | (simp [*]; done))), rfl⟩

/-- The cells of a slice that begins at the head of a block: n ints. -/
def Reads (w : World) (A : Option Addr) (n : Nat) (zs : Nat → Int) : Prop :=
  n = 0 ∨ ∃ b, A = some ⟨b, 0, none⟩ ∧ b < w.heap.size ∧ ∀ i, i < n → w.cell? ⟨b, i, none⟩ = some (.int .i64 (zs i))
theorem Reads.below {w w' : World} {A : Option Addr} {n : Nat} {zs : Nat → Int} (h : Reads w A n zs) (hb : Below w.heap.size w w') : Reads w' A n zs := by
  rcases h with h | ⟨b, h1, h2, h3⟩
  · exact .inl h
  · exact .inr ⟨b, h1, Nat.lt_of_lt_of_le h2 hb.size, fun i hi => (hb.cell (p := ⟨b, i, none⟩) h2).trans (h3 i hi)⟩
set_option maxRecDepth 100000 in
set_option maxHeartbeats 1000000 in
theorem ref4_SameInts (A B : Option Addr) (n ca cb : Nat) (zs : Nat → Int) (w : World) (hn : n ≤ 1000) (hA : Reads w A (n) zs) (hB : Reads w B (n) zs) :
    Calls Try.prog 61 #[.slice A n ca, .slice B n cb] w fun r w' => r = .returned (.bool true) ∧ Below w.heap.size w w' := by
  have HA := Lib.hid hA
  have HB := Lib.hid hB
  clear hA hB
  go_enter Try.func61, Try.ntmps61
  go_wp2
  go_loopw [5] (fun i wr => ∃ k : Nat, k ≤ n ∧ i = .int .i64 k ∧ Below w.heap.size w wr) (fun i _ => n - (intOf i).toNat)
  case atStart => exact ⟨0, by omega, rfl, Below.refl _ _⟩
  case round =>
    obtain ⟨k, hk, rfl, hw⟩ := hrel
    by_cases hlt : k < n
    · have hlt2 : (k : Int) < (n : Int) := by omega
      have hk0 : 0 ≤ (k : Int) := by omega
      obtain ⟨b, rfl, hb, hbc⟩ := (HA.out.below hw).resolve_left (by omega)
      obtain ⟨d, rfl, hd, hdc⟩ := (HB.out.below hw).resolve_left (by omega)
      have b0 := hbc (k) (by omega)
      have d0 := hdc (k) (by omega)
      clear hbc hdc
      go_wp2
      refine region_late 9 [] (by kernel_rfl) (by kernel_rfl) (by rfl) ?_
      apply Exists.intro
      refine ⟨fun v hv hne => ?_, fun u hu => ?_⟩
      · simp only [List.take_succ_cons, List.take_zero]
        have x0 := fun x : Later [] wr v => (x.cell b (k) hb (by simp)).trans b0
        have y0 := fun x : Later [] wr v => (x.cell d (k) hd (by simp)).trans d0
        repeat (go_big_quiet_step (fail))
        refine wpQuiet_nil ?_
        exact rfl
      · simp only [List.drop_succ_cons, List.drop_zero]
        refine late_nil ?_
        (try simp only [Act.put, List.setIfInBounds_toArray, List.set_cons_zero, List.set_cons_succ])
        go_wp2
        go_roundw
        case rel => exact ⟨k + 1, by omega, by go_num, Below.hop hw hu⟩
        case measure => simp [intOf]; omega
    · obtain rfl : k = n := by omega
      go_wp2
      go_ret
      exact ⟨rfl, hw⟩
set_option maxRecDepth 100000 in
set_option maxHeartbeats 1000000 in
theorem ref25_SameVecs (A B : Option Addr) (n ca cb : Nat) (zs : Nat → Int) (w : World) (hn : n ≤ 1000) (hA : Reads w A (n * 3) zs) (hB : Reads w B (n * 3) zs) :
    Calls Try.prog 54 #[.slice A n ca, .slice B n cb] w fun r w' => r = .returned (.bool true) ∧ Below w.heap.size w w' := by
  have HA := Lib.hid hA
  have HB := Lib.hid hB
  clear hA hB
  go_enter Try.func54, Try.ntmps54
  go_wp2
  go_loopw [5] (fun i wr => ∃ k : Nat, k ≤ n ∧ i = .int .i64 k ∧ Below w.heap.size w wr) (fun i _ => n - (intOf i).toNat)
  case atStart => exact ⟨0, by omega, rfl, Below.refl _ _⟩
  case round =>
    obtain ⟨k, hk, rfl, hw⟩ := hrel
    by_cases hlt : k < n
    · have hlt2 : (k : Int) < (n : Int) := by omega
      have hk0 : 0 ≤ (k : Int) := by omega
      obtain ⟨b, rfl, hb, hbc⟩ := (HA.out.below hw).resolve_left (by omega)
      obtain ⟨d, rfl, hd, hdc⟩ := (HB.out.below hw).resolve_left (by omega)
      have b0 := hbc (k * 3) (by omega)
      have d0 := hdc (k * 3) (by omega)
      have b1 := hbc (k * 3 + 1) (by omega)
      have d1 := hdc (k * 3 + 1) (by omega)
      have b2 := hbc (k * 3 + 2) (by omega)
      have d2 := hdc (k * 3 + 2) (by omega)
      clear hbc hdc
      go_wp2
      refine region_late 9 [] (by kernel_rfl) (by kernel_rfl) (by rfl) ?_
      apply Exists.intro
      refine ⟨fun v hv hne => ?_, fun u hu => ?_⟩
      · simp only [List.take_succ_cons, List.take_zero]
        have x0 := fun x : Later [] wr v => (x.cell b (k * 3) hb (by simp)).trans b0
        have y0 := fun x : Later [] wr v => (x.cell d (k * 3) hd (by simp)).trans d0
        have x1 := fun x : Later [] wr v => (x.cell b (k * 3 + 1) hb (by simp)).trans b1
        have y1 := fun x : Later [] wr v => (x.cell d (k * 3 + 1) hd (by simp)).trans d1
        have x2 := fun x : Later [] wr v => (x.cell b (k * 3 + 2) hb (by simp)).trans b2
        have y2 := fun x : Later [] wr v => (x.cell d (k * 3 + 2) hd (by simp)).trans d2
        repeat (go_big_quiet_step (fail))
        refine wpQuiet_nil ?_
        exact rfl
      · simp only [List.drop_succ_cons, List.drop_zero]
        refine late_nil ?_
        (try simp only [Act.put, List.setIfInBounds_toArray, List.set_cons_zero, List.set_cons_succ])
        go_wp2
        go_roundw
        case rel => exact ⟨k + 1, by omega, by go_num, Below.hop hw hu⟩
        case measure => simp [intOf]; omega
    · obtain rfl : k = n := by omega
      go_wp2
      go_ret
      exact ⟨rfl, hw⟩
end Go.Proofs.Ythijnggeoinlfaa
