/- What Side, Push and Valid in package plane and in its reference return. -/
import Derived.Test.YtccnlnkgoaelpaaPlaneC
namespace Go.Proofs.Ytccnlnkgoaelpaa
open Go.RowKit

theorem inB_of {m n : Int} (h : inB m n = true) : -m ≤ n ∧ n ≤ m := by
  unfold inB at h; simpa using h
theorem inB_not {m n : Int} (h : inB m n = false) : n < -m ∨ m < n := by
  unfold inB at h; simp at h; omega
theorem mul_bd {a c : Int} {m n : Nat} (h1 : -(m : Int) ≤ a ∧ a ≤ m) (h2 : -(n : Int) ≤ c ∧ c ≤ n) : -((m * n : Nat) : Int) ≤ a * c ∧ a * c ≤ ((m * n : Nat) : Int) := by
  have e : (a * c).natAbs ≤ m * n := by
    rw [Int.natAbs_mul]
    exact Nat.mul_le_mul (by omega) (by omega)
  omega
theorem valid_list (x y z b : Int) : pValid ⟨⟨x, y, z⟩, b⟩ = ([x, y, z].all (inB 4608) && ((vGcd ⟨x, y, z⟩ == 1) && inB 2097152 b)) := by simp [pValid]
theorem dot_bd {x y z x' y' z' b : Int} (hp : pValid ⟨⟨x, y, z⟩, b⟩ = true) (hv : vIn ⟨x', y', z'⟩ = true) :
    vDot ⟨x, y, z⟩ ⟨x', y', z'⟩ = x * x' + y * y' + z * z' ∧ (-331776 ≤ x * x' + y * y' + z * z' ∧ x * x' + y * y' + z * z' ≤ 331776) ∧ (-2097152 ≤ b ∧ b ≤ 2097152) := by
  simp only [pValid, vIn, Bool.and_eq_true] at hp hv
  have h1 := mul_bd (m := 4608) (n := 24) (inB_of hp.1.1) (inB_of hv.1)
  have h2 := mul_bd (m := 4608) (n := 24) (inB_of hp.1.2.1) (inB_of hv.2.1)
  have h3 := mul_bd (m := 4608) (n := 24) (inB_of hp.1.2.2) (inB_of hv.2.2)
  have hb := inB_of hp.2.2
  simp only [Nat.reduceMul] at h1 h2 h3
  refine ⟨?_, by omega, hb⟩
  unfold vDot wrap64
  simp only
  omega

set_option maxRecDepth 100000 in
set_option maxHeartbeats 1000000 in
theorem ref7_Valid (x y z b : Int) (hx : I64 x) (hy : I64 y) (hz : I64 z) (w : World) :
    Calls Try.prog 66 #[vP x y z b] w fun r w' => r = .returned (.bool (pValid ⟨⟨x, y, z⟩, b⟩)) ∧ Below w.heap.size w w' := by
  have E0 := Lib.hid (valid_list x y z b)
  have HX := Lib.hid (And.intro hx (And.intro hy hz))
  clear hx hy hz
  go_enter Try.func66, Try.ntmps66
  go_wp2_with fail
  refine (ref7_components _ _ _ _).mono ?_; rintro e w1 ⟨rfl, hb1⟩
  have o1 : Own w1 (w.heap.size) #[.int .i64 x, .int .i64 y, .int .i64 z, .int .i64 b] := Own.below (by repeat' (first | ((refine Own.new ?_); (focus (first | rfl | omega | (simp; done) | (simp; omega)))) | assumption | refine Own.alloc ?_ _ | refine Own.drew ?_ | (refine Own.far ?_ ?_ _; rotate_left; (focus (first | rfl | omega | (simp; done) | (simp; omega)))))) hb1
  have o1c := o1.cell
  have o1f := o1.thaw
  have o1z := o1.lt
  have hs1 := hb1.size
  (try simp at hs1)
  have hw1 : Below w.heap.size w w1 := Below.hop (by repeat' (first | exact Below.refl _ _ | assumption | (refine Below.alloc ?_ ?_ _; rotate_left; (focus (first | rfl | omega | (simp; done) | (simp; omega)))) | (refine Below.setCell ?_ ?_ _; rotate_left; (focus (first | rfl | omega | (simp; done) | (simp; omega)))) | refine Below.drew ?_)) hb1
  have hz1 := hw1.size
  clear hb1
  go_wp2
  have p1 := o1.alloc (.cells #[.int .i64 x, .int .i64 y, .int .i64 z] 97)
  have p3 : Own (w1.alloc (.cells #[.int .i64 x, .int .i64 y, .int .i64 z] 97)) w1.heap.size #[.int .i64 x, .int .i64 y, .int .i64 z] := Own.new rfl
  have hw2 := hw1.alloc (by omega) (.cells #[.int .i64 x, .int .i64 y, .int .i64 z] 97)
  clear o1c o1f o1 hw1
  generalize w1.alloc (.cells #[.int .i64 x, .int .i64 y, .int .i64 z] 97) = w2 at *
  have p3z := p3.lt
  go_loop [4] (fun i => ∃ k : Nat, k ≤ 3 ∧ i = .int .i64 k ∧ ([x, y, z].take k).all (inB 4608) = true) (fun i => 3 - (intOf i).toNat)
  case atStart => exact ⟨0, by omega, rfl, by simp⟩
  case round =>
    obtain ⟨k, hk, rfl, hall⟩ := hrel
    have HA := Lib.hid hall
    clear hall
    by_cases hlt : k < 3
    · have hk3 : (k : Int) < 3 := by omega
      have hlt' : k < [x, y, z].length := hlt
      have hcell : w2.cell? ⟨w1.heap.size, k, none⟩ = some (.int .i64 [x, y, z][k]) := (p3.cell k).trans (row3 hlt')
      go_wp2
      · go_ret
        exact ⟨ret_bool (by rw [E0.out, all_false_at (p := inB 4608) hlt' (by unfold inB; simp only [Bool.and_eq_false_iff, decide_eq_false_iff_not]; omega)]; rfl), (by repeat' (first | exact Below.refl _ _ | assumption | (refine Below.alloc ?_ ?_ _; rotate_left; (focus (first | rfl | omega | (simp; done) | (simp; omega)))) | (refine Below.setCell ?_ ?_ _; rotate_left; (focus (first | rfl | omega | (simp; done) | (simp; omega)))) | refine Below.drew ?_))⟩
      · go_round
        case rel => exact ⟨k + 1, by omega, by go_num, all_take_succ hlt' HA.out (by unfold inB; simp only [Bool.and_eq_true, decide_eq_true_eq]; omega)⟩
        case measure => simp [intOf]; omega
      · go_ret
        exact ⟨ret_bool (by rw [E0.out, all_false_at (p := inB 4608) hlt' (by unfold inB; simp only [Bool.and_eq_false_iff, decide_eq_false_iff_not]; omega)]; rfl), (by repeat' (first | exact Below.refl _ _ | assumption | (refine Below.alloc ?_ ?_ _; rotate_left; (focus (first | rfl | omega | (simp; done) | (simp; omega)))) | (refine Below.setCell ?_ ?_ _; rotate_left; (focus (first | rfl | omega | (simp; done) | (simp; omega)))) | refine Below.drew ?_))⟩
    · have hk3 : k = 3 := by omega
      subst hk3
      have hA : [x, y, z].all (inB 4608) = true := HA.out
      have HA2 := Lib.hid hA
      clear hA
      have p1c := p1.cell
      go_wp2_with fail
      refine Calls.mono (ref7_Prim x y z HX.out.1 HX.out.2.1 HX.out.2.2 _) ?_
      rintro e w3 ⟨rfl, hb3⟩
      clear p1c
      have q1 : Own w3 (w.heap.size) #[.int .i64 x, .int .i64 y, .int .i64 z, .int .i64 b] := p1.below hb3
      have q1c := q1.cell
      have q1f := q1.thaw
      have q1z := q1.lt
      have hs3 := hb3.size
      (try simp at hs3)
      have hw3 : Below w.heap.size w w3 := Below.hop (by repeat' (first | exact Below.refl _ _ | assumption | (refine Below.alloc ?_ ?_ _; rotate_left; (focus (first | rfl | omega | (simp; done) | (simp; omega)))) | (refine Below.setCell ?_ ?_ _; rotate_left; (focus (first | rfl | omega | (simp; done) | (simp; omega)))) | refine Below.drew ?_)) hb3
      have hz3 := hw3.size
      clear hb3
      by_cases hg : vGcd ⟨x, y, z⟩ = 1
      · have hg1 : (vGcd ⟨x, y, z⟩ == 1) = true := by simpa using hg
        have HG := Lib.hid hg1
        clear hg
        by_cases hb0 : -2097152 ≤ b
        · by_cases hb1 : b ≤ 2097152
          · have HB := Lib.hid (show inB 2097152 b = true by unfold inB; simp; omega)
            go_wp2
            go_ret
            exact ⟨ret_bool (by rw [E0.out, HA2.out, HG.out, HB.out]; rfl), (by repeat' (first | exact Below.refl _ _ | assumption | (refine Below.alloc ?_ ?_ _; rotate_left; (focus (first | rfl | omega | (simp; done) | (simp; omega)))) | (refine Below.setCell ?_ ?_ _; rotate_left; (focus (first | rfl | omega | (simp; done) | (simp; omega)))) | refine Below.drew ?_))⟩
          · have HB := Lib.hid (show inB 2097152 b = false by unfold inB; simp; omega)
            have hb2 : 2097152 < b := by omega
            have hb3 : decide (b ≤ 2097152) = false := by simp; omega
            clear hb1
            go_wp2
            go_ret
            exact ⟨ret_bool (by rw [E0.out, HA2.out, HG.out, HB.out]; rfl), (by repeat' (first | exact Below.refl _ _ | assumption | (refine Below.alloc ?_ ?_ _; rotate_left; (focus (first | rfl | omega | (simp; done) | (simp; omega)))) | (refine Below.setCell ?_ ?_ _; rotate_left; (focus (first | rfl | omega | (simp; done) | (simp; omega)))) | refine Below.drew ?_))⟩
        · have HB := Lib.hid (show inB 2097152 b = false by unfold inB; simp; omega)
          have hb2 : b < -2097152 := by omega
          clear hb0
          go_wp2
          go_ret
          exact ⟨ret_bool (by rw [E0.out, HA2.out, HG.out, HB.out]; rfl), (by repeat' (first | exact Below.refl _ _ | assumption | (refine Below.alloc ?_ ?_ _; rotate_left; (focus (first | rfl | omega | (simp; done) | (simp; omega)))) | (refine Below.setCell ?_ ?_ _; rotate_left; (focus (first | rfl | omega | (simp; done) | (simp; omega)))) | refine Below.drew ?_))⟩
      · have hg1 : (vGcd ⟨x, y, z⟩ == 1) = false := by simpa using hg
        have HG := Lib.hid hg1
        clear hg
        go_wp2
        go_ret
        exact ⟨ret_bool (by rw [E0.out, HA2.out, HG.out]; rfl), (by repeat' (first | exact Below.refl _ _ | assumption | (refine Below.alloc ?_ ?_ _; rotate_left; (focus (first | rfl | omega | (simp; done) | (simp; omega)))) | (refine Below.setCell ?_ ?_ _; rotate_left; (focus (first | rfl | omega | (simp; done) | (simp; omega)))) | refine Below.drew ?_))⟩

set_option maxRecDepth 100000 in
set_option maxHeartbeats 1000000 in
theorem plane_Side (x y z b x' y' z' : Int) (hx : I64 x) (hy : I64 y) (hz : I64 z) (w : World) :
    Calls Try.prog 11 #[vP x y z b, vV x' y' z'] w fun r w' => r = .returned (.int .i64 (pSide ⟨⟨x, y, z⟩, b⟩ ⟨x', y', z'⟩)) ∧ Below w.heap.size w w' := by
  cases hp : pValid ⟨⟨x, y, z⟩, b⟩
  · have HP := Lib.hid hp
    clear hp
    have hs := Lib.hid (show pSide ⟨⟨x, y, z⟩, b⟩ ⟨x', y', z'⟩ = 0 by unfold pSide; rw [HP.out]; rfl)
    go_enter Try.func11, Try.ntmps11
    go_wp2_with fail
    refine Calls.mono (callv (plane_Valid x y z b hx hy hz _) (congrArg Value.bool HP.out)) ?_
    rintro e w1 ⟨rfl, hb1⟩
    have hs1 := hb1.size
    (try simp at hs1)
    have hw1 : Below w.heap.size w w1 := Below.hop (by repeat' (first | exact Below.refl _ _ | assumption | (refine Below.alloc ?_ ?_ _; rotate_left; (focus (first | rfl | omega | (simp; done) | (simp; omega)))) | (refine Below.setCell ?_ ?_ _; rotate_left; (focus (first | rfl | omega | (simp; done) | (simp; omega)))) | refine Below.drew ?_)) hb1
    have hz1 := hw1.size
    clear hb1
    go_wp2
    go_ret
    exact ⟨ret_int hs.out.symm, (by repeat' (first | exact Below.refl _ _ | assumption | (refine Below.alloc ?_ ?_ _; rotate_left; (focus (first | rfl | omega | (simp; done) | (simp; omega)))) | (refine Below.setCell ?_ ?_ _; rotate_left; (focus (first | rfl | omega | (simp; done) | (simp; omega)))) | refine Below.drew ?_))⟩
  · have HP := Lib.hid hp
    clear hp
    cases hi : vIn ⟨x', y', z'⟩
    · have HI := Lib.hid hi
      clear hi
      have hs := Lib.hid (show pSide ⟨⟨x, y, z⟩, b⟩ ⟨x', y', z'⟩ = 0 by unfold pSide; rw [HP.out, HI.out]; rfl)
      go_enter Try.func11, Try.ntmps11
      go_wp2_with fail
      refine Calls.mono (callv (plane_Valid x y z b hx hy hz _) (congrArg Value.bool HP.out)) ?_
      rintro e w1 ⟨rfl, hb1⟩
      have o2 : Own w1 (w.heap.size + 1) #[.int .i64 x', .int .i64 y', .int .i64 z'] := Own.below (by repeat' (first | ((refine Own.new ?_); (focus (first | rfl | omega | (simp; done) | (simp; omega)))) | assumption | refine Own.alloc ?_ _ | refine Own.drew ?_ | (refine Own.far ?_ ?_ _; rotate_left; (focus (first | rfl | omega | (simp; done) | (simp; omega)))))) hb1
      have o2c := o2.cell
      have o2f := o2.thaw
      have o2z := o2.lt
      have hs1 := hb1.size
      (try simp at hs1)
      have hw1 : Below w.heap.size w w1 := Below.hop (by repeat' (first | exact Below.refl _ _ | assumption | (refine Below.alloc ?_ ?_ _; rotate_left; (focus (first | rfl | omega | (simp; done) | (simp; omega)))) | (refine Below.setCell ?_ ?_ _; rotate_left; (focus (first | rfl | omega | (simp; done) | (simp; omega)))) | refine Below.drew ?_)) hb1
      have hz1 := hw1.size
      clear hb1
      go_wp2_with fail
      refine Calls.mono (callv (plane_In x' y' z' _) (congrArg Value.bool HI.out)) ?_
      rintro e w2 ⟨rfl, hb2⟩
      have hs2 := hb2.size
      (try simp at hs2)
      have hw2 : Below w.heap.size w w2 := Below.hop (by repeat' (first | exact Below.refl _ _ | assumption | (refine Below.alloc ?_ ?_ _; rotate_left; (focus (first | rfl | omega | (simp; done) | (simp; omega)))) | (refine Below.setCell ?_ ?_ _; rotate_left; (focus (first | rfl | omega | (simp; done) | (simp; omega)))) | refine Below.drew ?_)) hb2
      have hz2 := hw2.size
      clear hb2
      go_wp2
      go_ret
      exact ⟨ret_int hs.out.symm, (by repeat' (first | exact Below.refl _ _ | assumption | (refine Below.alloc ?_ ?_ _; rotate_left; (focus (first | rfl | omega | (simp; done) | (simp; omega)))) | (refine Below.setCell ?_ ?_ _; rotate_left; (focus (first | rfl | omega | (simp; done) | (simp; omega)))) | refine Below.drew ?_))⟩
    · have HI := Lib.hid hi
      clear hi
      have hs := Lib.hid (show pSide ⟨⟨x, y, z⟩, b⟩ ⟨x', y', z'⟩ = ordI (vDot ⟨x, y, z⟩ ⟨x', y', z'⟩) b by unfold pSide; rw [HP.out, HI.out]; rfl)
      have hbd := Lib.hid (dot_bd HP.out HI.out)
      go_enter Try.func11, Try.ntmps11
      go_wp2_with fail
      refine Calls.mono (callv (plane_Valid x y z b hx hy hz _) (congrArg Value.bool HP.out)) ?_
      rintro e w1 ⟨rfl, hb1⟩
      have o1 : Own w1 (w.heap.size) #[.int .i64 x, .int .i64 y, .int .i64 z, .int .i64 b] := Own.below (by repeat' (first | ((refine Own.new ?_); (focus (first | rfl | omega | (simp; done) | (simp; omega)))) | assumption | refine Own.alloc ?_ _ | refine Own.drew ?_ | (refine Own.far ?_ ?_ _; rotate_left; (focus (first | rfl | omega | (simp; done) | (simp; omega)))))) hb1
      have o1c := o1.cell
      have o1f := o1.thaw
      have o1z := o1.lt
      have o2 : Own w1 (w.heap.size + 1) #[.int .i64 x', .int .i64 y', .int .i64 z'] := Own.below (by repeat' (first | ((refine Own.new ?_); (focus (first | rfl | omega | (simp; done) | (simp; omega)))) | assumption | refine Own.alloc ?_ _ | refine Own.drew ?_ | (refine Own.far ?_ ?_ _; rotate_left; (focus (first | rfl | omega | (simp; done) | (simp; omega)))))) hb1
      have o2c := o2.cell
      have o2f := o2.thaw
      have o2z := o2.lt
      have hs1 := hb1.size
      (try simp at hs1)
      have hw1 : Below w.heap.size w w1 := Below.hop (by repeat' (first | exact Below.refl _ _ | assumption | (refine Below.alloc ?_ ?_ _; rotate_left; (focus (first | rfl | omega | (simp; done) | (simp; omega)))) | (refine Below.setCell ?_ ?_ _; rotate_left; (focus (first | rfl | omega | (simp; done) | (simp; omega)))) | refine Below.drew ?_)) hb1
      have hz1 := hw1.size
      clear hb1
      go_wp2_with fail
      refine Calls.mono (callv (plane_In x' y' z' _) (congrArg Value.bool HI.out)) ?_
      rintro e w2 ⟨rfl, hb2⟩
      have p1 : Own w2 (w.heap.size) #[.int .i64 x, .int .i64 y, .int .i64 z, .int .i64 b] := Own.below (by repeat' (first | ((refine Own.new ?_); (focus (first | rfl | omega | (simp; done) | (simp; omega)))) | assumption | refine Own.alloc ?_ _ | refine Own.drew ?_ | (refine Own.far ?_ ?_ _; rotate_left; (focus (first | rfl | omega | (simp; done) | (simp; omega)))))) hb2
      have p1c := p1.cell
      have p1f := p1.thaw
      have p1z := p1.lt
      have p2 : Own w2 (w.heap.size + 1) #[.int .i64 x', .int .i64 y', .int .i64 z'] := Own.below (by repeat' (first | ((refine Own.new ?_); (focus (first | rfl | omega | (simp; done) | (simp; omega)))) | assumption | refine Own.alloc ?_ _ | refine Own.drew ?_ | (refine Own.far ?_ ?_ _; rotate_left; (focus (first | rfl | omega | (simp; done) | (simp; omega)))))) hb2
      have p2c := p2.cell
      have p2f := p2.thaw
      have p2z := p2.lt
      clear o1c o1f o2c o2f
      have hs2 := hb2.size
      (try simp at hs2)
      have hw2 : Below w.heap.size w w2 := Below.hop (by repeat' (first | exact Below.refl _ _ | assumption | (refine Below.alloc ?_ ?_ _; rotate_left; (focus (first | rfl | omega | (simp; done) | (simp; omega)))) | (refine Below.setCell ?_ ?_ _; rotate_left; (focus (first | rfl | omega | (simp; done) | (simp; omega)))) | refine Below.drew ?_)) hb2
      have hz2 := hw2.size
      clear hb2
      go_wp2
      refine region_late 7 [] (by kernel_rfl) (by kernel_rfl) (by rfl) ?_
      apply Exists.intro
      refine ⟨fun v hv hne => ?_, fun u hu => ?_⟩
      · simp only [List.take_succ_cons, List.take_zero]
        have d1 := fun x => (p1.later (v := v) (T := []) (by simp) x).cell
        have d2 := fun x => (p2.later (v := v) (T := []) (by simp) x).cell
        repeat (go_big_quiet_step ((first | (go_at_call 23; exact lateB (plane_Dot _ _ _ _ _ _ _)) | (go_at_call 34; exact lateS (plane_order _ _ _)))))
        refine wpQuiet_nil ?_
        exact rfl
      · simp only [List.drop_succ_cons, List.drop_zero]
        refine late_mem (fun K hK => ?_)
        go_simp
        refine hK _ _ (Keeps.of_below hu) (fun u2 hu2 => ?_)
        clear hK K
        have hw4 := Below.hop (Below.hop hw2 hu) hu2
        refine late_nil ?_
        (try simp only [Act.put, List.setIfInBounds_toArray, List.set_cons_zero, List.set_cons_succ])
        go_wp2
        go_ret
        exact ⟨ret_int (by rw [hs.out]), hw4⟩

set_option maxRecDepth 100000 in
set_option maxHeartbeats 1000000 in
theorem ref7_Side (x y z b x' y' z' : Int) (hx : I64 x) (hy : I64 y) (hz : I64 z) (w : World) :
    Calls Try.prog 45 #[vP x y z b, vV x' y' z'] w fun r w' => r = .returned (.int .i64 (pSide ⟨⟨x, y, z⟩, b⟩ ⟨x', y', z'⟩)) ∧ Below w.heap.size w w' := by
  cases hp : pValid ⟨⟨x, y, z⟩, b⟩
  · have HP := Lib.hid hp
    clear hp
    have hs := Lib.hid (show pSide ⟨⟨x, y, z⟩, b⟩ ⟨x', y', z'⟩ = 0 by unfold pSide; rw [HP.out]; rfl)
    go_enter Try.func45, Try.ntmps45
    go_wp2_with fail
    refine Calls.mono (callv (ref7_Valid x y z b hx hy hz _) (congrArg Value.bool HP.out)) ?_
    rintro e w1 ⟨rfl, hb1⟩
    have hs1 := hb1.size
    (try simp at hs1)
    have hw1 : Below w.heap.size w w1 := Below.hop (by repeat' (first | exact Below.refl _ _ | assumption | (refine Below.alloc ?_ ?_ _; rotate_left; (focus (first | rfl | omega | (simp; done) | (simp; omega)))) | (refine Below.setCell ?_ ?_ _; rotate_left; (focus (first | rfl | omega | (simp; done) | (simp; omega)))) | refine Below.drew ?_)) hb1
    have hz1 := hw1.size
    clear hb1
    go_wp2
    go_ret
    exact ⟨ret_int hs.out.symm, (by repeat' (first | exact Below.refl _ _ | assumption | (refine Below.alloc ?_ ?_ _; rotate_left; (focus (first | rfl | omega | (simp; done) | (simp; omega)))) | (refine Below.setCell ?_ ?_ _; rotate_left; (focus (first | rfl | omega | (simp; done) | (simp; omega)))) | refine Below.drew ?_))⟩
  · have HP := Lib.hid hp
    clear hp
    cases hi : vIn ⟨x', y', z'⟩
    · have HI := Lib.hid hi
      clear hi
      have hs := Lib.hid (show pSide ⟨⟨x, y, z⟩, b⟩ ⟨x', y', z'⟩ = 0 by unfold pSide; rw [HP.out, HI.out]; rfl)
      go_enter Try.func45, Try.ntmps45
      go_wp2_with fail
      refine Calls.mono (callv (ref7_Valid x y z b hx hy hz _) (congrArg Value.bool HP.out)) ?_
      rintro e w1 ⟨rfl, hb1⟩
      have o2 : Own w1 (w.heap.size + 1) #[.int .i64 x', .int .i64 y', .int .i64 z'] := Own.below (by repeat' (first | ((refine Own.new ?_); (focus (first | rfl | omega | (simp; done) | (simp; omega)))) | assumption | refine Own.alloc ?_ _ | refine Own.drew ?_ | (refine Own.far ?_ ?_ _; rotate_left; (focus (first | rfl | omega | (simp; done) | (simp; omega)))))) hb1
      have o2c := o2.cell
      have o2f := o2.thaw
      have o2z := o2.lt
      have hs1 := hb1.size
      (try simp at hs1)
      have hw1 : Below w.heap.size w w1 := Below.hop (by repeat' (first | exact Below.refl _ _ | assumption | (refine Below.alloc ?_ ?_ _; rotate_left; (focus (first | rfl | omega | (simp; done) | (simp; omega)))) | (refine Below.setCell ?_ ?_ _; rotate_left; (focus (first | rfl | omega | (simp; done) | (simp; omega)))) | refine Below.drew ?_)) hb1
      have hz1 := hw1.size
      clear hb1
      go_wp2_with fail
      refine Calls.mono (callv (ref7_In x' y' z' _) (congrArg Value.bool HI.out)) ?_
      rintro e w2 ⟨rfl, hb2⟩
      have hs2 := hb2.size
      (try simp at hs2)
      have hw2 : Below w.heap.size w w2 := Below.hop (by repeat' (first | exact Below.refl _ _ | assumption | (refine Below.alloc ?_ ?_ _; rotate_left; (focus (first | rfl | omega | (simp; done) | (simp; omega)))) | (refine Below.setCell ?_ ?_ _; rotate_left; (focus (first | rfl | omega | (simp; done) | (simp; omega)))) | refine Below.drew ?_)) hb2
      have hz2 := hw2.size
      clear hb2
      go_wp2
      go_ret
      exact ⟨ret_int hs.out.symm, (by repeat' (first | exact Below.refl _ _ | assumption | (refine Below.alloc ?_ ?_ _; rotate_left; (focus (first | rfl | omega | (simp; done) | (simp; omega)))) | (refine Below.setCell ?_ ?_ _; rotate_left; (focus (first | rfl | omega | (simp; done) | (simp; omega)))) | refine Below.drew ?_))⟩
    · have HI := Lib.hid hi
      clear hi
      have hs := Lib.hid (show pSide ⟨⟨x, y, z⟩, b⟩ ⟨x', y', z'⟩ = ordI (vDot ⟨x, y, z⟩ ⟨x', y', z'⟩) b by unfold pSide; rw [HP.out, HI.out]; rfl)
      have hbd := Lib.hid (dot_bd HP.out HI.out)
      go_enter Try.func45, Try.ntmps45
      go_wp2_with fail
      refine Calls.mono (callv (ref7_Valid x y z b hx hy hz _) (congrArg Value.bool HP.out)) ?_
      rintro e w1 ⟨rfl, hb1⟩
      have o1 : Own w1 (w.heap.size) #[.int .i64 x, .int .i64 y, .int .i64 z, .int .i64 b] := Own.below (by repeat' (first | ((refine Own.new ?_); (focus (first | rfl | omega | (simp; done) | (simp; omega)))) | assumption | refine Own.alloc ?_ _ | refine Own.drew ?_ | (refine Own.far ?_ ?_ _; rotate_left; (focus (first | rfl | omega | (simp; done) | (simp; omega)))))) hb1
      have o1c := o1.cell
      have o1f := o1.thaw
      have o1z := o1.lt
      have o2 : Own w1 (w.heap.size + 1) #[.int .i64 x', .int .i64 y', .int .i64 z'] := Own.below (by repeat' (first | ((refine Own.new ?_); (focus (first | rfl | omega | (simp; done) | (simp; omega)))) | assumption | refine Own.alloc ?_ _ | refine Own.drew ?_ | (refine Own.far ?_ ?_ _; rotate_left; (focus (first | rfl | omega | (simp; done) | (simp; omega)))))) hb1
      have o2c := o2.cell
      have o2f := o2.thaw
      have o2z := o2.lt
      have hs1 := hb1.size
      (try simp at hs1)
      have hw1 : Below w.heap.size w w1 := Below.hop (by repeat' (first | exact Below.refl _ _ | assumption | (refine Below.alloc ?_ ?_ _; rotate_left; (focus (first | rfl | omega | (simp; done) | (simp; omega)))) | (refine Below.setCell ?_ ?_ _; rotate_left; (focus (first | rfl | omega | (simp; done) | (simp; omega)))) | refine Below.drew ?_)) hb1
      have hz1 := hw1.size
      clear hb1
      go_wp2_with fail
      refine Calls.mono (callv (ref7_In x' y' z' _) (congrArg Value.bool HI.out)) ?_
      rintro e w2 ⟨rfl, hb2⟩
      have p1 : Own w2 (w.heap.size) #[.int .i64 x, .int .i64 y, .int .i64 z, .int .i64 b] := Own.below (by repeat' (first | ((refine Own.new ?_); (focus (first | rfl | omega | (simp; done) | (simp; omega)))) | assumption | refine Own.alloc ?_ _ | refine Own.drew ?_ | (refine Own.far ?_ ?_ _; rotate_left; (focus (first | rfl | omega | (simp; done) | (simp; omega)))))) hb2
      have p1c := p1.cell
      have p1f := p1.thaw
      have p1z := p1.lt
      have p2 : Own w2 (w.heap.size + 1) #[.int .i64 x', .int .i64 y', .int .i64 z'] := Own.below (by repeat' (first | ((refine Own.new ?_); (focus (first | rfl | omega | (simp; done) | (simp; omega)))) | assumption | refine Own.alloc ?_ _ | refine Own.drew ?_ | (refine Own.far ?_ ?_ _; rotate_left; (focus (first | rfl | omega | (simp; done) | (simp; omega)))))) hb2
      have p2c := p2.cell
      have p2f := p2.thaw
      have p2z := p2.lt
      clear o1c o1f o2c o2f
      have hs2 := hb2.size
      (try simp at hs2)
      have hw2 : Below w.heap.size w w2 := Below.hop (by repeat' (first | exact Below.refl _ _ | assumption | (refine Below.alloc ?_ ?_ _; rotate_left; (focus (first | rfl | omega | (simp; done) | (simp; omega)))) | (refine Below.setCell ?_ ?_ _; rotate_left; (focus (first | rfl | omega | (simp; done) | (simp; omega)))) | refine Below.drew ?_)) hb2
      have hz2 := hw2.size
      clear hb2
      go_wp2
      refine region_late 7 [] (by kernel_rfl) (by kernel_rfl) (by rfl) ?_
      apply Exists.intro
      refine ⟨fun v hv hne => ?_, fun u hu => ?_⟩
      · simp only [List.take_succ_cons, List.take_zero]
        have d1 := fun x => (p1.later (v := v) (T := []) (by simp) x).cell
        have d2 := fun x => (p2.later (v := v) (T := []) (by simp) x).cell
        repeat (go_big_quiet_step ((first | (go_at_call 65; exact lateB (ref7_Dot _ _ _ _ _ _ _)))))
        refine wpQuiet_nil ?_
        exact rfl
      · simp only [List.drop_succ_cons, List.drop_zero]
        refine late_mem (fun K hK => ?_)
        go_simp
        refine hK _ _ (Keeps.of_below hu) (fun u2 hu2 => ?_)
        clear hK K
        have hw4 := Below.hop (Below.hop hw2 hu) hu2
        refine late_nil ?_
        (try simp only [Act.put, List.setIfInBounds_toArray, List.set_cons_zero, List.set_cons_succ])
        have hwr : wrap64 (vDot ⟨x, y, z⟩ ⟨x', y', z'⟩ - b) = vDot ⟨x, y, z⟩ ⟨x', y', z'⟩ - b := by
          obtain ⟨h1, h2, h3⟩ := hbd.out
          rw [h1]; unfold wrap64; omega
        have HW := Lib.hid hwr
        clear hwr
        generalize vDot ⟨x, y, z⟩ ⟨x', y', z'⟩ = D at *
        by_cases c1 : wrap64 (D - b) < 0
        · go_wp2
          go_ret
          exact ⟨ret_int (by rw [hs.out]; unfold ordI; rw [HW.out] at c1; rw [if_pos (by omega)]), hw4⟩
        · by_cases c2 : 0 < wrap64 (D - b)
          · go_wp2
            go_ret
            exact ⟨ret_int (by rw [hs.out]; unfold ordI; rw [HW.out] at c1 c2; rw [if_neg (by omega), if_pos (by omega)]), hw4⟩
          · go_wp2
            go_ret
            exact ⟨ret_int (by rw [hs.out]; unfold ordI; rw [HW.out] at c1 c2; rw [if_neg (by omega), if_neg (by omega)]), hw4⟩
end Go.Proofs.Ytccnlnkgoaelpaa
