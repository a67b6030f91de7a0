/- The reference of package hull: Before, SameVecs, SamePlanes. -/
import Derived.Test.YtccnlnkgoaelpaaHullR3
import Derived.Test.YtccnlnkgoaelpaaHullH
namespace Go.Proofs.Ytccnlnkgoaelpaa
open Go.RowKit Go.Shelf

set_option maxRecDepth 100000 in
set_option maxHeartbeats 1000000 in
theorem ref8_Before (x y z x' y' z' : Int) (w : World) :
    Calls Try.prog 16 #[vV x y z, vV x' y' z'] w fun e w' => e = .returned (.bool (vLt ⟨x, y, z⟩ ⟨x', y', z'⟩)) ∧ Below w.heap.size w w' := by
  obtain ⟨r, hr⟩ : ∃ r, vLt ⟨x, y, z⟩ ⟨x', y', z'⟩ = r := ⟨_, rfl⟩
  have HR := Lib.hid hr
  rw [hr]
  clear hr
  have hw := ((Below.refl w.heap.size w).alloc (Nat.le_refl _) (.cells #[.int .i64 x, .int .i64 y, .int .i64 z] 31)).alloc (by simp) (.cells #[.int .i64 x', .int .i64 y', .int .i64 z'] 31)
  have HW := Lib.hid hw
  clear hw
  go_enter Try.func16, Try.ntmps16
  by_cases hx : x = x'
  · subst hx
    by_cases hy : y = y'
    · subst hy
      have hz : r = decide (z < z') := HR.out.symm.trans (by unfold vLt; simp)
      subst hz
      clear HR
      go_wp2
      go_ret
      exact ⟨rfl, HW.out⟩
    · have hz : r = decide (y < y') := HR.out.symm.trans (by unfold vLt; simp [hy])
      subst hz
      clear HR
      go_wp2
      go_ret
      exact ⟨rfl, HW.out⟩
  · have hz : r = decide (x < x') := HR.out.symm.trans (by unfold vLt; simp [hx])
    subst hz
    clear HR
    go_wp2
    go_ret
    exact ⟨rfl, HW.out⟩
/-- The cells of plane k of a list. -/
theorem PlsAt.cells {w : World} {A : Option Addr} {n : Nat} {L : List Pl} (h : PlsAt w A n L) {k : Nat} (hk : k < n) {x y z b0 : Int} (hX : pAt L k = ⟨⟨x, y, z⟩, b0⟩) : ∃ b off, A = some ⟨b, off, none⟩ ∧ b < w.heap.size ∧ w.cell? ⟨b, off + k * 4, none⟩ = some (.int .i64 x) ∧ w.cell? ⟨b, off + k * 4 + 1, none⟩ = some (.int .i64 y) ∧ w.cell? ⟨b, off + k * 4 + 2, none⟩ = some (.int .i64 z) ∧ w.cell? ⟨b, off + k * 4 + 3, none⟩ = some (.int .i64 b0) := by
  obtain ⟨b, off, rfl, hb, hc⟩ := h.row (by omega)
  have q := hc k hk
  rw [hX] at q
  exact ⟨b, off, rfl, hb, q⟩

set_option maxRecDepth 100000 in
set_option maxHeartbeats 1000000 in
theorem ref8_SameVecs {w : World} {A B : Option Addr} {n : Nat} {L : List V3} (c d : Nat) (hv : VecsAt w A n L) (hu : VecsAt w B n L) :
    Calls Try.prog 24 #[.slice A n c, .slice B n d] w fun e w' => e = .returned (.bool true) ∧ Below w.heap.size w w' := by
  have hmax := hv.max
  have HV := Lib.hid hv
  have HU := Lib.hid hu
  clear hv hu
  have hmi : (n : Int) ≤ 9223372036854775807 := by omega
  go_enter Try.func24, Try.ntmps24
  go_wp2
  go_loopw [5] (fun i wr => ∃ k : Nat, k ≤ n ∧ i = .int .i64 k ∧ Below w.heap.size w wr) (fun i _ => n - (intOf i).toNat)
  case atStart => exact ⟨0, by omega, rfl, Below.refl _ _⟩
  case round =>
    obtain ⟨k, hk, rfl, hw⟩ := hrel
    by_cases hlt : k < n
    · have hlt2 : (k : Int) < (n : Int) := by omega
      obtain ⟨⟨x, y, z⟩, hX⟩ : ∃ X, vAt L k = X := ⟨_, rfl⟩
      obtain ⟨b, off, rfl, hb, a1, a2, a3⟩ := (HV.out.below hw).cells hlt hX
      obtain ⟨b', off', rfl, hb2, b1, b2, b3⟩ := (HU.out.below hw).cells hlt hX
      clear hX
      go_wp2
      refine region_late 9 [] (by kernel_rfl) (by kernel_rfl) (by rfl) ?_
      apply Exists.intro
      refine ⟨fun v hv hne => ?_, fun u hu => ?_⟩
      · simp only [List.take_succ_cons, List.take_zero]
        have da1 := later_cell (v := v) (T := []) hb (by simp) a1
        have db1 := later_cell (v := v) (T := []) hb2 (by simp) b1
        have da2 := later_cell (v := v) (T := []) hb (by simp) a2
        have db2 := later_cell (v := v) (T := []) hb2 (by simp) b2
        have da3 := later_cell (v := v) (T := []) hb (by simp) a3
        have db3 := later_cell (v := v) (T := []) hb2 (by simp) b3
        repeat (go_big_quiet_step (fail))
        refine wpQuiet_nil ?_
        exact rfl
      · simp only [List.drop_succ_cons, List.drop_zero]
        replace hw := Below.hop hw hu
        clear hu a1 a2 a3 b1 b2 b3
        refine late_nil ?_
        (try simp only [Act.put, List.setIfInBounds_toArray, List.set_cons_zero, List.set_cons_succ])
        go_wp2
        go_roundw
        case rel => exact ⟨k + 1, by omega, by go_num, hw⟩
        case measure => simp [intOf]; omega
    · obtain rfl : k = n := by omega
      go_wp2
      go_ret
      exact ⟨rfl, hw⟩

set_option maxRecDepth 100000 in
set_option maxHeartbeats 1000000 in
theorem ref8_SamePlanes {w : World} {A B : Option Addr} {n : Nat} {L : List Pl} (c d : Nat) (hv : PlsAt w A n L) (hu : PlsAt w B n L) :
    Calls Try.prog 15 #[.slice A n c, .slice B n d] w fun e w' => e = .returned (.bool true) ∧ Below w.heap.size w w' := by
  have hmax := hv.max
  have HV := Lib.hid hv
  have HU := Lib.hid hu
  clear hv hu
  have hmi : (n : Int) ≤ 9223372036854775807 := by omega
  go_enter Try.func15, Try.ntmps15
  go_wp2
  go_loopw [5] (fun i wr => ∃ k : Nat, k ≤ n ∧ i = .int .i64 k ∧ Below w.heap.size w wr) (fun i _ => n - (intOf i).toNat)
  case atStart => exact ⟨0, by omega, rfl, Below.refl _ _⟩
  case round =>
    obtain ⟨k, hk, rfl, hw⟩ := hrel
    by_cases hlt : k < n
    · have hlt2 : (k : Int) < (n : Int) := by omega
      obtain ⟨⟨⟨x, y, z⟩, b0⟩, hX⟩ : ∃ X, pAt L k = X := ⟨_, rfl⟩
      obtain ⟨b, off, rfl, hb, a1, a2, a3, a4⟩ := (HV.out.below hw).cells hlt hX
      obtain ⟨b', off', rfl, hb2, b1, b2, b3, b4⟩ := (HU.out.below hw).cells hlt hX
      clear hX
      go_wp2
      refine region_late 9 [] (by kernel_rfl) (by kernel_rfl) (by rfl) ?_
      apply Exists.intro
      refine ⟨fun v hv hne => ?_, fun u hu => ?_⟩
      · simp only [List.take_succ_cons, List.take_zero]
        have da1 := later_cell (v := v) (T := []) hb (by simp) a1
        have db1 := later_cell (v := v) (T := []) hb2 (by simp) b1
        have da2 := later_cell (v := v) (T := []) hb (by simp) a2
        have db2 := later_cell (v := v) (T := []) hb2 (by simp) b2
        have da3 := later_cell (v := v) (T := []) hb (by simp) a3
        have db3 := later_cell (v := v) (T := []) hb2 (by simp) b3
        have da4 := later_cell (v := v) (T := []) hb (by simp) a4
        have db4 := later_cell (v := v) (T := []) hb2 (by simp) b4
        repeat (go_big_quiet_step (fail))
        refine wpQuiet_nil ?_
        exact rfl
      · simp only [List.drop_succ_cons, List.drop_zero]
        replace hw := Below.hop hw hu
        clear hu a1 a2 a3 a4 b1 b2 b3 b4
        refine late_nil ?_
        (try simp only [Act.put, List.setIfInBounds_toArray, List.set_cons_zero, List.set_cons_succ])
        go_wp2
        go_roundw
        case rel => exact ⟨k + 1, by omega, by go_num, hw⟩
        case measure => simp [intOf]; omega
    · obtain rfl : k = n := by omega
      go_wp2
      go_ret
      exact ⟨rfl, hw⟩
end Go.Proofs.Ytccnlnkgoaelpaa
