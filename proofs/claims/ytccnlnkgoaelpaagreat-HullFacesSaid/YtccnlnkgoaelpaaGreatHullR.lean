/- The reference of package hull, first part: holds, flat, Check. -/
import Derived.Test.YtccnlnkgoaelpaaGreatHullD
import Derived.Test.YtccnlnkgoaelpaaGreatPlaneU
namespace Go.Proofs.YtccnlnkgoaelpaaGreat
open Go.RowKit Go.Shelf

theorem inside_all {L : List V3} {p : Pl} (h : ∀ j, j < L.length → pSide p (vAt L j) ≤ 0) : insideB L p = true := by
  unfold insideB
  rw [List.all_eq_true]
  intro v hv
  obtain ⟨i, hi, rfl⟩ := mem_vAt hv
  simpa using h i hi
theorem inside_not {L : List V3} {p : Pl} {k : Nat} (hk : k < L.length) (h : 0 < pSide p (vAt L k)) : insideB L p = false := by
  rw [Bool.eq_false_iff]
  intro e
  unfold insideB at e
  have := List.all_eq_true.1 e _ (vAt_mem hk)
  simp at this
  omega
/-- The cells of vector k of a list. -/
theorem VecsAt.cells {w : World} {A : Option Addr} {n : Nat} {L : List V3} (h : VecsAt w A n L) {k : Nat} (hk : k < n) {x y z : Int} (hX : vAt L k = ⟨x, y, z⟩) : ∃ b off, A = some ⟨b, off, none⟩ ∧ b < w.heap.size ∧ w.cell? ⟨b, off + k * 3, none⟩ = some (.int .i64 x) ∧ w.cell? ⟨b, off + k * 3 + 1, none⟩ = some (.int .i64 y) ∧ w.cell? ⟨b, off + k * 3 + 2, none⟩ = some (.int .i64 z) := by
  obtain ⟨b, off, rfl, hb, hc⟩ := h.row (by omega)
  have q := hc k hk
  rw [hX] at q
  exact ⟨b, off, rfl, hb, q⟩

set_option maxRecDepth 100000 in
set_option maxHeartbeats 1000000 in
theorem ref8_holds {w : World} {A : Option Addr} {n : Nat} {L : List V3} (c : Nat) (p0 p1 p2 p3 : Int) (hx : I64 p0) (hy : I64 p1) (hz : I64 p2) (hv : VecsAt w A n L) :
    Calls Tryz.prog 29 #[vP p0 p1 p2 p3, .slice A n c] w fun e w' => e = .returned (.bool (insideB L ⟨⟨p0, p1, p2⟩, p3⟩)) ∧ Below w.heap.size w w' := by
  obtain ⟨r, hr⟩ : ∃ r, insideB L ⟨⟨p0, p1, p2⟩, p3⟩ = r := ⟨_, rfl⟩
  have HR := Lib.hid hr
  rw [hr]
  clear hr
  have hl := hv.len
  have hmax := hv.max
  have HV := Lib.hid hv
  have HL := Lib.hid hl
  clear hv hl
  have hmi : (n : Int) ≤ 9223372036854775807 := by omega
  go_enter Tryz.func29, Tryz.ntmps29
  go_wp2
  have o1 : Own (w.alloc (.cells #[.int .i64 p0, .int .i64 p1, .int .i64 p2, .int .i64 p3] 46)) w.heap.size #[.int .i64 p0, .int .i64 p1, .int .i64 p2, .int .i64 p3] := Own.new rfl
  have hw := (Below.refl w.heap.size w).alloc (Nat.le_refl _) (.cells #[.int .i64 p0, .int .i64 p1, .int .i64 p2, .int .i64 p3] 46)
  go_loopw [5] (fun i wr => ∃ k : Nat, k ≤ n ∧ i = .int .i64 k ∧ Below w.heap.size w wr ∧ Own wr w.heap.size #[.int .i64 p0, .int .i64 p1, .int .i64 p2, .int .i64 p3] ∧ ∀ j, j < k → pSide ⟨⟨p0, p1, p2⟩, p3⟩ (vAt L j) ≤ 0) (fun i _ => n - (intOf i).toNat)
  case atStart => exact ⟨0, by omega, rfl, hw, o1, fun j hj => by omega⟩
  case round =>
    clear o1 hw
    obtain ⟨k, hk, rfl, hw, o1, hall⟩ := hrel
    have HALL := Lib.hid hall
    clear hall
    by_cases hlt : k < n
    · have hlt2 : (k : Int) < (n : Int) := by omega
      obtain ⟨⟨x, y, z⟩, hX⟩ : ∃ X, vAt L k = X := ⟨_, rfl⟩
      obtain ⟨b, off, rfl, hb, a1, a2, a3⟩ := (HV.out.below hw).cells hlt hX
      obtain ⟨s, hs⟩ : ∃ s, pSide ⟨⟨p0, p1, p2⟩, p3⟩ ⟨x, y, z⟩ = s := ⟨_, rfl⟩
      have HS := Lib.hid (congrArg (Value.int IntKind.i64) hs)
      have HX := Lib.hid hX
      have HSI := Lib.hid hs
      clear hs hX
      go_wp2
      refine region_late 7 [] (by kernel_rfl) (by kernel_rfl) (by rfl) ?_
      apply Exists.intro
      refine ⟨fun v hv hne => ?_, fun u hu => ?_⟩
      · simp only [List.take_succ_cons, List.take_zero]
        have do1 := fun x => (o1.later (v := v) (T := []) (by simp) x).cell
        have da1 := later_cell (v := v) (T := []) hb (by simp) a1
        have da2 := later_cell (v := v) (T := []) hb (by simp) a2
        have da3 := later_cell (v := v) (T := []) hb (by simp) a3
        repeat (go_big_quiet_step ((go_at_call 45; with_reducible exact lateB (callv (ref7_Side _ _ _ _ _ _ _ hx hy hz _) HS.out))))
        refine wpQuiet_nil ?_
        exact rfl
      · simp only [List.drop_succ_cons, List.drop_zero]
        replace o1 := o1.below hu
        replace hw := Below.hop hw hu
        clear hu a1 a2 a3
        refine late_nil ?_
        (try simp only [Act.put, List.setIfInBounds_toArray, List.set_cons_zero, List.set_cons_succ])
        by_cases h0 : 0 < s
        · have hrf : r = false := HR.out.symm.trans (inside_not (by rw [HL.out]; exact hlt) (by rw [HX.out, HSI.out]; exact h0))
          subst hrf
          clear HR
          go_wp2
          go_ret
          exact ⟨rfl, hw⟩
        · have h1 : s ≤ 0 := by omega
          go_wp2
          go_roundw
          case rel => exact ⟨k + 1, by omega, by go_num, hw, o1, fun j hj => (Decidable.em (j = k)).elim (fun e => by subst e; rw [HX.out, HSI.out]; exact h1) (fun e => HALL.out j (by omega))⟩
          case measure => simp [intOf]; omega
    · obtain rfl : k = n := by omega
      have hrf : r = true := HR.out.symm.trans (inside_all (fun j hj => HALL.out j (by rw [← HL.out]; exact hj)))
      subst hrf
      clear HR
      go_wp2
      go_ret
      exact ⟨rfl, hw⟩
end Go.Proofs.YtccnlnkgoaelpaaGreat
