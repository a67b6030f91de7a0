/- The reference of package hull: Check. -/
import Derived.Test.YtccnlnkgoaelpaaGreatHullR2
namespace Go.Proofs.YtccnlnkgoaelpaaGreat
open Go.RowKit Go.Shelf

theorem vin_all {L : List V3} (h : ∀ j, j < L.length → vIn (vAt L j) = true) : L.all vIn = true := by
  rw [List.all_eq_true]
  intro v hv
  obtain ⟨i, hi, rfl⟩ := mem_vAt hv
  exact h i hi
theorem vin_not {L : List V3} {k : Nat} (hk : k < L.length) (h : vIn (vAt L k) = false) : L.all vIn = false := by
  rw [Bool.eq_false_iff]
  intro e
  have := List.all_eq_true.1 e _ (vAt_mem hk)
  rw [h] at this
  cases this
set_option maxRecDepth 100000 in
set_option maxHeartbeats 1000000 in
theorem ref8_Check {w : World} {A : Option Addr} {n : Nat} {L : List V3} (c : Nat) (hv : VecsAt w A n L) :
    Calls Tryz.prog 14 #[.slice A n c] w fun e w' => e = .returned (.int .i64 (hCheck L)) ∧ Below w.heap.size w w' := by
  obtain ⟨r, hr⟩ : ∃ r, hCheck L = r := ⟨_, rfl⟩
  have HR := Lib.hid hr
  rw [hr]
  clear hr
  have hl := hv.len
  have hmax := hv.max
  have HV := Lib.hid hv
  have HL := Lib.hid hl
  clear hv hl
  have hmi : (n : Int) ≤ 9223372036854775807 := by omega
  go_enter Tryz.func14, Tryz.ntmps14
  by_cases h48 : 48 < n
  · have h482 : (48 : Int) < (n : Int) := by omega
    have hz : r = 2 := HR.out.symm.trans (by unfold hCheck; rw [HL.out, if_pos h48])
    subst hz
    clear HR
    go_wp2
    go_ret
    exact ⟨rfl, Below.refl _ _⟩
  · have h482 : (n : Int) ≤ 48 := by omega
    go_wp2
    go_loopw [3] (fun i wr => ∃ k : Nat, k ≤ n ∧ i = .int .i64 k ∧ Below w.heap.size w wr ∧ ∀ j, j < k → vIn (vAt L j) = true) (fun i _ => n - (intOf i).toNat)
    case atStart => exact ⟨0, by omega, rfl, Below.refl _ _, fun j hj => by omega⟩
    case round =>
      obtain ⟨k, hk, rfl, hw, hall⟩ := hrel
      have HALL := Lib.hid hall
      clear hall
      by_cases hlt : k < n
      · have hlt2 : (k : Int) < (n : Int) := by omega
        obtain ⟨⟨x, y, z⟩, hX⟩ : ∃ X, vAt L k = X := ⟨_, rfl⟩
        obtain ⟨b, off, rfl, hb, a1, a2, a3⟩ := (HV.out.below hw).cells hlt hX
        obtain ⟨s, hs⟩ : ∃ s, vIn ⟨x, y, z⟩ = s := ⟨_, rfl⟩
        have HS := Lib.hid (congrArg Value.bool hs)
        have HX := Lib.hid hX
        have HSI := Lib.hid hs
        clear hs hX
        go_wp2_with fail
        refine Calls.mono (callv (ref7_In x y z _) HS.out) ?_
        rintro e w1 ⟨rfl, hb1⟩
        replace hw := Below.hop hw hb1
        clear hb1 a1 a2 a3
        cases s
        · have hz : r = 3 := HR.out.symm.trans (by unfold hCheck; rw [HL.out, if_neg h48, vin_not (by rw [HL.out]; exact hlt) (by rw [HX.out, HSI.out])]; rfl)
          subst hz
          clear HR
          go_wp2
          go_ret
          exact ⟨rfl, hw⟩
        · go_wp2
          go_roundw
          case rel => exact ⟨k + 1, by omega, by go_num, hw, fun j hj => (Decidable.em (j = k)).elim (fun e => by subst e; rw [HX.out, HSI.out]) (fun e => HALL.out j (by omega))⟩
          case measure => simp [intOf]; omega
      · obtain rfl : k = n := by omega
        have hin : L.all vIn = true := vin_all (fun j hj => HALL.out j (by rw [← HL.out]; exact hj))
        have hz : r = if flatB L = true then 11 else 0 := HR.out.symm.trans (by unfold hCheck; rw [HL.out, if_neg h48, hin]; rfl)
        have hfl := ref8_flat c (HV.out.below hw) hin
        generalize flatB L = fb at hz hfl
        have HF := Lib.hid hfl
        clear HR hin hfl
        go_wp2_with fail
        refine Calls.mono HF.out ?_
        rintro e w1 ⟨rfl, hb1⟩
        replace hw := Below.hop hw hb1
        clear hb1 HF
        cases fb
        · have hz2 : r = 0 := hz
          subst hz2
          go_wp2
          go_ret
          exact ⟨rfl, hw⟩
        · have hz2 : r = 11 := hz
          subst hz2
          go_wp2
          go_ret
          exact ⟨rfl, hw⟩
end Go.Proofs.YtccnlnkgoaelpaaGreat
