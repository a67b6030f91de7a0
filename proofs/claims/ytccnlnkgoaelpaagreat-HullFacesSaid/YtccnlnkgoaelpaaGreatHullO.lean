/- The reference of package hull: Extreme and Has. -/
import Derived.Test.YtccnlnkgoaelpaaGreatHullF
import Derived.Test.YtccnlnkgoaelpaaGreatHullL2
namespace Go.Proofs.YtccnlnkgoaelpaaGreat
open Go.RowKit Go.Shelf

theorem extR_len (f : List Pl) (L : List V3) : ∀ k, (extR f L k).length ≤ k
  | 0 => by simp [extR]
  | k + 1 => by
    have h := extR_len f L k
    unfold extR
    split
    · have := putG_len (lt := vLt) (vAt L k) (extR f L k); omega
    · omega
theorem extR_yes {f : List Pl} {L : List V3} {k : Nat} {v : V3} (hv : vAt L k = v) (h : cornerB f v = true) : extR f L (k + 1) = putG vLt (extR f L k) v := by
  rw [extR, hv, if_pos h]
theorem extR_no {f : List Pl} {L : List V3} {k : Nat} {v : V3} (hv : vAt L k = v) (h : cornerB f v = false) : extR f L (k + 1) = extR f L k := by
  rw [extR, hv, if_neg (by rw [h]; decide)]
set_option maxRecDepth 100000 in
set_option maxHeartbeats 4000000 in
theorem ref8_Extreme {w : World} {A : Option Addr} {n : Nat} {L : List V3} (c : Nat) (hv : VecsAt w A n L) :
    Calls Tryz.prog 12 #[.slice A n c] w fun e w' => (∃ v, e = .returned (.tuple #[v, .int .i64 (hCheck L)]) ∧ SlW w' v (hExtreme L)) ∧ Below w.heap.size w w' := by
  have hcon := ref8_Faces c hv
  obtain ⟨r, hr⟩ : ∃ r, hCheck L = r := ⟨_, rfl⟩
  obtain ⟨F, hF⟩ : ∃ F, hFaces L = F := ⟨_, rfl⟩
  rw [hr, hF] at hcon
  have HCON := Lib.hid hcon
  have HR := Lib.hid hr
  rw [hr]
  have hl := hv.len
  have hmax := hv.max
  have HV := Lib.hid hv
  have HL := Lib.hid hl
  have hf0 : r ≠ 0 → hExtreme L = [] := fun h => if_neg (by rw [hr]; exact h)
  have hf1 : r = 0 → hExtreme L = extR F L n ∧ n ≤ 48 ∧ F.length ≤ 230000 ∧ ∀ i, i < F.length → cl (pAt F i) = pAt F i := fun h => by
    have hc0 := hr.trans h
    obtain ⟨h48, _, _⟩ := check_ok hc0
    have hFF : F = facets L := by rw [← hF]; exact if_pos hc0
    subst hFF
    refine ⟨?_, by omega, facets_len h48, fun i hi => facets_cl (pAt_mem hi)⟩
    rw [← hl, ext_eq]
    exact if_pos hc0
  have HF0 := Lib.hid hf0
  have HF1 := Lib.hid hf1
  clear hv hl hr hf0 hf1 hcon hF
  have hmi : (n : Int) ≤ 9223372036854775807 := by omega
  go_enter Tryz.func12, Tryz.ntmps12
  go_wp2_with fail
  refine Calls.mono HCON.out ?_
  rintro e w1 ⟨⟨v, rfl, hs⟩, hw⟩
  obtain ⟨A1, c1, rfl, h1, h2, hpl⟩ := hs.any
  have HPL := Lib.hid hpl
  have HW1 := Lib.hid hw
  clear HCON hs hpl
  by_cases h0 : r = 0
  · subst h0
    obtain ⟨hE, h48, hfl, hcl⟩ := HF1.out rfl
    have HE := Lib.hid hE
    have HCL := Lib.hid hcl
    clear hE hcl HF0 HF1
    go_wp2
    go_loopw [6, 7] (fun o i wr => ∃ k : Nat, k ≤ n ∧ i = .int .i64 k ∧ Below w1.heap.size w1 wr ∧ SlW wr o (extR F L k)) (fun _ i _ => n - (intOf i).toNat)
    case atStart => exact ⟨0, by omega, rfl, Below.refl _ _, .inl ⟨rfl, rfl⟩⟩
    case round =>
      clear hw
      obtain ⟨k, hk, rfl, hw, hs⟩ := hrel
      have HS := Lib.hid hs
      have hlen := extR_len F L k
      clear hs
      by_cases hlt : k < n
      · have hlt2 : (k : Int) < (n : Int) := by omega
        obtain ⟨⟨x, y, z⟩, hX⟩ : ∃ X, vAt L k = X := ⟨_, rfl⟩
        obtain ⟨b, off, rfl, hb, a1, a2, a3⟩ := ((HV.out.below HW1.out).below hw).cells hlt hX
        obtain ⟨s, hs⟩ : ∃ s, cornerB F ⟨x, y, z⟩ = s := ⟨_, rfl⟩
        have HSV := Lib.hid (congrArg Value.bool hs)
        have HSI := Lib.hid hs
        have HX := Lib.hid hX
        clear hs hX
        go_wp2_with fail
        refine Calls.mono (callv (ref8_corner c1 x y z (HPL.out.below hw) HCL.out (by omega)) HSV.out) ?_
        rintro e w2 ⟨rfl, hbx⟩
        have HS2 := Lib.hid (HS.out.below hbx)
        replace hw := Below.hop hw hbx
        clear hbx HS HSV a1 a2 a3
        cases s
        · go_wp2
          go_roundw
          case rel => exact ⟨k + 1, by omega, by go_num, hw, by rw [extR_no HX.out HSI.out]; exact HS2.out⟩
          case measure => simp [intOf]; omega
        · obtain ⟨b', off', he, hb2, a1, a2, a3⟩ := ((HV.out.below HW1.out).below hw).cells hlt HX.out
          cases he
          go_wp2_with fail
          refine Calls.mono (ref8_Put x y z HS2.out (by omega)) ?_
          rintro e w3 ⟨⟨v3, rfl, hs3⟩, hbx⟩
          have HS3 := Lib.hid hs3
          replace hw := Below.hop hw hbx
          clear hbx hs3 HS2 a1 a2 a3
          go_wp2
          go_roundw
          case rel => exact ⟨k + 1, by omega, by go_num, hw, by rw [extR_yes HX.out HSI.out]; exact HS3.out⟩
          case measure => simp [intOf]; omega
      · obtain rfl : k = n := by omega
        go_wp2
        go_ret2
        refine ⟨⟨_, rfl, ?_⟩, Below.hop HW1.out hw⟩
        rw [HE.out]
        exact HS.out
  · go_wp2
    go_ret2
    exact ⟨⟨_, rfl, .inl ⟨HF0.out h0, rfl⟩⟩, hw⟩
theorem has_no {L : List V3} {v : V3} {p : Pl} {k : Nat} (hk : k < (facets L).length) (hp : pAt (facets L) k = p) (h : 0 < pSide p v) : hHas L v = false := by
  rw [Bool.eq_false_iff]
  intro e
  unfold hHas at e
  simp only [Bool.and_eq_true] at e
  have q := List.all_eq_true.1 e.2.2 _ (pAt_mem hk)
  rw [hp] at q
  simp at q
  omega
theorem has_yes {L : List V3} {v : V3} (hc : hCheck L = 0) (hv : vIn v = true) (h : ∀ j, j < (facets L).length → pSide (pAt (facets L) j) v ≤ 0) : hHas L v = true := by
  unfold hHas
  rw [hv, hc]
  simp only [decide_true, Bool.true_and]
  rw [List.all_eq_true]
  intro p hp
  obtain ⟨j, hj, rfl⟩ := mem_pAt hp
  simpa using h j hj
set_option maxRecDepth 100000 in
set_option maxHeartbeats 4000000 in
theorem ref8_Has {w : World} {A : Option Addr} {n : Nat} {L : List V3} (c : Nat) (x y z : Int) (hv : VecsAt w A n L) :
    Calls Tryz.prog 20 #[.slice A n c, vV x y z] w fun e w' => e = .returned (.bool (hHas L ⟨x, y, z⟩)) ∧ Below w.heap.size w w' := by
  have o2 : Own (w.alloc (.cells #[.int .i64 x, .int .i64 y, .int .i64 z] 24)) w.heap.size #[.int .i64 x, .int .i64 y, .int .i64 z] := Own.new rfl
  have hw0 := (Below.refl w.heap.size w).alloc (Nat.le_refl _) (.cells #[.int .i64 x, .int .i64 y, .int .i64 z] 24)
  have hv0 := hv.below ((Below.refl w.heap.size w).alloc (Nat.le_refl _) (.cells #[.int .i64 x, .int .i64 y, .int .i64 z] 24))
  have hcon := ref8_Faces c hv0
  obtain ⟨R, hR⟩ : ∃ R, hHas L ⟨x, y, z⟩ = R := ⟨_, rfl⟩
  rw [hR]
  obtain ⟨r, hr⟩ : ∃ r, hCheck L = r := ⟨_, rfl⟩
  obtain ⟨F, hF⟩ : ∃ F, hFaces L = F := ⟨_, rfl⟩
  rw [hr, hF] at hcon
  have HCON := Lib.hid hcon
  obtain ⟨i, hi⟩ : ∃ i, vIn ⟨x, y, z⟩ = i := ⟨_, rfl⟩
  have HIV := Lib.hid (congrArg Value.bool hi)
  have hf0 : r ≠ 0 → R = false := fun h => by rw [← hR]; unfold hHas; rw [hr, decide_eq_false h]; rfl
  have hf1 : i = false → R = false := fun h => by rw [← hR]; unfold hHas; rw [hi, h]; simp
  have hf2 : r = 0 → F.length ≤ 230000 ∧ (∀ i, i < F.length → cl (pAt F i) = pAt F i) ∧ (∀ k p, k < F.length → pAt F k = p → 0 < pSide p ⟨x, y, z⟩ → R = false) ∧ (i = true → (∀ j, j < F.length → pSide (pAt F j) ⟨x, y, z⟩ ≤ 0) → R = true) := fun h => by
    have hc0 := hr.trans h
    obtain ⟨h48, _, _⟩ := check_ok hc0
    have hFF : F = facets L := by rw [← hF]; exact if_pos hc0
    subst hFF
    refine ⟨facets_len h48, fun i hi => facets_cl (pAt_mem hi), fun k p hk hp hs => hR.symm.trans (has_no hk hp hs), fun h1 h2 => hR.symm.trans (has_yes hc0 (hi.trans h1) h2)⟩
  have HF0 := Lib.hid hf0
  have HF1 := Lib.hid hf1
  have HF2 := Lib.hid hf2
  have hmax := hv.max
  clear hv hv0 hr hf0 hf1 hf2 hcon hF hi hR
  have hmi : (n : Int) ≤ 9223372036854775807 := by omega
  go_enter Tryz.func20, Tryz.ntmps20
  go_wp2_with fail
  refine Calls.mono HCON.out ?_
  rintro e w1 ⟨⟨v, rfl, hs⟩, hbx⟩
  obtain ⟨A1, c1, rfl, h1, h2, hpl⟩ := hs.any
  have HPL := Lib.hid hpl
  replace o2 := o2.below hbx
  have o2c := o2.cell
  have o2f := o2.thaw
  have o2z := o2.lt
  have hw := Below.hop hw0 hbx
  clear HCON hs hpl hbx hw0
  by_cases h0 : r = 0
  · subst h0
    obtain ⟨hfl, hcl, hno, hyes⟩ := HF2.out rfl
    have HCL := Lib.hid hcl
    have HNO := Lib.hid hno
    have HYES := Lib.hid hyes
    clear hcl hno hyes HF0 HF2
    go_wp2_with fail
    refine Calls.mono (callv (ref7_In x y z _) HIV.out) ?_
    rintro e w2 ⟨rfl, hbx⟩
    replace o2 := o2.below hbx
    replace hw := Below.hop hw hbx
    have HPL2 := Lib.hid (HPL.out.below hbx)
    clear hbx o2c o2f o2z HPL
    cases i
    · obtain rfl := HF1.out rfl
      go_wp2
      go_ret
      exact ⟨rfl, hw⟩
    · have hfi : (F.length : Int) ≤ 230000 := by omega
      clear HF1
      obtain ⟨m, hm⟩ : ∃ m, F.length = m := ⟨_, rfl⟩
      have HM := Lib.hid hm
      rw [hm] at hfi hfl HPL2 h1 ⊢
      clear hm
      go_wp2
      go_loopw [7] (fun i wr => ∃ k : Nat, k ≤ m ∧ i = .int .i64 k ∧ Below w2.heap.size w2 wr ∧ Own wr w.heap.size #[.int .i64 x, .int .i64 y, .int .i64 z] ∧ ∀ j, j < k → pSide (pAt F j) ⟨x, y, z⟩ ≤ 0) (fun i _ => m - (intOf i).toNat)
      case atStart => exact ⟨0, by omega, rfl, Below.refl _ _, o2, fun j hj => by omega⟩
      case round =>
        clear o2
        have HW2 := Lib.hid hw
        clear hw
        obtain ⟨k, hk, rfl, hw, o2, hall⟩ := hrel
        have HALL := Lib.hid hall
        clear hall
        by_cases hlt : k < m
        · have hlt2 : (k : Int) < (m : Int) := by omega
          obtain ⟨⟨⟨p0, p1, p2⟩, p3⟩, hX⟩ : ∃ X, pAt F k = X := ⟨_, rfl⟩
          obtain ⟨b, off, rfl, hb, a1, a2, a3, a4⟩ := (HPL2.out.below hw).cells hlt hX
          obtain ⟨hx, hy, hz, _⟩ : I64 p0 ∧ I64 p1 ∧ I64 p2 ∧ I64 p3 := by
            have q := cl_i64 (pAt F k)
            rw [HCL.out k (by rw [HM.out]; exact hlt), hX] at q
            exact q
          obtain ⟨s, hs⟩ : ∃ s, pSide ⟨⟨p0, p1, p2⟩, p3⟩ ⟨x, y, z⟩ = s := ⟨_, rfl⟩
          have HS := Lib.hid (congrArg (Value.int IntKind.i64) hs)
          have HX := Lib.hid hX
          have HSI := Lib.hid hs
          clear hs hX
          go_wp2
          refine region_late 7 [] (by kernel_rfl) (by kernel_rfl) (by rfl) ?_
          apply Exists.intro
          refine ⟨fun v hv hne => ?_, fun u hu => ?_⟩
          · simp only [List.take_succ_cons, List.take_zero]
            have do1 := fun x => (o2.later (v := v) (T := []) (by simp) x).cell
            have da1 := later_cell (v := v) (T := []) hb (by simp) a1
            have da2 := later_cell (v := v) (T := []) hb (by simp) a2
            have da3 := later_cell (v := v) (T := []) hb (by simp) a3
            have da4 := later_cell (v := v) (T := []) hb (by simp) a4
            repeat (go_big_quiet_step ((go_at_call 45; with_reducible exact lateB (callv (ref7_Side _ _ _ _ _ _ _ hx hy hz _) HS.out))))
            refine wpQuiet_nil ?_
            exact rfl
          · simp only [List.drop_succ_cons, List.drop_zero]
            replace o2 := o2.below hu
            replace hw := Below.hop hw hu
            clear hu a1 a2 a3 a4
            refine late_nil ?_
            (try simp only [Act.put, List.setIfInBounds_toArray, List.set_cons_zero, List.set_cons_succ])
            by_cases hs0 : 0 < s
            · obtain rfl := HNO.out k _ (by rw [HM.out]; exact hlt) HX.out (by rw [HSI.out]; exact hs0)
              go_wp2
              go_ret
              exact ⟨rfl, Below.hop HW2.out hw⟩
            · have hs1 : s ≤ 0 := by omega
              go_wp2
              go_roundw
              case rel => exact ⟨k + 1, by omega, by go_num, hw, o2, fun j hj => (Decidable.em (j = k)).elim (fun e => by subst e; rw [HX.out, HSI.out]; exact hs1) (fun e => HALL.out j (by omega))⟩
              case measure => simp [intOf]; omega
        · obtain rfl : k = m := by omega
          obtain rfl := HYES.out trivial (fun j hj => HALL.out j (by rw [← HM.out]; exact hj))
          go_wp2
          go_ret
          exact ⟨rfl, Below.hop HW2.out hw⟩
  · obtain rfl := HF0.out h0
    go_wp2
    go_ret
    exact ⟨rfl, hw⟩
end Go.Proofs.YtccnlnkgoaelpaaGreat
