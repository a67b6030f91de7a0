/- Package hull: vertex. -/
import Derived.Test.YtccnlnkgoaelpaaHullN
import Derived.Test.YtccnlnkgoaelpaaHullU
namespace Go.Proofs.Ytccnlnkgoaelpaa
open Go.RowKit Go.Shelf

theorem dot_zl (v : V3) : vDot ⟨0, 0, 0⟩ v = 0 := by simp [vDot, wr_zero]
/-- No plane goes with two. -/
def NoR (L : List Pl) (i j : Nat) : Prop := ∀ r ∈ L, vDot (vCross (pAt L i).n (pAt L j).n) r.n = 0
theorem span_no {L : List Pl} (h : ∀ i j, i < L.length → j < i → NoR L i j) : spanB L = false := by
  rw [Bool.eq_false_iff]
  intro e
  obtain ⟨i, j, hi, hj, r, hr, hne⟩ := span_two.1 e
  exact hne (h i j hi hj r hr)
theorem span_yes {L : List Pl} {i j : Nat} (hi : i < L.length) (hj : j < i) (h : (L.any fun p => !(vDot (vCross (pAt L i).n (pAt L j).n) p.n == 0)) = true) : spanB L = true := by
  obtain ⟨r, hr, e⟩ := List.any_eq_true.1 h
  exact span_two.2 ⟨i, j, hi, hj, r, hr, by simpa using e⟩
theorem nor_of {L : List Pl} {i j : Nat} (h : (L.any fun p => !(vDot (vCross (pAt L i).n (pAt L j).n) p.n == 0)) = false) : NoR L i j := fun r hr => by
  have := List.any_eq_false.1 h r hr
  simpa using this
set_option maxRecDepth 100000 in
set_option maxHeartbeats 4000000 in
theorem hull_vertex {w : World} {A : Option Addr} {n : Nat} {L : List Pl} (c : Nat) (hv : PlsAt w A n L) (hnc : n ≤ c) (hc : c ≤ 9223372036854775807) :
    Calls Try.prog 37 #[.slice A n c] w fun e w' => e = .returned (.bool (spanB L)) ∧ Below w.heap.size w w' := by
  obtain ⟨r, hr⟩ : ∃ r, spanB L = r := ⟨_, rfl⟩
  have HR := Lib.hid hr
  rw [hr]
  clear hr
  have hl := hv.len
  have HV := Lib.hid hv
  have HL := Lib.hid hl
  clear hv hl
  have hmi : (n : Int) ≤ (c : Int) := by omega
  have hci : (c : Int) ≤ 9223372036854775807 := by omega
  have eg : ∀ args w, (callFunc 57 args).run Try.prog w = .ok (.enter 57 args) w := enters_of Try.func57 (by kernel_rfl) rfl
  have EG := Lib.hid eg
  clear eg
  go_enter Try.func37, Try.ntmps37
  go_wp2
  go_loopw [10] (fun i wr => ∃ i0 : Nat, i0 ≤ n ∧ i = .int .i64 i0 ∧ Below w.heap.size w wr ∧ ∀ i j, i < i0 → j < i → NoR L i j) (fun i _ => n - (intOf i).toNat)
  case atStart => exact ⟨0, by omega, rfl, Below.refl _ _, fun i j h => by omega⟩
  case round =>
    obtain ⟨i0, hi0, rfl, hw, hall⟩ := hrel
    have HI := Lib.hid hall
    clear hall
    by_cases hlt : i0 < n
    · have hlt2 : (i0 : Int) < (n : Int) := by omega
      obtain ⟨⟨⟨x0, y0, z0⟩, q0⟩, hX⟩ : ∃ X, pAt L i0 = X := ⟨_, rfl⟩
      obtain ⟨b, off, rfl, hb, a1, a2, a3, a4⟩ := (HV.out.below hw).cells hlt hX
      have HX := Lib.hid hX
      clear hX
      go_wp2
      have o4 : Own (wr.alloc (.cells #[.int .i64 x0, .int .i64 y0, .int .i64 z0, .int .i64 q0] 33)) wr.heap.size #[.int .i64 x0, .int .i64 y0, .int .i64 z0, .int .i64 q0] := Own.new rfl
      have hw4 : Below w.heap.size w (wr.alloc (.cells #[.int .i64 x0, .int .i64 y0, .int .i64 z0, .int .i64 q0] 33)) := hw.alloc hw.size _
      clear a1 a2 a3 a4 hb hw
      generalize wr.alloc (.cells #[.int .i64 x0, .int .i64 y0, .int .i64 z0, .int .i64 q0] 33) = w4 at *
      generalize wr.heap.size = b4 at *
      go_loopw [19] (fun j wr => ∃ j0 : Nat, j0 ≤ i0 ∧ j = .int .i64 j0 ∧ Below w.heap.size w wr ∧ Own wr b4 #[.int .i64 x0, .int .i64 y0, .int .i64 z0, .int .i64 q0] ∧ ∀ j, j < j0 → NoR L i0 j) (fun j _ => i0 - (intOf j).toNat)
      case atStart => exact ⟨0, by omega, rfl, hw4, o4, fun j h => by omega⟩
      case round =>
        clear hw4 o4 w4
        obtain ⟨j0, hj0, rfl, hw, o4, hall⟩ := hrel
        have HJ := Lib.hid hall
        clear hall
        by_cases hlj : j0 < i0
        · have hlj2 : (j0 : Int) < (i0 : Int) := by omega
          obtain ⟨⟨⟨x1, y1, z1⟩, q1⟩, hY⟩ : ∃ X, pAt L j0 = X := ⟨_, rfl⟩
          obtain ⟨b', off', hA, hb, a1, a2, a3, a4⟩ := (HV.out.below hw).cells (k := j0) (by omega) hY
          cases hA
          have HY := Lib.hid hY
          clear hY
          obtain ⟨⟨c0, c1, c2⟩, hC⟩ : ∃ C, vCross ⟨x0, y0, z0⟩ ⟨x1, y1, z1⟩ = C := ⟨_, rfl⟩
          have HC := Lib.hid hC
          have HCv := Lib.hid (show (vCross ⟨x0, y0, z0⟩ ⟨x1, y1, z1⟩).v = .agg #[.int .i64 c0, .int .i64 c1, .int .i64 c2] by rw [hC])
          clear hC
          have o4c := o4.cell
          have o4f := o4.thaw
          have o4z := o4.lt
          have hz := hw.size
          go_wp2_with fail
          refine Calls.mono (callv (plane_Cross _ _ _ _ _ _ _) HCv.out) ?_
          rintro e w5 ⟨rfl, hb5⟩
          have hb5' : Below wr.heap.size wr w5 := Below.hop ((Below.refl _ _).alloc (Nat.le_refl _) _) hb5
          have hw5 := Below.hop hw hb5'
          have o45 := o4.below hb5'
          clear hb5 hb5' HCv o4c o4f o4z hz a1 a2 a3 a4 hb hw o4
          have hw5b : Below w.heap.size w (w5.alloc (.cells #[.int .i64 c0, .int .i64 c1, .int .i64 c2] 31)) := hw5.alloc hw5.size _
          have o4b := o45.alloc (.cells #[.int .i64 c0, .int .i64 c1, .int .i64 c2] 31)
          have o7 : Own (w5.alloc (.cells #[.int .i64 c0, .int .i64 c1, .int .i64 c2] 31)) w5.heap.size #[.int .i64 c0, .int .i64 c1, .int .i64 c2] := Own.new rfl
          have hpl := HV.out.below hw5b
          obtain ⟨r2, hr2⟩ : ∃ r2, (L.any fun p => !(vDot ⟨c0, c1, c2⟩ p.n == 0)) = r2 := ⟨_, rfl⟩
          have hcon := contP c 57 #[.pointer (some ⟨w5.heap.size, 0, none⟩)] _ EG.out hpl (pred_vertex ⟨c0, c1, c2⟩ w5.heap.size _ o7)
          rw [hr2] at hcon
          have HR2 : Hid ((L.any fun p => !(vDot (vCross (pAt L i0).n (pAt L j0).n) p.n == 0)) = r2) := Lib.hid (by rw [HX.out, HY.out, HC.out]; exact hr2)
          have o7c := o7.cell
          have o7f := o7.thaw
          have o7z := o7.lt
          clear hpl hw5 o45 o7
          by_cases heq : (⟨c0, c1, c2⟩ : V3) = ⟨0, 0, 0⟩
          · have hrf : r2 = false := hr2.symm.trans (by rw [heq]; simp [dot_zl])
            subst hrf
            injection heq with e0 e1 e2
            subst e0
            subst e1
            subst e2
            clear hr2 hcon
            go_wp2
            go_roundw
            case rel =>
              refine ⟨j0 + 1, by omega, by go_num, hw5b, o4b, fun j hj => ?_⟩
              rcases Nat.lt_or_ge j j0 with h | h
              · exact HJ.out j h
              · obtain rfl : j = j0 := by omega
                exact nor_of HR2.out
            case measure => simp [intOf]; omega
          · have HD := Lib.hid (V3.ne_cases heq)
            clear heq hr2
            rcases HD.out with hd | hd | hd
            · go_wp2_with fail
              refine hcon.mono ?_
              rintro e w6 ⟨rfl, hb6⟩
              have hw6 := Below.hop hw5b hb6
              have o46 := o4b.below hb6
              clear hcon hb6 o4b hw5b o7c o7f o7z
              cases r2
              · go_wp2
                go_roundw
                case rel =>
                  refine ⟨j0 + 1, by omega, by go_num, hw6, o46, fun j hj => ?_⟩
                  rcases Nat.lt_or_ge j j0 with h | h
                  · exact HJ.out j h
                  · obtain rfl : j = j0 := by omega
                    exact nor_of HR2.out
                case measure => simp [intOf]; omega
              · have hrf : r = true := HR.out.symm.trans (span_yes (by rw [HL.out]; exact hlt) hlj HR2.out)
                subst hrf
                clear HR
                go_wp2
                go_ret
                exact ⟨rfl, hw6⟩
            · go_wp2_with fail
              refine hcon.mono ?_
              rintro e w6 ⟨rfl, hb6⟩
              have hw6 := Below.hop hw5b hb6
              have o46 := o4b.below hb6
              clear hcon hb6 o4b hw5b o7c o7f o7z
              cases r2
              · go_wp2
                go_roundw
                case rel =>
                  refine ⟨j0 + 1, by omega, by go_num, hw6, o46, fun j hj => ?_⟩
                  rcases Nat.lt_or_ge j j0 with h | h
                  · exact HJ.out j h
                  · obtain rfl : j = j0 := by omega
                    exact nor_of HR2.out
                case measure => simp [intOf]; omega
              · have hrf : r = true := HR.out.symm.trans (span_yes (by rw [HL.out]; exact hlt) hlj HR2.out)
                subst hrf
                clear HR
                go_wp2
                go_ret
                exact ⟨rfl, hw6⟩
            · go_wp2_with fail
              refine hcon.mono ?_
              rintro e w6 ⟨rfl, hb6⟩
              have hw6 := Below.hop hw5b hb6
              have o46 := o4b.below hb6
              clear hcon hb6 o4b hw5b o7c o7f o7z
              cases r2
              · go_wp2
                go_roundw
                case rel =>
                  refine ⟨j0 + 1, by omega, by go_num, hw6, o46, fun j hj => ?_⟩
                  rcases Nat.lt_or_ge j j0 with h | h
                  · exact HJ.out j h
                  · obtain rfl : j = j0 := by omega
                    exact nor_of HR2.out
                case measure => simp [intOf]; omega
              · have hrf : r = true := HR.out.symm.trans (span_yes (by rw [HL.out]; exact hlt) hlj HR2.out)
                subst hrf
                clear HR
                go_wp2
                go_ret
                exact ⟨rfl, hw6⟩
        · obtain rfl : j0 = i0 := by omega
          clear o4
          go_wp2
          go_roundw
          case rel =>
            refine ⟨j0 + 1, by omega, by go_num, hw, fun i j hi hj => ?_⟩
            rcases Nat.lt_or_ge i j0 with h | h
            · exact HI.out i j h hj
            · obtain rfl : i = j0 := by omega
              exact HJ.out j hj
          case measure => simp [intOf]; omega
    · obtain rfl : i0 = n := by omega
      have hrf : r = false := HR.out.symm.trans (span_no fun i j hi hj => HI.out i j (by rw [← HL.out]; exact hi) hj)
      subst hrf
      clear HR
      go_wp2
      go_ret
      exact ⟨rfl, hw⟩
end Go.Proofs.Ytccnlnkgoaelpaa
