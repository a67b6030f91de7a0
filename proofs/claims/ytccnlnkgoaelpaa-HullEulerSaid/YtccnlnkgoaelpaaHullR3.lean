/- The reference of package hull: Check. -/
import Derived.Test.YtccnlnkgoaelpaaHullD
import Derived.Test.YtccnlnkgoaelpaaPlaneU
namespace Go.Proofs.Ytccnlnkgoaelpaa
open Go.RowKit Go.Shelf

theorem inside_all {L : List V3} {p : Pl} (h : ∀ j, j < L.length → pSide p (vAt L j) ≤ 0) : insideB L p = true := by
  unfold insideB
  rw [List.all_eq_true]
  intro v hv
  obtain ⟨i, hi, rfl⟩ := mem_vAt hv
  simpa using h i hi
theorem inside_not {L : List V3} {p : Pl} {k : Nat} (hk : k < L.length) (h : 0 < pSide p (vAt L k)) : insideB L p = false := by
  rw [Bool.eq_false_iff]
  intro e
  unfold insideB at e
  have := List.all_eq_true.1 e _ (vAt_mem hk)
  simp at this
  omega
/-- The cells of vector k of a list. -/
theorem VecsAt.cells {w : World} {A : Option Addr} {n : Nat} {L : List V3} (h : VecsAt w A n L) {k : Nat} (hk : k < n) {x y z : Int} (hX : vAt L k = ⟨x, y, z⟩) : ∃ b off, A = some ⟨b, off, none⟩ ∧ b < w.heap.size ∧ w.cell? ⟨b, off + k * 3, none⟩ = some (.int .i64 x) ∧ w.cell? ⟨b, off + k * 3 + 1, none⟩ = some (.int .i64 y) ∧ w.cell? ⟨b, off + k * 3 + 2, none⟩ = some (.int .i64 z) := by
  obtain ⟨b, off, rfl, hb, hc⟩ := h.row (by omega)
  have q := hc k hk
  rw [hX] at q
  exact ⟨b, off, rfl, hb, q⟩

end Go.Proofs.Ytccnlnkgoaelpaa
namespace Go.Proofs.Ytccnlnkgoaelpaa
open Go.RowKit Go.Shelf

/-- All points lie on the plane of three. -/
def FlatAt (L : List V3) (i j k : Nat) : Prop := okThrough (vAt L i) (vAt L j) (vAt L k) = true → ∀ m, m < L.length → pSide (pThrough (vAt L i) (vAt L j) (vAt L k)) (vAt L m) = 0
/-- Reference's Through, with what it returns under names. -/
theorem ref7_Through' {A B C : V3} {p0 p1 p2 p3 : Int} {o : Bool} (hP : pThrough A B C = ⟨⟨p0, p1, p2⟩, p3⟩) (ho : okThrough A B C = o) (w : World) :
    Calls Try.prog 44 #[vV A.x A.y A.z, vV B.x B.y B.z, vV C.x C.y C.z] w fun r w' => r = .returned (.tuple #[vP p0 p1 p2 p3, .bool o]) ∧ Below w.heap.size w w' := by
  have h := ref7_Through A.x A.y A.z B.x B.y B.z C.x C.y C.z w
  rw [show (⟨A.x, A.y, A.z⟩ : V3) = A from rfl, show (⟨B.x, B.y, B.z⟩ : V3) = B from rfl, show (⟨C.x, C.y, C.z⟩ : V3) = C from rfl, hP, ho] at h
  exact h
set_option maxRecDepth 100000 in
set_option maxHeartbeats 4000000 in
theorem ref8_flat {w : World} {A : Option Addr} {n : Nat} {L : List V3} (c : Nat) (hv : VecsAt w A n L) (hin : L.all vIn = true) :
    Calls Try.prog 27 #[.slice A n c] w fun e w' => e = .returned (.bool (flatB L)) ∧ Below w.heap.size w w' := by
  obtain ⟨r, hr⟩ : ∃ r, flatB L = r := ⟨_, rfl⟩
  have HR := Lib.hid hr
  rw [hr]
  clear hr
  have hl := hv.len
  have hmax := hv.max
  have HV := Lib.hid hv
  have HL := Lib.hid hl
  have HIN := Lib.hid hin
  clear hv hl hin
  have hmi : (n : Int) ≤ 9223372036854775807 := by omega
  go_enter Try.func27, Try.ntmps27
  go_wp2
  go_loopw [3] (fun i wr => ∃ i0 : Nat, i0 ≤ n ∧ i = .int .i64 i0 ∧ Below w.heap.size w wr ∧ ∀ i' j k, i' < i0 → j < i' → k < j → FlatAt L i' j k) (fun i _ => n - (intOf i).toNat)
  case atStart => exact ⟨0, by omega, rfl, Below.refl _ _, fun i j k h => by omega⟩
  case round =>
    obtain ⟨i0, hi0, rfl, hw, hall⟩ := hrel
    have HI := Lib.hid hall
    clear hall
    by_cases hlt : i0 < n
    · have hlt2 : (i0 : Int) < (n : Int) := by omega
      go_wp2
      go_loopw [4] (fun j wr => ∃ j0 : Nat, j0 ≤ i0 ∧ j = .int .i64 j0 ∧ Below w.heap.size w wr ∧ ∀ j k, j < j0 → k < j → FlatAt L i0 j k) (fun j _ => i0 - (intOf j).toNat)
      case atStart => exact ⟨0, by omega, rfl, hw, fun j k h => by omega⟩
      case round =>
        clear hw
        obtain ⟨j0, hj0, rfl, hw, hall⟩ := hrel
        have HJ := Lib.hid hall
        clear hall
        by_cases hlj : j0 < i0
        · have hlj2 : (j0 : Int) < (i0 : Int) := by omega
          go_wp2
          go_loopw [5] (fun k wr => ∃ k0 : Nat, k0 ≤ j0 ∧ k = .int .i64 k0 ∧ Below w.heap.size w wr ∧ ∀ k, k < k0 → FlatAt L i0 j0 k) (fun k _ => j0 - (intOf k).toNat)
          case atStart => exact ⟨0, by omega, rfl, hw, fun k h => by omega⟩
          case round =>
            clear hw
            obtain ⟨k0, hk0, rfl, hw, hall⟩ := hrel
            have HK := Lib.hid hall
            clear hall
            by_cases hlk : k0 < j0
            · have hlk2 : (k0 : Int) < (j0 : Int) := by omega
              obtain ⟨⟨x0, y0, z0⟩, hX⟩ : ∃ X, vAt L i0 = X := ⟨_, rfl⟩
              obtain ⟨⟨x1, y1, z1⟩, hY⟩ : ∃ X, vAt L j0 = X := ⟨_, rfl⟩
              obtain ⟨⟨x2, y2, z2⟩, hZ⟩ : ∃ X, vAt L k0 = X := ⟨_, rfl⟩
              obtain ⟨b, off, hA, hb, a1, a2, a3⟩ := (HV.out.below hw).cells hlt hX
              subst hA
              obtain ⟨b', off', hA, _, b1, b2, b3⟩ := (HV.out.below hw).cells (k := j0) (by omega) hY
              cases hA
              obtain ⟨b', off', hA, _, c1, c2, c3⟩ := (HV.out.below hw).cells (k := k0) (by omega) hZ
              cases hA
              obtain ⟨⟨⟨p0, p1, p2⟩, p3⟩, hP⟩ : ∃ P, pThrough ⟨x0, y0, z0⟩ ⟨x1, y1, z1⟩ ⟨x2, y2, z2⟩ = P := ⟨_, rfl⟩
              obtain ⟨o, ho⟩ : ∃ o, okThrough ⟨x0, y0, z0⟩ ⟨x1, y1, z1⟩ ⟨x2, y2, z2⟩ = o := ⟨_, rfl⟩
              obtain ⟨hpx, hpy, hpz, _⟩ : I64 p0 ∧ I64 p1 ∧ I64 p2 ∧ I64 p3 := by
                have q := thr_i64 ⟨x0, y0, z0⟩ ⟨x1, y1, z1⟩ ⟨x2, y2, z2⟩
                rw [hP] at q
                exact q
              have HT := fun W => ref7_Through' hP ho W
              have HXY := Lib.hid (show okThrough (vAt L i0) (vAt L j0) (vAt L k0) = o ∧ pThrough (vAt L i0) (vAt L j0) (vAt L k0) = ⟨⟨p0, p1, p2⟩, p3⟩ by rw [hX, hY, hZ]; exact ⟨ho, hP⟩)
              clear hX hY hZ hP ho
              go_wp2
              have da1 := fun v => later_cell (v := v) (T := []) hb (by simp) a1
              have da2 := fun v => later_cell (v := v) (T := []) hb (by simp) a2
              have da3 := fun v => later_cell (v := v) (T := []) hb (by simp) a3
              have db1 := fun v => later_cell (v := v) (T := []) hb (by simp) b1
              have db2 := fun v => later_cell (v := v) (T := []) hb (by simp) b2
              have db3 := fun v => later_cell (v := v) (T := []) hb (by simp) b3
              have dc1 := fun v => later_cell (v := v) (T := []) hb (by simp) c1
              have dc2 := fun v => later_cell (v := v) (T := []) hb (by simp) c2
              have dc3 := fun v => later_cell (v := v) (T := []) hb (by simp) c3
              have hz := hw.size
              refine region_late 16 [] (by kernel_rfl) (by kernel_rfl) (by rfl) ?_
              apply Exists.intro
              refine ⟨fun v hv hne => ?_, fun u hu => ?_⟩
              · simp only [List.take_succ_cons, List.take_zero]
                repeat (go_big_quiet_step ((first | (go_at_call 44; with_reducible exact lateB (HT _)))))
                refine wpQuiet_nil ?_
                exact rfl
              · simp only [List.drop_succ_cons, List.drop_zero]
                skip
                refine late_mem (fun K hK => ?_)
                go_simp
                refine hK _ _ ((Keeps.of_below hu).alloc _) (fun u2 hu2 => ?_)
                clear hK K
                have hk2 : Keeps [] wr u2 := ((Keeps.of_below (T := []) hu).alloc _).later hu2
                have P : Own u2 u.heap.size #[.int .i64 0, .int .i64 0, .int .i64 0, .int .i64 0] := Own.below (Own.new rfl) hu2
                have Pc := P.cell
                have Pf := P.thaw
                have Pg : wr.heap.size ≤ u.heap.size := hu.size
                replace hw := Below.hop ((Below.hop hw hu).alloc (by have := hw.size; have := hu.size; omega) _) hu2
                have hwz := hw.size
                have Py : w.heap.size ≤ u.heap.size := by omega
                refine late_mem (fun K hK => ?_)
                go_simp
                refine hK _ _ ((((hk2.new Pg _).new Pg _).new Pg _).new Pg _) (fun u3 hu3 => ?_)
                clear hK K
                have hk3 : Keeps [] wr u3 := ((((hk2.new Pg _).new Pg _).new Pg _).new Pg _).later hu3
                replace P : Own u3 u.heap.size #[.int .i64 p0, .int .i64 p1, .int .i64 p2, .int .i64 p3] := ((((P.set 0 _).set 1 _).set 2 _).set 3 _).below hu3
                replace hw := Below.hop ((((hw.setCell Py _).setCell Py _).setCell Py _).setCell Py _) hu3
                clear Pc Pf hk2
                refine late_mem (fun K hK => ?_)
                go_simp
                refine hK _ _ hk3 (fun u4 hu4 => ?_)
                clear hK K
                replace P := P.below hu4
                replace hw := Below.hop hw hu4
                replace hk3 := hk3.later hu4
                clear hu4
                refine late_nil ?_
                (try simp only [Act.put, List.setIfInBounds_toArray, List.set_cons_zero, List.set_cons_succ])
                clear hk3 hu hu2 hu3 hwz
                generalize u.heap.size = Pb at *
                replace hz := hw.size
                clear u
                replace Pc := P.cell
                replace Pf := P.thaw
                replace Pz := P.lt
                clear HT a1 a2 a3 b1 b2 b3 c1 c2 c3 da1 da2 da3 db1 db2 db3 dc1 dc2 dc3
                cases o
                · clear Pc Pf Pz P
                  go_wp2
                  go_loopw [8] (fun m wr => m = .int .i64 0 ∧ Below w.heap.size w wr) (fun _ _ => 0)
                  case atStart => exact ⟨rfl, hw⟩
                  case round =>
                    clear hw
                    obtain ⟨rfl, hw⟩ := hrel
                    have hn0 : (0 : Int) < (n : Int) := by omega
                    go_wp2
                    go_roundw
                    case rel =>
                      refine ⟨k0 + 1, by omega, by go_num, hw, fun k hk => ?_⟩
                      rcases Nat.lt_or_ge k k0 with h | h
                      · exact HK.out k h
                      · obtain rfl : k = k0 := by omega
                        intro e
                        rw [HXY.out.1] at e
                        cases e
                    case measure => simp [intOf]; omega
                · go_wp2
                  go_loopw [8] (fun m wr => ∃ m0 : Nat, m0 ≤ n ∧ m = .int .i64 m0 ∧ Below w.heap.size w wr ∧ Own wr Pb #[.int .i64 p0, .int .i64 p1, .int .i64 p2, .int .i64 p3] ∧ ∀ m, m < m0 → pSide ⟨⟨p0, p1, p2⟩, p3⟩ (vAt L m) = 0) (fun m _ => n - (intOf m).toNat)
                  case atStart => exact ⟨0, by omega, rfl, hw, P, fun m h => by omega⟩
                  case round =>
                    clear hw P Pc Pf Pz hz
                    obtain ⟨m0, hm0, rfl, hw, P, hall⟩ := hrel
                    have HM := Lib.hid hall
                    clear hall
                    by_cases hlm : m0 < n
                    · have hlm2 : (m0 : Int) < (n : Int) := by omega
                      obtain ⟨⟨x, y, z⟩, hX⟩ : ∃ X, vAt L m0 = X := ⟨_, rfl⟩
                      obtain ⟨b', off', hA, hb, a1, a2, a3⟩ := (HV.out.below hw).cells (k := m0) (by omega) hX
                      cases hA
                      obtain ⟨s, hs⟩ : ∃ s, pSide ⟨⟨p0, p1, p2⟩, p3⟩ ⟨x, y, z⟩ = s := ⟨_, rfl⟩
                      have HS := Lib.hid (congrArg (Value.int IntKind.i64) hs)
                      have HX := Lib.hid hX
                      have HSI := Lib.hid hs
                      clear hs hX
                      go_wp2
                      refine region_late 7 [] (by kernel_rfl) (by kernel_rfl) (by rfl) ?_
                      apply Exists.intro
                      refine ⟨fun v hv hne => ?_, fun u hu => ?_⟩
                      · simp only [List.take_succ_cons, List.take_zero]
                        have dP := fun x => (P.later (v := v) (T := []) (by simp) x).cell
                        have da1 := later_cell (v := v) (T := []) hb (by simp) a1
                        have da2 := later_cell (v := v) (T := []) hb (by simp) a2
                        have da3 := later_cell (v := v) (T := []) hb (by simp) a3
                        repeat (go_big_quiet_step ((go_at_call 45; with_reducible exact lateB (callv (ref7_Side _ _ _ _ _ _ _ hpx hpy hpz _) HS.out))))
                        refine wpQuiet_nil ?_
                        exact rfl
                      · simp only [List.drop_succ_cons, List.drop_zero]
                        replace P := P.below hu
                        replace hw := Below.hop hw hu
                        clear hu a1 a2 a3
                        refine late_nil ?_
                        (try simp only [Act.put, List.setIfInBounds_toArray, List.set_cons_zero, List.set_cons_succ])
                        by_cases h0 : s = 0
                        · subst h0
                          go_wp2
                          go_roundw
                          case rel =>
                            refine ⟨m0 + 1, by omega, by go_num, hw, P, fun m hm => ?_⟩
                            rcases Nat.lt_or_ge m m0 with h | h
                            · exact HM.out m h
                            · obtain rfl : m = m0 := by omega
                              rw [HX.out, HSI.out]
                          case measure => simp [intOf]; omega
                        · have hrf : r = false := HR.out.symm.trans (flat_no HIN.out (by rw [HL.out]; exact hlt) hlj hlk (by rw [HL.out]; exact hlm) HXY.out.1 (by rw [HXY.out.2, HX.out, HSI.out]; exact h0))
                          subst hrf
                          clear HR
                          go_wp2
                          go_ret
                          exact ⟨rfl, hw⟩
                    · obtain rfl : m0 = n := by omega
                      clear P
                      go_wp2
                      go_roundw
                      case rel =>
                        refine ⟨k0 + 1, by omega, by go_num, hw, fun k hk => ?_⟩
                        rcases Nat.lt_or_ge k k0 with h | h
                        · exact HK.out k h
                        · obtain rfl : k = k0 := by omega
                          intro _ m hm
                          rw [HXY.out.2]
                          exact HM.out m (by rw [← HL.out]; exact hm)
                      case measure => simp [intOf]; omega
            · obtain rfl : k0 = j0 := by omega
              go_wp2
              go_roundw
              case rel =>
                refine ⟨k0 + 1, by omega, by go_num, hw, fun j k hj hk => ?_⟩
                rcases Nat.lt_or_ge j k0 with h | h
                · exact HJ.out j k h hk
                · obtain rfl : j = k0 := by omega
                  exact HK.out k hk
              case measure => simp [intOf]; omega
        · obtain rfl : j0 = i0 := by omega
          go_wp2
          go_roundw
          case rel =>
            refine ⟨j0 + 1, by omega, by go_num, hw, fun i j k hi hj hk => ?_⟩
            rcases Nat.lt_or_ge i j0 with h | h
            · exact HI.out i j k h hj hk
            · obtain rfl : i = j0 := by omega
              exact HJ.out j k hj hk
          case measure => simp [intOf]; omega
    · obtain rfl : i0 = n := by omega
      have hrf : r = true := HR.out.symm.trans (flat_yes HIN.out fun i j k m hi hj hk hm ho => HI.out i j k (by rw [← HL.out]; exact hi) hj hk ho m hm)
      subst hrf
      clear HR
      go_wp2
      go_ret
      exact ⟨rfl, hw⟩
end Go.Proofs.Ytccnlnkgoaelpaa
namespace Go.Proofs.Ytccnlnkgoaelpaa
open Go.RowKit Go.Shelf

theorem vin_all {L : List V3} (h : ∀ j, j < L.length → vIn (vAt L j) = true) : L.all vIn = true := by
  rw [List.all_eq_true]
  intro v hv
  obtain ⟨i, hi, rfl⟩ := mem_vAt hv
  exact h i hi
theorem vin_not {L : List V3} {k : Nat} (hk : k < L.length) (h : vIn (vAt L k) = false) : L.all vIn = false := by
  rw [Bool.eq_false_iff]
  intro e
  have := List.all_eq_true.1 e _ (vAt_mem hk)
  rw [h] at this
  cases this
end Go.Proofs.Ytccnlnkgoaelpaa
