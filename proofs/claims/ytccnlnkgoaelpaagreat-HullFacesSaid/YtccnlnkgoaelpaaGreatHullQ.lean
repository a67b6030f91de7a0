/- The reference of package hull: corner. -/
import Derived.Test.YtccnlnkgoaelpaaGreatHullY
namespace Go.Proofs.YtccnlnkgoaelpaaGreat
open Go.RowKit Go.Shelf

theorem infoVe : (Tryz.prog.info? 24).map (fun i => (i.zero, i.size, i.bytes)) = some (some (.agg #[.int .i64 0, .int .i64 0, .int .i64 0]), 3, 24) := by kernel_rfl
/-- An owned row of vectors, as a list of vectors in memory. -/
theorem vecs_of_row {W : World} {base : Nat} {v : Value} {G : List V3} (h : W.ownsRow base 24 3 v G.length (G.flatMap encV)) :
    ∃ A c, v = .slice A G.length c ∧ G.length ≤ c ∧ c ≤ 9223372036854775807 ∧ VecsAt W A G.length G ∧ ∀ b off, A = some ⟨b, off, none⟩ → base ≤ b := by
  rcases Nat.eq_zero_or_pos G.length with h0 | h0
  · obtain rfl : G = [] := List.eq_nil_of_length_eq_zero h0
    rcases h.2 with ⟨rfl, _⟩ | ⟨g, cap, cur, rfl, h1, h2, h3, h4, h5, h6⟩
    · exact ⟨none, 0, rfl, by simp, by omega, ⟨rfl, by simp, fun h => by simp at h⟩, fun _ _ e => by cases e⟩
    · exact ⟨_, cap, rfl, by simp, by unfold maxLen at *; omega, ⟨rfl, by simp, fun h => by simp at h⟩, fun _ _ e => by cases e; exact h1⟩
  · obtain ⟨g, cap, rfl⟩ := ownsRow_pos' h h0
    obtain ⟨hg1, hg2, hg3, cs, hgo, hgc⟩ := ownsRow_own h h0
    have hq : RowO W g G := ⟨cs, hgo, fun i hi => by
      have q := fun k (hk : k < 3) => (hgc (i * 3 + k) (by omega)).trans (flat_at G i k hi hk)
      exact ⟨q 0 (by omega), q 1 (by omega), q 2 (by omega)⟩⟩
    unfold maxLen at hg3
    have q := hq.vecs (Nat.le_refl _) (by omega)
    rw [List.take_length] at q
    exact ⟨_, cap, rfl, hg2, by omega, q, fun _ _ e => by cases e; exact hg1⟩
theorem vecs_of_row' {W : World} {base n : Nat} {v : Value} {G : List V3} (hn : G.length = n) (h : W.ownsRow base 24 3 v n (G.flatMap encV)) :
    ∃ A c, v = .slice A n c ∧ n ≤ c ∧ c ≤ 9223372036854775807 ∧ VecsAt W A n G ∧ ∀ b off, A = some ⟨b, off, none⟩ → base ≤ b := by
  subst hn
  exact vecs_of_row h
/-- Three normals in one plane. -/
def NoT (G : List Pl) (i j k : Nat) : Prop := vDot (vCross (pAt G i).n (pAt G j).n) (pAt G k).n = 0
theorem span_no3 {G : List Pl} (h : ∀ i j k, i < G.length → j < i → k < j → NoT G i j k) : spanB G = false := by
  rw [Bool.eq_false_iff]
  intro e
  obtain ⟨i, j, k, hi, hj, hk, hne⟩ := span_three.1 e
  exact hne (h i j k hi hj hk)
theorem map_at (G : List Pl) {i : Nat} (h : i < G.length) : vAt (G.map (·.n)) i = (pAt G i).n := by
  unfold vAt pAt; simp [List.getD_eq_getElem?_getD, h]
theorem flat_snoc (F : List V3) (v : V3) : (F ++ [v]).flatMap encV = F.flatMap encV ++ [.int .i64 v.x, .int .i64 v.y, .int .i64 v.z] := by simp [encV]
set_option maxRecDepth 100000 in
set_option maxHeartbeats 4000000 in
theorem ref8_corner {w : World} {A : Option Addr} {n : Nat} {F : List Pl} (c : Nat) (x y z : Int) (hv : PlsAt w A n F) (hcl : ∀ i, i < F.length → cl (pAt F i) = pAt F i) (hn : n ≤ 1000000000) :
    Calls Tryz.prog 36 #[.slice A n c, vV x y z] w fun e w' => e = .returned (.bool (cornerB F ⟨x, y, z⟩)) ∧ Below w.heap.size w w' := by
  obtain ⟨r, hr⟩ : ∃ r, cornerB F ⟨x, y, z⟩ = r := ⟨_, rfl⟩
  have HR := Lib.hid hr
  rw [hr]
  clear hr
  obtain ⟨i0, hi, hz0, hz1, hz2⟩ := info_parts infoVe
  have hl := hv.len
  have HV := Lib.hid hv
  have HL := Lib.hid hl
  have HCL := Lib.hid hcl
  clear hv hl hcl
  have hni : (n : Int) ≤ 1000000000 := by omega
  have o2 : Own (w.alloc (.cells #[.int .i64 x, .int .i64 y, .int .i64 z] 24)) w.heap.size #[.int .i64 x, .int .i64 y, .int .i64 z] := Own.new rfl
  have hw0 := (Below.refl w.heap.size w).alloc (Nat.le_refl _) (.cells #[.int .i64 x, .int .i64 y, .int .i64 z] 24)
  go_enter Tryz.func36, Tryz.ntmps36
  go_wp2
  go_loopw [5, 6] (fun s i wr => ∃ (k : Nat) (G : List Pl), k ≤ n ∧ i = .int .i64 k ∧ G = (F.take k).filter (onB ⟨x, y, z⟩) ∧ Below w.heap.size w wr ∧ Own wr w.heap.size #[.int .i64 x, .int .i64 y, .int .i64 z] ∧ wr.ownsRow (w.heap.size + 1) 24 3 s G.length ((G.map (·.n)).flatMap encV)) (fun _ i _ => n - (intOf i).toNat)
  case atStart => exact ⟨0, [], by omega, rfl, by simp, hw0, o2, World.ownsRow_nil _ _ _ _⟩
  case round =>
    clear o2 hw0
    obtain ⟨k, G, hk, rfl, hG, hw, o2, hrow⟩ := hrel
    have HG := Lib.hid hG
    have HROW := Lib.hid hrow
    have hGl : G.length ≤ k := by rw [hG]; exact filt_len _ _ _
    clear hG hrow
    by_cases hlt : k < n
    · have hlt2 : (k : Int) < (n : Int) := by omega
      obtain ⟨⟨⟨p0, p1, p2⟩, p3⟩, hX⟩ : ∃ X, pAt F k = X := ⟨_, rfl⟩
      obtain ⟨b, off, rfl, hb, a1, a2, a3, a4⟩ := (HV.out.below hw).cells hlt hX
      obtain ⟨hx, hy, hz, _⟩ : I64 p0 ∧ I64 p1 ∧ I64 p2 ∧ I64 p3 := by
        have q := cl_i64 (pAt F k)
        rw [HCL.out k (by rw [HL.out]; exact hlt), hX] at q
        exact q
      obtain ⟨s0, hs⟩ : ∃ s, pSide ⟨⟨p0, p1, p2⟩, p3⟩ ⟨x, y, z⟩ = s := ⟨_, rfl⟩
      have HS := Lib.hid (congrArg (Value.int IntKind.i64) hs)
      have HX := Lib.hid hX
      have HSI := Lib.hid hs
      clear hs hX
      go_wp2
      refine region_late 7 [] (by kernel_rfl) (by kernel_rfl) (by rfl) ?_
      apply Exists.intro
      refine ⟨fun v hv hne => ?_, fun u hu => ?_⟩
      · simp only [List.take_succ_cons, List.take_zero]
        have do2 := fun x => (o2.later (v := v) (T := []) (by simp) x).cell
        have da1 := later_cell (v := v) (T := []) hb (by simp) a1
        have da2 := later_cell (v := v) (T := []) hb (by simp) a2
        have da3 := later_cell (v := v) (T := []) hb (by simp) a3
        have da4 := later_cell (v := v) (T := []) hb (by simp) a4
        repeat (go_big_quiet_step ((go_at_call 45; with_reducible exact lateB (callv (ref7_Side _ _ _ _ _ _ _ hx hy hz _) HS.out))))
        refine wpQuiet_nil ?_
        exact rfl
      · simp only [List.drop_succ_cons, List.drop_zero]
        replace o2 := o2.below hu
        have hrow1 := rowk_below HROW.out hu
        replace hw := Below.hop hw hu
        have hbu : b < u.heap.size := Nat.lt_of_lt_of_le hb hu.size
        have ca1 := (hu.cell (p := ⟨b, off + k * 4, none⟩) hb).trans a1
        have ca2 := (hu.cell (p := ⟨b, off + k * 4 + 1, none⟩) hb).trans a2
        have ca3 := (hu.cell (p := ⟨b, off + k * 4 + 2, none⟩) hb).trans a3
        clear hu a1 a2 a3 a4 HROW
        refine late_nil ?_
        (try simp only [Act.put, List.setIfInBounds_toArray, List.set_cons_zero, List.set_cons_succ])
        have hwz := hw.size
        by_cases h0 : s0 = 0
        · subst h0
          have HROW := Lib.hid hrow1
          have HO2 := Lib.hid o2
          have HW := Lib.hid hw
          have hlt3 := hrow1.lt
          have o2z := o2.lt
          clear hrow1 o2 hw
          go_wp2_with (at_builtin; refine wpList_append_lies _ rfl _ _ 25 rfl (w.heap.size + 1) 24 i0 (.agg #[.int .i64 0, .int .i64 0, .int .i64 0]) 3 24 Tryz.underlying25 hi hz0 hz1 hz2 rfl (by decide) _ G.length ((G.map (·.n)).flatMap encV) rfl (rowk_below HROW.out ((Below.refl _ _).alloc (Nat.le_refl _) _)) ⟨u.heap.size, 0, none⟩ 1 1 [.int .i64 p0, .int .i64 p1, .int .i64 p2] rfl rfl (World.news_of_block (heap_alloc_new u _)) (by intro u hu; simp at hu; rcases hu with rfl | rfl | rfl <;> rfl) (by decide) (by unfold maxLen; omega) (by omega) (by simp; omega) _ rfl ?_; intro g' cap' w4 hown' hgrow hat hltg)
          have hwa : Below w.heap.size w (u.alloc (.cells #[.int .i64 p0, .int .i64 p1, .int .i64 p2] 24)) := HW.out.alloc (by omega) _
          have hw4 : Below w.heap.size w w4 := hwa.grown hgrow (by simp; omega) (fun r e => by have := (hlt3 r e).1; omega)
          have o24 : Own w4 w.heap.size #[.int .i64 x, .int .i64 y, .int .i64 z] := own_grown (HO2.out.alloc _) hgrow (fun r e => by have := (hlt3 r e).1; omega)
          have e1 : (G.map (·.n)).flatMap encV ++ [.int .i64 p0, .int .i64 p1, .int .i64 p2] = ((G ++ [pAt F k]).map (·.n)).flatMap encV := by rw [List.map_append, List.map_cons, List.map_nil, flat_snoc, HX.out]
          rw [e1] at hown'
          have hrow4 : w4.ownsRow (w.heap.size + 1) 24 3 (.slice (some ⟨g', 0, none⟩) (G.length + 1) cap') (G ++ [pAt F k]).length (((G ++ [pAt F k]).map (·.n)).flatMap encV) := by rw [List.length_append]; exact hown'
          have HR4 := Lib.hid hrow4
          clear hrow4 hown' hgrow hat hwa HO2 HW HROW hlt3 ca1 ca2 ca3
          go_wp2
          go_roundw
          case rel => exact ⟨k + 1, G ++ [pAt F k], by omega, by go_num, by rw [filt_yes (by rw [HL.out]; exact hlt) (by rw [HX.out]; exact HSI.out), ← HG.out], hw4, o24, HR4.out⟩
          case measure => simp [intOf]; omega
        · have HROW := Lib.hid hrow1
          clear hrow1 ca1 ca2 ca3
          go_wp2
          go_roundw
          case rel => exact ⟨k + 1, G, by omega, by go_num, by rw [filt_no (by rw [HL.out]; exact hlt) (by rw [HX.out, HSI.out]; exact h0), ← HG.out], hw, o2, HROW.out⟩
          case measure => simp [intOf]; omega
    · obtain rfl : k = n := by omega
      have hGF : G = F.filter (onB ⟨x, y, z⟩) := by rw [HG.out, List.take_of_length_le (by rw [HL.out]; omega)]
      have hrr : spanB G = r := by rw [hGF]; exact HR.out
      obtain ⟨A2, c2, rfl, hc1, hc2, hvs, _⟩ := vecs_of_row' (G := G.map (·.n)) (by simp) HROW.out
      have HVS := Lib.hid hvs
      have HRR := Lib.hid hrr
      clear HROW hGF HR HG o2 HCL HL HV hvs hrr
      obtain ⟨m, hm⟩ : ∃ m, G.length = m := ⟨_, rfl⟩
      have HM := Lib.hid hm
      rw [hm] at HVS hc1 hGl ⊢
      clear hm
      have hmi : (m : Int) ≤ 1000000000 := by omega
      go_wp2
      have HW0 := Lib.hid (Below.refl wr.heap.size wr)
      generalize hwq : wr = wq at *
      go_loopw [7] (fun i wr => ∃ i0 : Nat, i0 ≤ m ∧ i = .int .i64 i0 ∧ Below wq.heap.size wq wr ∧ ∀ i j k, i < i0 → j < i → k < j → NoT G i j k) (fun i _ => m - (intOf i).toNat)
      case atStart => exact ⟨0, by omega, rfl, Below.refl _ _, fun i j k h => by omega⟩
      case round =>
        obtain ⟨i0, hi0, rfl, hwb, hall⟩ := hrel
        have HI := Lib.hid hall
        clear hall
        by_cases hlt : i0 < m
        · have hlt2 : (i0 : Int) < (m : Int) := by omega
          go_wp2
          go_loopw [8] (fun j wr => ∃ j0 : Nat, j0 ≤ i0 ∧ j = .int .i64 j0 ∧ Below wq.heap.size wq wr ∧ ∀ j k, j < j0 → k < j → NoT G i0 j k) (fun j _ => i0 - (intOf j).toNat)
          case atStart => exact ⟨0, by omega, rfl, hwb, fun j k h => by omega⟩
          case round =>
            clear hwb
            obtain ⟨j0, hj0, rfl, hwb, hall⟩ := hrel
            have HJ := Lib.hid hall
            clear hall
            by_cases hlj : j0 < i0
            · have hlj2 : (j0 : Int) < (i0 : Int) := by omega
              go_wp2
              go_loopw [9] (fun k wr => ∃ k0 : Nat, k0 ≤ j0 ∧ k = .int .i64 k0 ∧ Below wq.heap.size wq wr ∧ ∀ k, k < k0 → NoT G i0 j0 k) (fun k _ => j0 - (intOf k).toNat)
              case atStart => exact ⟨0, by omega, rfl, hwb, fun k h => by omega⟩
              case round =>
                clear hwb
                obtain ⟨k0, hk0, rfl, hwb, hall⟩ := hrel
                have HK := Lib.hid hall
                clear hall
                by_cases hlk : k0 < j0
                · have hlk2 : (k0 : Int) < (j0 : Int) := by omega
                  obtain ⟨⟨x0, y0, z0⟩, hX⟩ : ∃ X, vAt (G.map (·.n)) i0 = X := ⟨_, rfl⟩
                  obtain ⟨⟨x1, y1, z1⟩, hY⟩ : ∃ X, vAt (G.map (·.n)) j0 = X := ⟨_, rfl⟩
                  obtain ⟨⟨x2, y2, z2⟩, hZ⟩ : ∃ X, vAt (G.map (·.n)) k0 = X := ⟨_, rfl⟩
                  obtain ⟨b, off, hA, hb, a1, a2, a3⟩ := (HVS.out.below hwb).cells hlt hX
                  subst hA
                  obtain ⟨b', off', hA, _, b1, b2, b3⟩ := (HVS.out.below hwb).cells (k := j0) (by omega) hY
                  cases hA
                  obtain ⟨b', off', hA, _, c1, c2, c3⟩ := (HVS.out.below hwb).cells (k := k0) (by omega) hZ
                  cases hA
                  rw [map_at G (by rw [HM.out]; omega)] at hX hY hZ
                  obtain ⟨⟨q0, q1, q2⟩, hC⟩ : ∃ C, vCross ⟨x0, y0, z0⟩ ⟨x1, y1, z1⟩ = C := ⟨_, rfl⟩
                  obtain ⟨s, hs⟩ : ∃ s, vDot ⟨q0, q1, q2⟩ ⟨x2, y2, z2⟩ = s := ⟨_, rfl⟩
                  have HC := Lib.hid (show (vCross ⟨x0, y0, z0⟩ ⟨x1, y1, z1⟩).v = .agg #[.int .i64 q0, .int .i64 q1, .int .i64 q2] by rw [hC])
                  have HS := Lib.hid (congrArg (Value.int IntKind.i64) hs)
                  have HT : Hid (vDot (vCross (pAt G i0).n (pAt G j0).n) (pAt G k0).n = s) := Lib.hid (by rw [hX, hY, hZ, hC, hs])
                  clear hX hY hZ hC hs
                  go_wp2
                  refine region_late 15 [] (by kernel_rfl) (by kernel_rfl) (by rfl) ?_
                  apply Exists.intro
                  refine ⟨fun v hv hne => ?_, fun u hu => ?_⟩
                  · simp only [List.take_succ_cons, List.take_zero]
                    have da1 := later_cell (v := v) (T := []) hb (by simp) a1
                    have da2 := later_cell (v := v) (T := []) hb (by simp) a2
                    have da3 := later_cell (v := v) (T := []) hb (by simp) a3
                    have db1 := later_cell (v := v) (T := []) hb (by simp) b1
                    have db2 := later_cell (v := v) (T := []) hb (by simp) b2
                    have db3 := later_cell (v := v) (T := []) hb (by simp) b3
                    have dc1 := later_cell (v := v) (T := []) hb (by simp) c1
                    have dc2 := later_cell (v := v) (T := []) hb (by simp) c2
                    have dc3 := later_cell (v := v) (T := []) hb (by simp) c3
                    repeat (go_big_quiet_step ((first | (go_at_call 58; with_reducible exact lateB (callv (ref7_Cross _ _ _ _ _ _ _) HC.out)) | (go_at_call 60; with_reducible exact lateB (callv (ref7_Dot _ _ _ _ _ _ _) HS.out)))))
                    refine wpQuiet_nil ?_
                    exact rfl
                  · simp only [List.drop_succ_cons, List.drop_zero]
                    replace hwb := Below.hop hwb hu
                    clear hu a1 a2 a3 b1 b2 b3 c1 c2 c3
                    refine late_nil ?_
                    (try simp only [Act.put, List.setIfInBounds_toArray, List.set_cons_zero, List.set_cons_succ])
                    by_cases h0 : s = 0
                    · subst h0
                      go_wp2
                      go_roundw
                      case rel =>
                        refine ⟨k0 + 1, by omega, by go_num, hwb, fun k hk => ?_⟩
                        rcases Nat.lt_or_ge k k0 with h | h
                        · exact HK.out k h
                        · obtain rfl : k = k0 := by omega
                          exact HT.out
                      case measure => simp [intOf]; omega
                    · have hrf : r = true := HRR.out.symm.trans (span_three.2 ⟨i0, j0, k0, by rw [HM.out]; exact hlt, hlj, hlk, by rw [HT.out]; exact h0⟩)
                      subst hrf
                      clear HRR
                      go_wp2
                      go_ret
                      exact ⟨rfl, Below.hop hw hwb⟩
                · obtain rfl : k0 = j0 := by omega
                  go_wp2
                  go_roundw
                  case rel =>
                    refine ⟨k0 + 1, by omega, by go_num, hwb, fun j k hj hk => ?_⟩
                    rcases Nat.lt_or_ge j k0 with h | h
                    · exact HJ.out j k h hk
                    · obtain rfl : j = k0 := by omega
                      exact HK.out k hk
                  case measure => simp [intOf]; omega
            · obtain rfl : j0 = i0 := by omega
              go_wp2
              go_roundw
              case rel =>
                refine ⟨j0 + 1, by omega, by go_num, hwb, fun i j k hi hj hk => ?_⟩
                rcases Nat.lt_or_ge i j0 with h | h
                · exact HI.out i j k h hj hk
                · obtain rfl : i = j0 := by omega
                  exact HJ.out j k hj hk
              case measure => simp [intOf]; omega
        · obtain rfl : i0 = m := by omega
          have hrf : r = false := HRR.out.symm.trans (span_no3 fun i j k hi hj hk => HI.out i j k (by rw [← HM.out]; exact hi) hj hk)
          subst hrf
          clear HRR
          go_wp2
          go_ret
          exact ⟨rfl, Below.hop hw hwb⟩
end Go.Proofs.YtccnlnkgoaelpaaGreat
