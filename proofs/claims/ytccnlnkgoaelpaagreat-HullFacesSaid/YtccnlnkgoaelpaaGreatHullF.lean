/- The reference of package hull: Faces. -/
import Derived.Test.YtccnlnkgoaelpaaGreatHullL2
import Derived.Test.YtccnlnkgoaelpaaGreatHullR3
namespace Go.Proofs.YtccnlnkgoaelpaaGreat
open Go.RowKit Go.Shelf

theorem SlQ.any {w : World} {v : Value} {F : List Pl} (h : SlQ w v F) : ∃ A c, v = .slice A F.length c ∧ F.length ≤ c ∧ c ≤ 9223372036854775807 ∧ PlsAt w A F.length F := by
  rcases h with ⟨rfl, rfl⟩ | ⟨b, off, c, h1, _, h3, h4, h5⟩
  · exact ⟨none, 0, rfl, by simp, by omega, rfl, by simp, fun h => by simp at h⟩
  · exact ⟨_, c, h1, h3, h4, h5⟩
theorem SlQ.keeps {w v : World} {s : Value} {F : List Pl} (h : SlQ w s F) (x : Keeps [] w v) : SlQ v s F := by
  rcases h with h | ⟨b, off, c, h1, h2, h3, h4, h5⟩
  · exact .inl h
  · exact .inr ⟨b, off, c, h1, h2, h3, h4, h5.keeps x⟩
theorem SlW.any {w : World} {v : Value} {F : List V3} (h : SlW w v F) : ∃ A c, v = .slice A F.length c ∧ F.length ≤ c ∧ c ≤ 9223372036854775807 ∧ VecsAt w A F.length F := by
  rcases h with ⟨rfl, rfl⟩ | ⟨b, off, c, h1, _, h3, h4, h5⟩
  · exact ⟨none, 0, rfl, by simp, by omega, rfl, by simp, fun h => by simp at h⟩
  · exact ⟨_, c, h1, h3, h4, h5⟩
theorem step_no {L : List V3} {i j k : Nat} {o : List Pl} (h : okThrough (vAt L i) (vAt L j) (vAt L k) = false) : stepR L i j k o = o := by
  unfold stepR; rw [h]; rfl
theorem step_yes {L : List V3} {i j k : Nat} {o : List Pl} {P Q : Pl} (h : okThrough (vAt L i) (vAt L j) (vAt L k) = true) (hP : pThrough (vAt L i) (vAt L j) (vAt L k) = P) (hQ : pFlip P = Q) : stepR L i j k o = putF L Q (putF L P o) := by
  unfold stepR; rw [h, hP, hQ]; rfl
theorem putF_yes {L : List V3} {P : Pl} {o : List Pl} (h : insideB L P = true) : putF L P o = putG pLt o P := by
  unfold putF; rw [h]; rfl
theorem putF_no {L : List V3} {P : Pl} {o : List Pl} (h : insideB L P = false) : putF L P o = o := by
  unfold putF; rw [h]; rfl
theorem fac_len {L : List V3} {i j k n : Nat} (h : L.length = n) (hn : n ≤ 48) (hi : i ≤ n) (hj : j ≤ n) (hk : k ≤ n) : (facK L i j (facJ L i (facI L i) j) k).length ≤ 300000 := by
  have h1 := facI_len L i (by omega)
  have h2 := facJ_len L i (facI L i) j (by omega)
  have h3 := facK_len L i j (facJ L i (facI L i) j) k
  omega
set_option maxRecDepth 100000 in
set_option maxHeartbeats 4000000 in
theorem ref8_Faces {w : World} {A : Option Addr} {n : Nat} {L : List V3} (c : Nat) (hv : VecsAt w A n L) :
    Calls Tryz.prog 10 #[.slice A n c] w fun e w' => (∃ v, e = .returned (.tuple #[v, .int .i64 (hCheck L)]) ∧ SlQ w' v (hFaces L)) ∧ Below w.heap.size w w' := by
  obtain ⟨r, hr⟩ : ∃ r, hCheck L = r := ⟨_, rfl⟩
  have HRI := Lib.hid (congrArg (Value.int IntKind.i64) hr)
  have HR := Lib.hid hr
  rw [hr]
  have hl := hv.len
  have hmax := hv.max
  have HV := Lib.hid hv
  have HL := Lib.hid hl
  have hf0 : r ≠ 0 → hFaces L = [] := fun h => if_neg (by rw [hr]; exact h)
  have hf1 : r = 0 → hFaces L = facets L := fun h => if_pos (by rw [hr]; exact h)
  have HF0 := Lib.hid hf0
  have HF1 := Lib.hid hf1
  clear hv hl hr hf0 hf1
  have hmi : (n : Int) ≤ 9223372036854775807 := by omega
  go_enter Tryz.func10, Tryz.ntmps10
  go_wp2_with fail
  refine Calls.mono (callv (ref8_Check c HV.out) HRI.out) ?_
  rintro e w1 ⟨rfl, hb1⟩
  have hw := hb1
  clear hb1
  by_cases h0 : r = 0
  · have h48 : n ≤ 48 := by
      have q := (check_ok (HR.out.trans h0)).1
      rw [HL.out] at q
      exact q
    subst h0
    have hFF := HF1.out rfl
    have HFF := Lib.hid hFF
    clear hFF HF0 HF1 HRI HR
    go_wp2
    go_loopw [5, 6] (fun o i wr => ∃ i0 : Nat, i0 ≤ n ∧ i = .int .i64 i0 ∧ Below w.heap.size w wr ∧ SlQ wr o (facI L i0)) (fun _ i _ => n - (intOf i).toNat)
    case atStart => exact ⟨0, by omega, rfl, hw, .inl ⟨rfl, rfl⟩⟩
    case round =>
      clear hw
      obtain ⟨i0, hi0, rfl, hw, hs⟩ := hrel
      have HSI := Lib.hid hs
      clear hs
      by_cases hlt : i0 < n
      · have hlt2 : (i0 : Int) < (n : Int) := by omega
        go_wp2
        go_loopw [5, 7] (fun o j wr => ∃ j0 : Nat, j0 ≤ i0 ∧ j = .int .i64 j0 ∧ Below w.heap.size w wr ∧ SlQ wr o (facJ L i0 (facI L i0) j0)) (fun _ j _ => i0 - (intOf j).toNat)
        case atStart => exact ⟨0, by omega, rfl, hw, HSI.out⟩
        case round =>
          clear hw HSI
          obtain ⟨j0, hj0, rfl, hw, hs⟩ := hrel
          have HSJ := Lib.hid hs
          clear hs
          by_cases hlj : j0 < i0
          · have hlj2 : (j0 : Int) < (i0 : Int) := by omega
            go_wp2
            go_loopw [5, 8] (fun o k wr => ∃ k0 : Nat, k0 ≤ j0 ∧ k = .int .i64 k0 ∧ Below w.heap.size w wr ∧ SlQ wr o (facK L i0 j0 (facJ L i0 (facI L i0) j0) k0)) (fun _ k _ => j0 - (intOf k).toNat)
            case atStart => exact ⟨0, by omega, rfl, hw, HSJ.out⟩
            case round =>
              clear hw HSJ
              obtain ⟨k0, hk0, rfl, hw, hs⟩ := hrel
              have HSK := Lib.hid hs
              clear hs
              have hflen := fac_len (i := i0) (j := j0) (k := k0) HL.out h48 (by omega) (by omega) (by omega)
              by_cases hlk : k0 < j0
              · have hlk2 : (k0 : Int) < (j0 : Int) := by omega
                obtain ⟨⟨x0, y0, z0⟩, hX⟩ : ∃ X, vAt L i0 = X := ⟨_, rfl⟩
                obtain ⟨⟨x1, y1, z1⟩, hY⟩ : ∃ X, vAt L j0 = X := ⟨_, rfl⟩
                obtain ⟨⟨x2, y2, z2⟩, hZ⟩ : ∃ X, vAt L k0 = X := ⟨_, rfl⟩
                obtain ⟨b, off, hA, hb, a1, a2, a3⟩ := (HV.out.below hw).cells hlt hX
                subst hA
                obtain ⟨b', off', hA, _, b1, b2, b3⟩ := (HV.out.below hw).cells (k := j0) (by omega) hY
                cases hA
                obtain ⟨b', off', hA, _, c1, c2, c3⟩ := (HV.out.below hw).cells (k := k0) (by omega) hZ
                cases hA
                obtain ⟨⟨⟨p0, p1, p2⟩, p3⟩, hP⟩ : ∃ P, pThrough ⟨x0, y0, z0⟩ ⟨x1, y1, z1⟩ ⟨x2, y2, z2⟩ = P := ⟨_, rfl⟩
                obtain ⟨o, ho⟩ : ∃ o, okThrough ⟨x0, y0, z0⟩ ⟨x1, y1, z1⟩ ⟨x2, y2, z2⟩ = o := ⟨_, rfl⟩
                obtain ⟨hpx, hpy, hpz, _⟩ : I64 p0 ∧ I64 p1 ∧ I64 p2 ∧ I64 p3 := by
                  have q := thr_i64 ⟨x0, y0, z0⟩ ⟨x1, y1, z1⟩ ⟨x2, y2, z2⟩
                  rw [hP] at q
                  exact q
                have HT := fun W => ref7_Through' hP ho W
                have HXY := Lib.hid (show okThrough (vAt L i0) (vAt L j0) (vAt L k0) = o ∧ pThrough (vAt L i0) (vAt L j0) (vAt L k0) = ⟨⟨p0, p1, p2⟩, p3⟩ by rw [hX, hY, hZ]; exact ⟨ho, hP⟩)
                clear hX hY hZ hP ho
                go_wp2
                have da1 := fun v => later_cell (v := v) (T := []) hb (by simp) a1
                have da2 := fun v => later_cell (v := v) (T := []) hb (by simp) a2
                have da3 := fun v => later_cell (v := v) (T := []) hb (by simp) a3
                have db1 := fun v => later_cell (v := v) (T := []) hb (by simp) b1
                have db2 := fun v => later_cell (v := v) (T := []) hb (by simp) b2
                have db3 := fun v => later_cell (v := v) (T := []) hb (by simp) b3
                have dc1 := fun v => later_cell (v := v) (T := []) hb (by simp) c1
                have dc2 := fun v => later_cell (v := v) (T := []) hb (by simp) c2
                have dc3 := fun v => later_cell (v := v) (T := []) hb (by simp) c3
                have hz := hw.size
                refine region_late 16 [] (by kernel_rfl) (by kernel_rfl) (by rfl) ?_
                apply Exists.intro
                refine ⟨fun v hv hne => ?_, fun u hu => ?_⟩
                · simp only [List.take_succ_cons, List.take_zero]
                  repeat (go_big_quiet_step ((first | (go_at_call 28; with_reducible exact lateB (HT _)))))
                  refine wpQuiet_nil ?_
                  exact rfl
                · simp only [List.drop_succ_cons, List.drop_zero]
                  skip
                  refine late_mem (fun K hK => ?_)
                  go_simp
                  refine hK _ _ ((Keeps.of_below hu).alloc _) (fun u2 hu2 => ?_)
                  clear hK K
                  have hk2 : Keeps [] wr u2 := ((Keeps.of_below (T := []) hu).alloc _).later hu2
                  have P : Own u2 u.heap.size #[.int .i64 0, .int .i64 0, .int .i64 0, .int .i64 0] := Own.below (Own.new rfl) hu2
                  have Pc := P.cell
                  have Pf := P.thaw
                  have Pg : wr.heap.size ≤ u.heap.size := hu.size
                  replace hw := Below.hop ((Below.hop hw hu).alloc (by have := hw.size; have := hu.size; omega) _) hu2
                  have hwz := hw.size
                  have Py : w.heap.size ≤ u.heap.size := by omega
                  refine late_mem (fun K hK => ?_)
                  go_simp
                  refine hK _ _ ((((hk2.new Pg _).new Pg _).new Pg _).new Pg _) (fun u3 hu3 => ?_)
                  clear hK K
                  have hk3 : Keeps [] wr u3 := ((((hk2.new Pg _).new Pg _).new Pg _).new Pg _).later hu3
                  replace P : Own u3 u.heap.size #[.int .i64 p0, .int .i64 p1, .int .i64 p2, .int .i64 p3] := ((((P.set 0 _).set 1 _).set 2 _).set 3 _).below hu3
                  replace hw := Below.hop ((((hw.setCell Py _).setCell Py _).setCell Py _).setCell Py _) hu3
                  clear Pc Pf hk2
                  refine late_mem (fun K hK => ?_)
                  go_simp
                  refine hK _ _ hk3 (fun u4 hu4 => ?_)
                  clear hK K
                  replace P := P.below hu4
                  replace hw := Below.hop hw hu4
                  replace hk3 := hk3.later hu4
                  clear hu4
                  refine late_nil ?_
                  (try simp only [Act.put, List.setIfInBounds_toArray, List.set_cons_zero, List.set_cons_succ])
                  have HSP := Lib.hid (HSK.out.keeps hk3)
                  clear hk3 hu hu2 hu3 hwz
                  generalize u.heap.size = Pb at *
                  replace hz := hw.size
                  clear u
                  replace Pc := P.cell
                  replace Pf := P.thaw
                  replace Pz := P.lt
                  clear HT a1 a2 a3 b1 b2 b3 c1 c2 c3 da1 da2 da3 db1 db2 db3 dc1 dc2 dc3 HSK
                  cases o
                  · clear Pc Pf Pz P
                    go_wp2
                    go_roundw
                    case rel => exact ⟨k0 + 1, by omega, by go_num, hw, by rw [facK, step_no HXY.out.1]; exact HSP.out⟩
                    case measure => simp [intOf]; omega
                  · obtain ⟨⟨⟨q0, q1, q2⟩, q3⟩, hQ⟩ : ∃ Q, pFlip ⟨⟨p0, p1, p2⟩, p3⟩ = Q := ⟨_, rfl⟩
                    obtain ⟨hqx, hqy, hqz, _⟩ : I64 q0 ∧ I64 q1 ∧ I64 q2 ∧ I64 q3 := by
                      have q := flip_i64 ⟨⟨p0, p1, p2⟩, p3⟩
                      rw [hQ] at q
                      exact q
                    have HQ := Lib.hid hQ
                    have HQV := Lib.hid (show (pFlip ⟨⟨p0, p1, p2⟩, p3⟩).v = vP q0 q1 q2 q3 by rw [hQ])
                    clear hQ
                    obtain ⟨s1, hs1⟩ : ∃ s, insideB L ⟨⟨p0, p1, p2⟩, p3⟩ = s := ⟨_, rfl⟩
                    obtain ⟨s2, hs2⟩ : ∃ s, insideB L ⟨⟨q0, q1, q2⟩, q3⟩ = s := ⟨_, rfl⟩
                    have HS1 := Lib.hid hs1
                    have HS2 := Lib.hid hs2
                    have HV1 := Lib.hid (congrArg Value.bool hs1)
                    have HV2 := Lib.hid (congrArg Value.bool hs2)
                    clear hs1 hs2
                    go_wp2_with fail
                    refine Calls.mono (callv (ref8_holds c p0 p1 p2 p3 hpx hpy hpz (HV.out.below hw)) HV1.out) ?_
                    rintro e w3 ⟨rfl, hbx⟩
                    replace P := Own.below (by repeat' (first | ((refine Own.new ?_); (focus (first | rfl | omega | (simp; done) | (simp; omega)))) | assumption | refine Own.alloc ?_ _ | refine Own.drew ?_ | (refine Own.far ?_ ?_ _; rotate_left; (focus (first | rfl | omega | (simp; done) | (simp; omega)))))) hbx
                    replace Pc := P.cell
                    replace Pf := P.thaw
                    replace Pz := P.lt
                    have hss3 := Lib.hid (HSP.out.below hbx)
                    replace hw := Below.hop hw hbx
                    replace hz := hw.size
                    clear hbx HSP
                    have HSP := hss3
                    clear hss3
                    cases s1
                    · skip
                      go_wp2_with fail
                      refine Calls.mono (callv (ref7_Flip p0 p1 p2 p3 _) HQV.out) ?_
                      rintro e w4 ⟨rfl, hbx⟩
                      replace P := Own.below (by repeat' (first | ((refine Own.new ?_); (focus (first | rfl | omega | (simp; done) | (simp; omega)))) | assumption | refine Own.alloc ?_ _ | refine Own.drew ?_ | (refine Own.far ?_ ?_ _; rotate_left; (focus (first | rfl | omega | (simp; done) | (simp; omega)))))) hbx
                      replace Pc := P.cell
                      replace Pf := P.thaw
                      replace Pz := P.lt
                      have hss4 := Lib.hid (HSP.out.below hbx)
                      replace hw := Below.hop hw hbx
                      replace hz := hw.size
                      clear hbx HSP
                      have HSP := hss4
                      clear hss4
                      go_wp2_with fail
                      refine Calls.mono (callv (ref8_holds c q0 q1 q2 q3 hqx hqy hqz (HV.out.below hw)) HV2.out) ?_
                      rintro e w5 ⟨rfl, hbx⟩
                      replace P := Own.below (by repeat' (first | ((refine Own.new ?_); (focus (first | rfl | omega | (simp; done) | (simp; omega)))) | assumption | refine Own.alloc ?_ _ | refine Own.drew ?_ | (refine Own.far ?_ ?_ _; rotate_left; (focus (first | rfl | omega | (simp; done) | (simp; omega)))))) hbx
                      replace Pc := P.cell
                      replace Pf := P.thaw
                      replace Pz := P.lt
                      have hss5 := Lib.hid (HSP.out.below hbx)
                      replace hw := Below.hop hw hbx
                      replace hz := hw.size
                      clear hbx HSP
                      have HSP := hss5
                      clear hss5
                      cases s2
                      · skip
                        go_wp2
                        go_roundw
                        case rel => exact ⟨k0 + 1, by omega, by go_num, hw, by rw [facK, step_yes HXY.out.1 HXY.out.2 HQ.out, putF_no HS2.out, putF_no HS1.out]; exact HSP.out⟩
                        case measure => simp [intOf]; omega
                      · skip
                        go_wp2_with fail
                        refine Calls.mono (callv (ref7_Flip p0 p1 p2 p3 _) HQV.out) ?_
                        rintro e w6 ⟨rfl, hbx⟩
                        replace P := Own.below (by repeat' (first | ((refine Own.new ?_); (focus (first | rfl | omega | (simp; done) | (simp; omega)))) | assumption | refine Own.alloc ?_ _ | refine Own.drew ?_ | (refine Own.far ?_ ?_ _; rotate_left; (focus (first | rfl | omega | (simp; done) | (simp; omega)))))) hbx
                        replace Pc := P.cell
                        replace Pf := P.thaw
                        replace Pz := P.lt
                        have hss6 := Lib.hid (HSP.out.below hbx)
                        replace hw := Below.hop hw hbx
                        replace hz := hw.size
                        clear hbx HSP
                        have HSP := hss6
                        clear hss6
                        go_wp2_with fail
                        refine Calls.mono (ref8_put q0 q1 q2 q3 HSP.out (by first | omega | (have := putG_len (lt := pLt) (⟨⟨p0, p1, p2⟩, p3⟩ : Pl) (facK L i0 j0 (facJ L i0 (facI L i0) j0) k0); omega))) ?_
                        rintro e w7 ⟨⟨vw7, rfl, hsx⟩, hbx⟩
                        replace P := Own.below (by repeat' (first | ((refine Own.new ?_); (focus (first | rfl | omega | (simp; done) | (simp; omega)))) | assumption | refine Own.alloc ?_ _ | refine Own.drew ?_ | (refine Own.far ?_ ?_ _; rotate_left; (focus (first | rfl | omega | (simp; done) | (simp; omega)))))) hbx
                        replace Pc := P.cell
                        replace Pf := P.thaw
                        replace Pz := P.lt
                        clear HSP
                        have HSP := Lib.hid hsx
                        replace hw := Below.hop hw hbx
                        replace hz := hw.size
                        clear hbx hsx
                        go_wp2
                        go_roundw
                        case rel => exact ⟨k0 + 1, by omega, by go_num, hw, by rw [facK, step_yes HXY.out.1 HXY.out.2 HQ.out, putF_yes HS2.out, putF_no HS1.out]; exact HSP.out⟩
                        case measure => simp [intOf]; omega
                    · skip
                      go_wp2_with fail
                      refine Calls.mono (ref8_put p0 p1 p2 p3 HSP.out (by omega)) ?_
                      rintro e w8 ⟨⟨vw8, rfl, hsx⟩, hbx⟩
                      replace P := Own.below (by repeat' (first | ((refine Own.new ?_); (focus (first | rfl | omega | (simp; done) | (simp; omega)))) | assumption | refine Own.alloc ?_ _ | refine Own.drew ?_ | (refine Own.far ?_ ?_ _; rotate_left; (focus (first | rfl | omega | (simp; done) | (simp; omega)))))) hbx
                      replace Pc := P.cell
                      replace Pf := P.thaw
                      replace Pz := P.lt
                      clear HSP
                      have HSP := Lib.hid hsx
                      replace hw := Below.hop hw hbx
                      replace hz := hw.size
                      clear hbx hsx
                      go_wp2_with fail
                      refine Calls.mono (callv (ref7_Flip p0 p1 p2 p3 _) HQV.out) ?_
                      rintro e w4 ⟨rfl, hbx⟩
                      replace P := Own.below (by repeat' (first | ((refine Own.new ?_); (focus (first | rfl | omega | (simp; done) | (simp; omega)))) | assumption | refine Own.alloc ?_ _ | refine Own.drew ?_ | (refine Own.far ?_ ?_ _; rotate_left; (focus (first | rfl | omega | (simp; done) | (simp; omega)))))) hbx
                      replace Pc := P.cell
                      replace Pf := P.thaw
                      replace Pz := P.lt
                      have hss4 := Lib.hid (HSP.out.below hbx)
                      replace hw := Below.hop hw hbx
                      replace hz := hw.size
                      clear hbx HSP
                      have HSP := hss4
                      clear hss4
                      go_wp2_with fail
                      refine Calls.mono (callv (ref8_holds c q0 q1 q2 q3 hqx hqy hqz (HV.out.below hw)) HV2.out) ?_
                      rintro e w5 ⟨rfl, hbx⟩
                      replace P := Own.below (by repeat' (first | ((refine Own.new ?_); (focus (first | rfl | omega | (simp; done) | (simp; omega)))) | assumption | refine Own.alloc ?_ _ | refine Own.drew ?_ | (refine Own.far ?_ ?_ _; rotate_left; (focus (first | rfl | omega | (simp; done) | (simp; omega)))))) hbx
                      replace Pc := P.cell
                      replace Pf := P.thaw
                      replace Pz := P.lt
                      have hss5 := Lib.hid (HSP.out.below hbx)
                      replace hw := Below.hop hw hbx
                      replace hz := hw.size
                      clear hbx HSP
                      have HSP := hss5
                      clear hss5
                      cases s2
                      · skip
                        go_wp2
                        go_roundw
                        case rel => exact ⟨k0 + 1, by omega, by go_num, hw, by rw [facK, step_yes HXY.out.1 HXY.out.2 HQ.out, putF_no HS2.out, putF_yes HS1.out]; exact HSP.out⟩
                        case measure => simp [intOf]; omega
                      · skip
                        go_wp2_with fail
                        refine Calls.mono (callv (ref7_Flip p0 p1 p2 p3 _) HQV.out) ?_
                        rintro e w6 ⟨rfl, hbx⟩
                        replace P := Own.below (by repeat' (first | ((refine Own.new ?_); (focus (first | rfl | omega | (simp; done) | (simp; omega)))) | assumption | refine Own.alloc ?_ _ | refine Own.drew ?_ | (refine Own.far ?_ ?_ _; rotate_left; (focus (first | rfl | omega | (simp; done) | (simp; omega)))))) hbx
                        replace Pc := P.cell
                        replace Pf := P.thaw
                        replace Pz := P.lt
                        have hss6 := Lib.hid (HSP.out.below hbx)
                        replace hw := Below.hop hw hbx
                        replace hz := hw.size
                        clear hbx HSP
                        have HSP := hss6
                        clear hss6
                        go_wp2_with fail
                        refine Calls.mono (ref8_put q0 q1 q2 q3 HSP.out (by first | omega | (have := putG_len (lt := pLt) (⟨⟨p0, p1, p2⟩, p3⟩ : Pl) (facK L i0 j0 (facJ L i0 (facI L i0) j0) k0); omega))) ?_
                        rintro e w7 ⟨⟨vw7, rfl, hsx⟩, hbx⟩
                        replace P := Own.below (by repeat' (first | ((refine Own.new ?_); (focus (first | rfl | omega | (simp; done) | (simp; omega)))) | assumption | refine Own.alloc ?_ _ | refine Own.drew ?_ | (refine Own.far ?_ ?_ _; rotate_left; (focus (first | rfl | omega | (simp; done) | (simp; omega)))))) hbx
                        replace Pc := P.cell
                        replace Pf := P.thaw
                        replace Pz := P.lt
                        clear HSP
                        have HSP := Lib.hid hsx
                        replace hw := Below.hop hw hbx
                        replace hz := hw.size
                        clear hbx hsx
                        go_wp2
                        go_roundw
                        case rel => exact ⟨k0 + 1, by omega, by go_num, hw, by rw [facK, step_yes HXY.out.1 HXY.out.2 HQ.out, putF_yes HS2.out, putF_yes HS1.out]; exact HSP.out⟩
                        case measure => simp [intOf]; omega
              · obtain rfl : k0 = j0 := by omega
                go_wp2
                go_roundw
                case rel => exact ⟨k0 + 1, by omega, by go_num, hw, HSK.out⟩
                case measure => simp [intOf]; omega
          · obtain rfl : j0 = i0 := by omega
            go_wp2
            go_roundw
            case rel => exact ⟨j0 + 1, by omega, by go_num, hw, HSJ.out⟩
            case measure => simp [intOf]; omega
      · obtain rfl : i0 = n := by omega
        go_wp2
        go_ret2
        refine ⟨⟨_, rfl, ?_⟩, hw⟩
        rw [HFF.out]
        unfold facets
        rw [HL.out]
        exact HSI.out
  · go_wp2
    go_ret2
    exact ⟨⟨_, rfl, .inl ⟨HF0.out h0, rfl⟩⟩, hw⟩
end Go.Proofs.YtccnlnkgoaelpaaGreat
