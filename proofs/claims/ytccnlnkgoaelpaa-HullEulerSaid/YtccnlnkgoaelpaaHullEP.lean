/- The statement HullEuler: for every input the call returns true, and the arguments read as before. No condition. -/
import Derived.Test.YtccnlnkgoaelpaaHullX1
import Derived.Test.YtccnlnkgoaelpaaHullA
import Derived.Test.YtccnlnkgoaelpaaSink
import Derived.Test.YtccnlnkgoaelpaaGeo19
import Derived.Test.YtccnlnkgoaelpaaRows
import Derived.WalkKit
import Derived.ProofKit
import Derived.OpenShut
import Derived.ShutString
import Derived.ChangeOld
import Derived.Below
import Derived.Test.YtccnlnkgoaelpaaFrame2
namespace Go.Proofs.Ytccnlnkgoaelpaa
open Go.RowKit Go.Shelf

def ownL (v : Value) : List Nat := v.ownBlock.toList
theorem ownL_ne {v : Value} {b : Nat} (h : ∀ r, v.ownBlock = some r → b ≠ r) : b ∉ ownL v := by
  unfold ownL
  cases e : v.ownBlock with
  | none => simp
  | some r => simpa using h r e
theorem keeps_grown {T : List Nat} {w u v : World} {row : Option Nat} (h : Keeps T w u) (hg : u.grownBy v row) (hr : ∀ r, row = some r → r ∈ T ∨ w.heap.size ≤ r) : Keeps T w v :=
  ⟨Nat.le_trans h.1 hg.size, fun b hb hT => (hg.block b (Nat.lt_of_lt_of_le hb h.1) (fun e => by
    rcases hr b e.symm with h1 | h1
    · exact hT h1
    · omega)).trans (h.2 b hb hT)⟩
set_option maxRecDepth 100000 in
set_option maxHeartbeats 4000000 in
theorem law08_Euler_walk {A0 : Option Addr} {n0 c0 : Nat} {l : List Int} (w : World) (hl : SliceI w A0 n0 l) (x y z tn : Int) (ht0 : 0 ≤ tn) (ht1 : tn ≤ 255) :
    Calls Try.prog 5 #[.slice A0 n0 c0, vV x y z, .int .u8 tn] w fun e w' => e = .returned (.bool true) ∧ Below w.heap.size w w' := by
  have HLI := Lib.hid hl
  clear hl
  obtain ⟨i0, hi, hz0, hz1, hz2⟩ := info_parts infoVe
  go_enter Try.func5, Try.ntmps5
  have hw0 := (Below.refl w.heap.size w).alloc (Nat.le_refl _) (.cells #[.int .i64 x, .int .i64 y, .int .i64 z] 31)
  have hvo0 : Own (w.alloc (.cells #[.int .i64 x, .int .i64 y, .int .i64 z] 31)) w.heap.size #[.int .i64 x, .int .i64 y, .int .i64 z] := Own.new rfl
  go_wp2_with fail
  refine Calls.mono (law08_sanity _) ?_
  rintro e w1 ⟨rfl, hbx⟩
  have hw := Below.hop hw0 hbx
  have bo := hvo0.below hbx
  have boz1 := bo.lt
  clear hbx hw0 hvo0
  go_wp2_with fail
  refine Calls.mono (ref8_Points A0 n0 c0 l w1 (HLI.out.below hw)) ?_
  rintro e w2 ⟨⟨g, pc, P, rfl, hp4, hp8, hpc, hpm, hvp, hgb, hp11, hchk⟩, hbx⟩
  replace hw := Below.hop hw hbx
  replace bo := bo.below hbx
  have HVP := Lib.hid hvp
  have HCK := Lib.hid hchk
  have HIN := Lib.hid hp11
  have HGB := Lib.hid (show ¬ g = w.heap.size by omega)
  have HGL := Lib.hid (show g < w2.heap.size by have := hvp.row (by omega); obtain ⟨b, off, e, hb, _⟩ := this; cases e; exact hb)
  clear hbx hvp hgb hp11 hchk HLI
  have boc := bo.cell
  have bof := bo.thaw
  have boz := bo.lt
  obtain ⟨ux, hux⟩ : ∃ u, x % 9 = u := ⟨_, rfl⟩
  obtain ⟨uy, huy⟩ : ∃ u, y % 9 = u := ⟨_, rfl⟩
  obtain ⟨uz, huz⟩ : ∃ u, z % 9 = u := ⟨_, rfl⟩
  have hMx := fun W => ref1_Mod x 9 (by omega) (by omega) W
  have hMy := fun W => ref1_Mod y 9 (by omega) (by omega) W
  have hMz := fun W => ref1_Mod z 9 (by omega) (by omega) W
  rw [hux] at hMx
  rw [huy] at hMy
  rw [huz] at hMz
  have bx : 0 ≤ ux ∧ ux < 9 := by omega
  have by_ : 0 ≤ uy ∧ uy < 9 := by omega
  have bz : 0 ≤ uz ∧ uz < 9 := by omega
  obtain ⟨s0, hs0⟩ : ∃ u, ux - 4 = u := ⟨_, rfl⟩
  obtain ⟨s1, hs1⟩ : ∃ u, uy - 4 = u := ⟨_, rfl⟩
  obtain ⟨s2, hs2⟩ : ∃ u, uz - 4 = u := ⟨_, rfl⟩
  have HB := Lib.hid (show (-4 ≤ s0 ∧ s0 ≤ 4) ∧ (-4 ≤ s1 ∧ s1 ≤ 4) ∧ (-4 ≤ s2 ∧ s2 ≤ 4) by omega)
  clear hux huy huz
  go_wp2
  refine region_sink 13 [] (by kernel_rfl) (by kernel_rfl) (by rfl) ?_
  apply Exists.intro
  refine ⟨fun v hv hne => ?_, fun u hu => ?_⟩
  · simp only [List.take_succ_cons, List.take_zero]
    have dbo := fun x => (bo.later (v := v) (T := []) (by simp) x).cell
    repeat (go_big_quiet_step ((first | (go_at_call 21; with_reducible exact lateS (hMx _)) | (go_at_call 21; with_reducible exact lateS (hMy _)) | (go_at_call 21; with_reducible exact lateS (hMz _)) | (go_at_call 20; with_reducible exact lateB (law08_vec _ _ _ _)))))
    refine wpQuiet_nil ?_
    exact rfl
  · simp only [List.drop_succ_cons, List.drop_zero]
    replace bo := bo.below hu
    replace hw := Below.hop hw hu
    have HVP2 := Lib.hid (HVP.out.below hu)
    have HGL2 := Lib.hid (Nat.lt_of_lt_of_le HGL.out hu.size)
    clear hu boc bof boz HVP hMx hMy hMz
    have boc := bo.cell
    have bof := bo.thaw
    have boz := bo.lt
    refine sink_all (by kernel_rfl) (fun K hK => ?_)
    go_simp
    refine hK _ _ ?_
    clear hK K
    refine sink_nil ?_
    (try simp only [Act.put])
    have hkk : Keeps [w.heap.size] u (((u.setCell ⟨w.heap.size, 0, none⟩ (.int .i64 s0)).setCell ⟨w.heap.size, 1, none⟩ (.int .i64 s1)).setCell ⟨w.heap.size, 2, none⟩ (.int .i64 s2)) := ((((Keeps.refl [w.heap.size] u).set (by simp) _).set (by simp) _).set (by simp) _)
    replace bo : Own (((u.setCell ⟨w.heap.size, 0, none⟩ (.int .i64 s0)).setCell ⟨w.heap.size, 1, none⟩ (.int .i64 s1)).setCell ⟨w.heap.size, 2, none⟩ (.int .i64 s2)) w.heap.size #[.int .i64 s0, .int .i64 s1, .int .i64 s2] := (((bo.set 0 _).set 1 _).set 2 _)
    replace hw : Below w.heap.size w (((u.setCell ⟨w.heap.size, 0, none⟩ (.int .i64 s0)).setCell ⟨w.heap.size, 1, none⟩ (.int .i64 s1)).setCell ⟨w.heap.size, 2, none⟩ (.int .i64 s2)) := (((hw.setCell (Nat.le_refl _) _).setCell (Nat.le_refl _) _).setCell (Nat.le_refl _) _)
    have HVP3 := Lib.hid (HVP2.out.same hkk.1 (fun a e => by cases e; exact hkk.2 g HGL2.out (by simp; exact HGB.out)))
    clear hkk HVP2 HGL HGL2 boc bof boz hs0 hs1 hs2 bx by_ bz
    generalize (((u.setCell ⟨w.heap.size, 0, none⟩ (.int .i64 s0)).setCell ⟨w.heap.size, 1, none⟩ (.int .i64 s1)).setCell ⟨w.heap.size, 2, none⟩ (.int .i64 s2)) = w3 at *
    obtain ⟨F, hF⟩ : ∃ F, facets P = F := ⟨_, rfl⟩
    obtain ⟨V, hV⟩ : ∃ V, hExtreme P = V := ⟨_, rfl⟩
    obtain ⟨tt, htt⟩ : ∃ n : Nat, tn = (n : Int) := ⟨tn.toNat, by omega⟩
    subst htt
    have heu := euler HCK.out
    obtain ⟨hcM, hfM, hvM⟩ := euler_law (s := ⟨s0, s1, s2⟩) (t := tt) HCK.out hp8 HIN.out HB.out
    have hvl : (hExtreme P).length ≤ 8 := by
      have e : hExtreme P = (distinctL P).filter (cornerB (facets P)) := if_pos HCK.out
      rw [e]
      exact Nat.le_trans (List.length_filter_le _ _) (Nat.le_trans (distinctL_len P) hp8)
    have hflen := facets_len (show P.length ≤ 48 by omega)
    have hff : hFaces P = F := (if_pos HCK.out).trans hF
    have hffM : hFaces (rotM P ⟨s0, s1, s2⟩ tt P.length) = F.map (mvP ⟨s0, s1, s2⟩) := (if_pos hcM).trans (by rw [hfM, hF])
    rw [hV] at hvM
    have hvin : ∀ i, i < V.length → vAt V i ∈ P := fun i hi => ((mem_ext HCK.out).1 (by rw [hV]; exact vAt_mem hi)).1
    have hmvp : ∀ i, i < F.length → vDot (pAt F i).n ⟨s0, s1, s2⟩ = dt (pAt F i).n ⟨s0, s1, s2⟩ ∧ (-400000 ≤ (pAt F i).b ∧ (pAt F i).b ≤ 400000) ∧ (-60000 ≤ dt (pAt F i).n ⟨s0, s1, s2⟩ ∧ dt (pAt F i).n ⟨s0, s1, s2⟩ ≤ 60000) := fun i hi => moved_b HCK.out HB.out (by rw [hF]; exact pAt_mem hi)
    have hcl : ∀ i, i < F.length → cl (pAt F i) = pAt F i := fun i hi => facets_cl (L := P) (by rw [hF]; exact pAt_mem hi)
    rw [hF, hV] at heu
    rw [hV] at hvl
    rw [hF] at hflen
    have hfc := hull_Faces pc HVP3.out hpc hpm
    rw [HCK.out, hff] at hfc
    have HFC := Lib.hid hfc
    have HEU := Lib.hid heu
    have HCM := Lib.hid hcM
    have HFM := Lib.hid hffM
    have HVM := Lib.hid hvM
    have HEX := Lib.hid hV
    have HVIN := Lib.hid hvin
    have HMV := Lib.hid hmvp
    have HCL := Lib.hid hcl
    clear hfc heu hcM hffM hvM hV hvin hmvp hcl hff hF hfM
    obtain ⟨m, hm⟩ : ∃ m, P.length = m := ⟨_, rfl⟩
    have HM := Lib.hid hm
    obtain ⟨nV, hnV⟩ : ∃ m, V.length = m := ⟨_, rfl⟩
    have HNV := Lib.hid hnV
    obtain ⟨nF, hnF⟩ : ∃ m, F.length = m := ⟨_, rfl⟩
    have HNF := Lib.hid hnF
    rw [hm] at hp4 hp8 hpc HVP3 HFC ⊢
    rw [hnV] at hvl
    rw [hnF] at hflen
    clear hm hnV hnF
    have hm8i : (m : Int) ≤ 8 := by omega
    have hm4i : (4 : Int) ≤ (m : Int) := by omega
    have hnVi : (nV : Int) ≤ 8 := by omega
    have hnFi : (nF : Int) ≤ 230000 := by omega
    go_wp2_with fail
    refine Calls.mono HFC.out ?_
    rintro e w4 ⟨v, rfl, ⟨Af, cf, rfl, hcf1, hcf2, hpf, _⟩, hbx⟩
    rw [HNF.out] at hcf1 hpf ⊢
    replace hw := Below.hop hw hbx
    replace bo := bo.below hbx
    have HPF4 := Lib.hid hpf
    have HVP4 := Lib.hid (HVP3.out.below hbx)
    have hex := hull_Extreme pc HVP4.out hpc hpm
    rw [HCK.out, HEX.out] at hex
    have HEXT := Lib.hid hex
    clear hbx hpf HFC HVP3 hex
    go_wp2_with fail
    refine Calls.mono HEXT.out ?_
    rintro e w5 ⟨v, rfl, ⟨Av, cv, rfl, hcv1, hcv2, hvv, _⟩, hbx⟩
    rw [HNV.out] at hcv1 hvv ⊢
    replace hw := Below.hop hw hbx
    replace bo := bo.below hbx
    have HPF := Lib.hid (HPF4.out.below hbx)
    have HVP := Lib.hid (HVP4.out.below hbx)
    have HVV := Lib.hid hvv
    have HW := Lib.hid hw
    have HBO := Lib.hid bo
    have hcfi : (nF : Int) ≤ (cf : Int) := by omega
    have hcfm : (cf : Int) ≤ 9223372036854775807 := by omega
    clear hbx hvv HEXT HPF4 HVP4 bo
    clear hw
    have hw : Below w5.heap.size w5 w5 := Below.refl _ _
    go_wp2
    go_loopw [13, 62] (fun e i wr => ∃ k E : Nat, k ≤ nF ∧ i = .int .i64 k ∧ E = edgesTo V F k ∧ e = .int .i64 E ∧ Below w5.heap.size w5 wr) (fun _ i _ => nF - (intOf i).toNat)
    case atStart => exact ⟨0, 0, by omega, rfl, rfl, rfl, hw⟩
    case round =>
      clear hw
      obtain ⟨k, E, hk, rfl, hE, rfl, hw⟩ := hrel
      have HE := Lib.hid hE
      clear hE
      by_cases hlt : k < nF
      · have hlt2 : (k : Int) < (nF : Int) := by omega
        have hkcf : (k : Int) ≤ (cf : Int) := by omega
        obtain ⟨⟨⟨p0, p1, p2⟩, p3⟩, hX⟩ : ∃ X, pAt F k = X := ⟨_, rfl⟩
        obtain ⟨hx, hy, hz, _⟩ : I64 p0 ∧ I64 p1 ∧ I64 p2 ∧ I64 p3 := by
          have q := cl_i64 (pAt F k)
          rw [HCL.out k (by rw [HNF.out]; exact hlt), hX] at q
          exact q
        have HX := Lib.hid hX
        clear hX
        have hkcn : k ≤ cf := by omega
        go_wp2
        go_loopw [13, 69] (fun e i wr => ∃ j C : Nat, j ≤ k ∧ i = .int .i64 j ∧ C = ((F.take j).filter (edgeB V ⟨⟨p0, p1, p2⟩, p3⟩)).length ∧ e = .int .i64 ((E : Int) + (C : Int)) ∧ Below w5.heap.size w5 wr) (fun _ i _ => k - (intOf i).toNat)
        case atStart => exact ⟨0, 0, by omega, rfl, by simp, by simp, hw⟩
        case round =>
          clear hw
          obtain ⟨j, C, hj, rfl, hC, rfl, hw⟩ := hrel
          have hEC : E + C ≤ 230008 := by
            have q := edges_part (V := V) (F := F) (i := k) (j := j) (by rw [HNF.out]; exact hlt) hj
            rw [HX.out, ← hC, ← HE.out] at q
            have := HEU.out
            rw [HNF.out, HNV.out] at this
            rw [HNF.out] at q
            omega
          have hECi : (E : Int) + (C : Int) ≤ 230008 := by omega
          have HC := Lib.hid hC
          clear hC
          by_cases hlj : j < k
          · have hlj2 : (j : Int) < (k : Int) := by omega
            have hljn : j < nF := by omega
            have hljni : (j : Int) < (nF : Int) := by omega
            obtain ⟨⟨⟨r0, r1, r2⟩, r3⟩, hY⟩ : ∃ X, pAt F j = X := ⟨_, rfl⟩
            obtain ⟨hx', hy', hz', _⟩ : I64 r0 ∧ I64 r1 ∧ I64 r2 ∧ I64 r3 := by
              have q := cl_i64 (pAt F j)
              rw [HCL.out j (by rw [HNF.out]; exact hljn), hY] at q
              exact q
            have HY := Lib.hid hY
            clear hY
            go_wp2
            go_loopw [16, 74] (fun b i wr => ∃ q B : Nat, q ≤ nV ∧ i = .int .i64 q ∧ B = (shared (V.take q) ⟨⟨p0, p1, p2⟩, p3⟩ ⟨⟨r0, r1, r2⟩, r3⟩).length ∧ b = .int .i64 B ∧ Below w5.heap.size w5 wr) (fun _ i _ => nV - (intOf i).toNat)
            case atStart => exact ⟨0, 0, by omega, rfl, by simp [shared], rfl, hw⟩
            case round =>
              clear hw
              obtain ⟨q, B, hq, rfl, hB, rfl, hw⟩ := hrel
              have hB8 : B ≤ 8 := by
                rw [hB]
                exact Nat.le_trans (List.length_filter_le _ _) (by rw [List.length_take]; omega)
              have hB8i : (B : Int) ≤ 8 := by omega
              have HBB := Lib.hid hB
              clear hB
              by_cases hlq : q < nV
              · have hlq2 : (q : Int) < (nV : Int) := by omega
                obtain ⟨⟨x, y, z⟩, hV⟩ : ∃ X, vAt V q = X := ⟨_, rfl⟩
                obtain ⟨b, off, hA, hb, a1, a2, a3⟩ := (HVV.out.below hw).cells hlq hV
                cases hA
                have hst := shared_step (V := V) ⟨⟨p0, p1, p2⟩, p3⟩ ⟨⟨r0, r1, r2⟩, r3⟩ (k := q) (by rw [HNV.out]; exact hlq)
                rw [hV, ← HBB.out] at hst
                clear hV HBB
                go_wp2
                have po : Own (wr.alloc (.cells #[.int .i64 x, .int .i64 y, .int .i64 z] 31)) wr.heap.size #[.int .i64 x, .int .i64 y, .int .i64 z] := Own.new rfl
                have hw7 := hw.alloc hw.size (.cells #[.int .i64 x, .int .i64 y, .int .i64 z] 31)
                clear a1 a2 a3 hb hw
                generalize (wr.alloc (.cells #[.int .i64 x, .int .i64 y, .int .i64 z] 31)) = w7 at *
                generalize wr.heap.size = pb at *
                have hw := hw7
                clear hw7
                obtain ⟨b1, off1, hA, hb, a1, a2, a3, a4⟩ := (HPF.out.below hw).cells hlt HX.out
                cases hA
                obtain ⟨b2, off2, hA, hb2, c1, c2, c3, c4⟩ := (HPF.out.below hw).cells hljn HY.out
                cases hA
                obtain ⟨t1, ht1⟩ : ∃ s, pSide ⟨⟨p0, p1, p2⟩, p3⟩ ⟨x, y, z⟩ = s := ⟨_, rfl⟩
                obtain ⟨t2, ht2⟩ : ∃ s, pSide ⟨⟨r0, r1, r2⟩, r3⟩ ⟨x, y, z⟩ = s := ⟨_, rfl⟩
                have HS1 := Lib.hid (congrArg (Value.int IntKind.i64) ht1)
                have HS2 := Lib.hid (congrArg (Value.int IntKind.i64) ht2)
                rw [ht1, ht2] at hst
                clear ht1 ht2
                by_cases h1 : t1 = 0
                · subst h1
                  by_cases h2 : t2 = 0
                  · subst h2
                    rw [if_pos ⟨rfl, rfl⟩] at hst
                    have HST := Lib.hid hst
                    clear hst
                    refine region_late 16 [] (by kernel_rfl) (by kernel_rfl) (by rfl) ?_
                    apply Exists.intro
                    refine ⟨fun v hv hne => ?_, fun u hu => ?_⟩
                    · simp only [List.take_succ_cons, List.take_zero]
                      have dpo := fun x => (po.later (v := v) (T := []) (by simp) x).cell
                      have e1 := later_cell (v := v) (T := []) hb (by simp) a1
                      have e2 := later_cell (v := v) (T := []) hb (by simp) a2
                      have e3 := later_cell (v := v) (T := []) hb (by simp) a3
                      have e4 := later_cell (v := v) (T := []) hb (by simp) a4
                      have f1 := later_cell (v := v) (T := []) hb2 (by simp) c1
                      have f2 := later_cell (v := v) (T := []) hb2 (by simp) c2
                      have f3 := later_cell (v := v) (T := []) hb2 (by simp) c3
                      have f4 := later_cell (v := v) (T := []) hb2 (by simp) c4
                      repeat (go_big_quiet_step ((first | (go_at_call 11; with_reducible exact lateB (callv (plane_Side _ _ _ _ _ _ _ hx hy hz _) HS1.out)) | (go_at_call 11; with_reducible exact lateB (callv (plane_Side _ _ _ _ _ _ _ hx' hy' hz' _) HS2.out)))))
                      refine wpQuiet_nil ?_
                      exact rfl
                    · simp only [List.drop_succ_cons, List.drop_zero]
                      replace hw := Below.hop hw hu
                      clear hu a1 a2 a3 a4 c1 c2 c3 c4 hb hb2 po HS1 HS2
                      refine late_nil ?_
                      (try simp only [Act.put, List.setIfInBounds_toArray, List.set_cons_zero, List.set_cons_succ])
                      go_wp2
                      go_roundw
                      case rel => exact ⟨q + 1, B + 1, by omega, by go_num, HST.out.symm, by go_num, hw⟩
                      case measure => simp [intOf]; omega
                  · rw [if_neg (fun h => h2 h.2)] at hst
                    have HST := Lib.hid hst
                    have h2d : decide (t2 = 0) = false := decide_eq_false h2
                    clear hst
                    refine region_late 16 [] (by kernel_rfl) (by kernel_rfl) (by rfl) ?_
                    apply Exists.intro
                    refine ⟨fun v hv hne => ?_, fun u hu => ?_⟩
                    · simp only [List.take_succ_cons, List.take_zero]
                      have dpo := fun x => (po.later (v := v) (T := []) (by simp) x).cell
                      have e1 := later_cell (v := v) (T := []) hb (by simp) a1
                      have e2 := later_cell (v := v) (T := []) hb (by simp) a2
                      have e3 := later_cell (v := v) (T := []) hb (by simp) a3
                      have e4 := later_cell (v := v) (T := []) hb (by simp) a4
                      have f1 := later_cell (v := v) (T := []) hb2 (by simp) c1
                      have f2 := later_cell (v := v) (T := []) hb2 (by simp) c2
                      have f3 := later_cell (v := v) (T := []) hb2 (by simp) c3
                      have f4 := later_cell (v := v) (T := []) hb2 (by simp) c4
                      repeat (go_big_quiet_step ((first | (go_at_call 11; with_reducible exact lateB (callv (plane_Side _ _ _ _ _ _ _ hx hy hz _) HS1.out)) | (go_at_call 11; with_reducible exact lateB (callv (plane_Side _ _ _ _ _ _ _ hx' hy' hz' _) HS2.out)))))
                      refine wpQuiet_nil ?_
                      exact rfl
                    · simp only [List.drop_succ_cons, List.drop_zero]
                      replace hw := Below.hop hw hu
                      clear hu a1 a2 a3 a4 c1 c2 c3 c4 hb hb2 po HS1 HS2
                      refine late_nil ?_
                      (try simp only [Act.put, List.setIfInBounds_toArray, List.set_cons_zero, List.set_cons_succ])
                      go_wp2
                      go_roundw
                      case rel => exact ⟨q + 1, B, by omega, by go_num, HST.out.symm, by go_num, hw⟩
                      case measure => simp [intOf]; omega
                · rw [if_neg (fun h => h1 h.1)] at hst
                  have HST := Lib.hid hst
                  have h1d : decide (t1 = 0) = false := decide_eq_false h1
                  have h1b : (t1 == 0) = false := by simpa using h1
                  clear hst
                  refine region_late 16 [] (by kernel_rfl) (by kernel_rfl) (by rfl) ?_
                  apply Exists.intro
                  refine ⟨fun v hv hne => ?_, fun u hu => ?_⟩
                  · simp only [List.take_succ_cons, List.take_zero]
                    have dpo := fun x => (po.later (v := v) (T := []) (by simp) x).cell
                    have e1 := later_cell (v := v) (T := []) hb (by simp) a1
                    have e2 := later_cell (v := v) (T := []) hb (by simp) a2
                    have e3 := later_cell (v := v) (T := []) hb (by simp) a3
                    have e4 := later_cell (v := v) (T := []) hb (by simp) a4
                    have f1 := later_cell (v := v) (T := []) hb2 (by simp) c1
                    have f2 := later_cell (v := v) (T := []) hb2 (by simp) c2
                    have f3 := later_cell (v := v) (T := []) hb2 (by simp) c3
                    have f4 := later_cell (v := v) (T := []) hb2 (by simp) c4
                    repeat (go_big_quiet_step ((first | (go_at_call 11; with_reducible exact lateB (callv (plane_Side _ _ _ _ _ _ _ hx hy hz _) HS1.out)) | (go_at_call 11; with_reducible exact lateB (callv (plane_Side _ _ _ _ _ _ _ hx' hy' hz' _) HS2.out)))))
                    refine wpQuiet_nil ?_
                    exact rfl
                  · simp only [List.drop_succ_cons, List.drop_zero]
                    replace hw := Below.hop hw hu
                    clear hu a1 a2 a3 a4 c1 c2 c3 c4 hb hb2 po HS1 HS2
                    refine late_nil ?_
                    (try simp only [Act.put, List.setIfInBounds_toArray, List.set_cons_zero, List.set_cons_succ])
                    go_wp2
                    go_roundw
                    case rel => exact ⟨q + 1, B, by omega, by go_num, HST.out.symm, by go_num, hw⟩
                    case measure => simp [intOf]; omega
              · obtain rfl : q = nV := by omega
                have hed := edge_step (V := V) (F := F) ⟨⟨p0, p1, p2⟩, p3⟩ (j := j) (by rw [HNF.out]; exact hljn)
                have hBe : B = (shared V ⟨⟨p0, p1, p2⟩, p3⟩ ⟨⟨r0, r1, r2⟩, r3⟩).length := by
                  have := HBB.out
                  rw [List.take_of_length_le (by rw [HNV.out]; exact Nat.le_refl _)] at this
                  exact this
                rw [HY.out, ← HC.out] at hed
                clear HBB HC
                by_cases h1 : 1 < B
                · have h1i : (1 : Int) < (B : Int) := by omega
                  have hC1 : C + 1 = ((F.take (j + 1)).filter (edgeB V ⟨⟨p0, p1, p2⟩, p3⟩)).length := by
                    rw [hed, if_pos (by unfold edgeB; rw [← hBe]; exact decide_eq_true h1)]
                  have HC1 := Lib.hid hC1
                  clear hed hBe hC1
                  go_wp2
                  go_roundw
                  case rel => exact ⟨j + 1, C + 1, by omega, by go_num, HC1.out, by go_num, hw⟩
                  case measure => simp [intOf]; omega
                · have h1i : ¬ (1 : Int) < (B : Int) := by omega
                  have hC1 : C = ((F.take (j + 1)).filter (edgeB V ⟨⟨p0, p1, p2⟩, p3⟩)).length := by
                    rw [hed, if_neg (by unfold edgeB; rw [← hBe]; simp; omega)]; rfl
                  have HC1 := Lib.hid hC1
                  clear hed hBe hC1
                  go_wp2
                  go_roundw
                  case rel => exact ⟨j + 1, C, by omega, by go_num, HC1.out, rfl, hw⟩
                  case measure => simp [intOf]; omega
          · obtain rfl : j = k := by omega
            have hE1 : E + C = edgesTo V F (j + 1) := by
              show _ = edgesTo V F j + ((F.take j).filter (edgeB V (pAt F j))).length
              rw [HX.out, ← HC.out, ← HE.out]
            have HE1 := Lib.hid hE1
            clear hE1
            go_wp2
            go_roundw
            case rel => exact ⟨j + 1, E + C, by omega, by go_num, HE1.out, by go_num, hw⟩
            case measure => simp [intOf]; omega
      · obtain rfl : k = nF := by omega
        have hE2 : (nV : Int) - (E : Int) + (k : Int) = 2 := by
          have := HEU.out
          rw [HNF.out, HNV.out, ← HE.out] at this
          omega
        have hE3 : (E : Int) ≤ 230008 := by omega
        have HVPR := Lib.hid (HVP.out.below hw)
        have HVVR := Lib.hid (HVV.out.below hw)
        have HPFR := Lib.hid (HPF.out.below hw)
        have HWR := Lib.hid (Below.hop HW.out hw)
        have bo := HBO.out.below hw
        clear hw HVP HVV HPF HW HBO HE HEU
        generalize wr = wL at *
        have hw : Below wL.heap.size wL wL := Below.refl _ _
        have boz := bo.lt
        go_wp2
        clear hE2 hE3
        have HBO := Lib.hid bo
        clear bo
        go_loopw [19, 113] (fun v i wr => ∃ q : Nat, q ≤ m ∧ i = .int .i64 q ∧ Below wL.heap.size wL wr ∧ wr.ownsRow wL.heap.size 31 3 v q ((rotM P ⟨s0, s1, s2⟩ tt q).flatMap encV)) (fun _ i _ => m - (intOf i).toNat)
        case atStart => exact ⟨0, by omega, rfl, hw, World.ownsRow_nil _ _ _ _⟩
        case round =>
          clear hw
          obtain ⟨q, hq, rfl, hw, hrow⟩ := hrel
          have HROW := Lib.hid hrow
          clear hrow
          by_cases hlq : q < m
          · have hlq2 : (q : Int) < (m : Int) := by omega
            obtain ⟨ix, hix⟩ : ∃ n, (q + tt) % m = n := ⟨_, rfl⟩
            have hixl : ix < m := by rw [← hix]; exact Nat.mod_lt _ (by omega)
            have hixi : (ix : Int) < (m : Int) := by omega
            have hrem : ((q : Int) + (tt : Int)).tmod (m : Int) = (ix : Int) := by rw [Int.tmod_eq_emod_of_nonneg (by omega), ← hix, Int.natCast_emod, Int.natCast_add]
            have hm0 : ¬ (m : Int) = 0 := by omega
            have hqt : (q : Int) + (tt : Int) ≤ 300 := by omega
            obtain ⟨⟨a0, a1, a2⟩, hV⟩ : ∃ X, vAt P ix = X := ⟨_, rfl⟩
            obtain ⟨b, off, hA, hb, d1, d2, d3⟩ := (HVPR.out.below hw).cells hixl hV
            cases hA
            simp only [Nat.zero_add] at d1 d2 d3
            obtain ⟨⟨m0, m1, m2⟩, hMv⟩ : ∃ X, addV ⟨a0, a1, a2⟩ ⟨s0, s1, s2⟩ = X := ⟨_, rfl⟩
            have hstep := rotM_succ P ⟨s0, s1, s2⟩ tt q
            rw [HM.out, hix, hV, hMv] at hstep
            have hadd : vAdd ⟨a0, a1, a2⟩ ⟨s0, s1, s2⟩ = ⟨m0, m1, m2⟩ := by
              rw [vAdd_in (by rw [← hV]; exact HIN.out _ (vAt_mem (by rw [HM.out]; exact hixl))) HB.out]; exact hMv
            have HADD := Lib.hid (congrArg V3.v hadd)
            have HST := Lib.hid (show (rotM P ⟨s0, s1, s2⟩ tt q).flatMap encV ++ [.int .i64 m0, .int .i64 m1, .int .i64 m2] = (rotM P ⟨s0, s1, s2⟩ tt (q + 1)).flatMap encV by rw [hstep, List.flatMap_append]; rfl)
            have bo := HBO.out.below hw
            have boz := bo.lt
            have hwz := hw.size
            have hgs : ∀ r, u19.ownBlock = some r → wL.heap.size ≤ r := fun r e => ownBlock_ge HROW.out e
            have HGS := Lib.hid hgs
            have hbL : g < wL.heap.size := by
              obtain ⟨b', off', hA, hb', _⟩ := HVPR.out.cells hixl hV
              cases hA
              exact hb'
            have hbbL := HBO.out.lt
            have hnb : w.heap.size ∉ ownL u19 := ownL_ne (fun r e => by have := HGS.out r e; omega)
            have hnb2 : g ∉ ownL u19 := ownL_ne (fun r e => by have := HGS.out r e; omega)
            clear hix hV hMv hstep hadd hgs
            go_wp2
            refine region_late 13 (ownL u19) (by kernel_rfl) (by kernel_rfl) (by rfl) ?_
            apply Exists.intro
            refine ⟨fun v hv hne => ?_, fun u hu => ?_⟩
            · simp only [List.take_succ_cons, List.take_zero]
              have dbo := fun x => (bo.later (v := v) (T := ownL u19) hnb x).cell
              have e1 := later_cell (v := v) (T := ownL u19) hb hnb2 d1
              have e2 := later_cell (v := v) (T := ownL u19) hb hnb2 d2
              have e3 := later_cell (v := v) (T := ownL u19) hb hnb2 d3
              repeat (go_big_quiet_step ((go_at_call 22; with_reducible exact lateB (callv (plane_Add _ _ _ _ _ _ _) HADD.out))))
              refine wpQuiet_nil ?_
              exact rfl
            · simp only [List.drop_succ_cons, List.drop_zero]
              refine late_mem (fun K hK => ?_)
              go_simp
              refine hK _ _ ((Keeps.of_below hu).alloc _) (fun ua hu2 => ?_)
              clear hK K
              have hba : Below wr.heap.size wr ua := Below.hop (hu.alloc hu.size _) hu2
              have os : Own ua u.heap.size #[.int .i64 m0, .int .i64 m1, .int .i64 m2] := Own.below (Own.new rfl) hu2
              have hrow8 := rowk_below HROW.out hba
              have hwa := Below.hop hw hba
              have hwaz := hwa.size
              obtain ⟨Ts, hTs⟩ := os
              refine late_mem (fun K hK => ?_)
              refine late_append _ _ 24 rfl wL.heap.size 31 i0 (.agg #[.int .i64 0, .int .i64 0, .int .i64 0]) 3 24 Try.underlying24 hi hz0 hz1 hz2 rfl (by omega) _ q ((rotM P ⟨s0, s1, s2⟩ tt q).flatMap encV) (by rfl) hrow8 ⟨u.heap.size, 0, none⟩ 1 1 [.int .i64 m0, .int .i64 m1, .int .i64 m2] (by rfl) rfl (World.news_of_block hTs) ?_ (by omega) (by unfold maxLen; omega) (by omega) (by omega) ua.heap.size rfl ?_
              · intro q hq; simp at hq; rcases hq with rfl | rfl | rfl <;> rfl
              intro g2 cap2 w9 ho9 hg9 hat9 hlt9
              rw [HST.out] at ho9
              have hk9 : Keeps (ownL u19) wr w9 := keeps_grown (Keeps.of_below hba) hg9 (fun r e => .inl (by unfold ownL; rw [e]; simp))
              have hw9 : Below wL.heap.size wL w9 := hwa.grown hg9 (by omega) (fun r e => ownBlock_ge hrow8 e)
              refine hK _ _ hk9 (fun u3 hu3 => ?_)
              clear hK K
              have ho10 := rowk_below ho9 hu3
              have hw10 := Below.hop hw9 hu3
              have hk10 := hk9.later hu3
              clear ho9 hw9 hk9 hu3 hg9 hat9 hlt9 hrow8 hba hu hu2 hTs
              refine late_mem (fun K hK => ?_)
              go_simp
              refine hK _ _ hk10 (fun u4 hu4 => ?_)
              clear hK K
              have ho11 := rowk_below ho10 hu4
              have hw11 := Below.hop hw10 hu4
              have HO11 := Lib.hid ho11
              clear ho10 ho11 hw10 hk10 hu4 hw hwa hwaz HROW bo d1 d2 d3 hrem
              refine late_nil ?_
              (try simp only [Act.put, List.setIfInBounds_toArray, List.set_cons_zero, List.set_cons_succ])
              go_wp2
              go_roundw
              case rel => exact ⟨q + 1, by omega, by go_num, hw11, HO11.out⟩
              case measure => simp [intOf]; omega
          · obtain rfl : q = m := by omega
            obtain ⟨A9, c9, rfl, hc91, hc92, hv9, _⟩ := vecs_of_row' (by rw [rotM_len]) HROW.out
            have HV9 := Lib.hid hv9
            have hfc := hull_Faces c9 HV9.out hc91 hc92
            rw [← HM.out] at hfc
            rw [HCM.out, HFM.out] at hfc
            rw [HM.out] at hfc
            have HFC := Lib.hid hfc
            have HVV6 := Lib.hid (HVVR.out.below hw)
            have HPF6 := Lib.hid (HPFR.out.below hw)
            have HBO6 := Lib.hid (HBO.out.below hw)
            have HW6 := Lib.hid (Below.hop HWR.out hw)
            clear hv9 HROW hfc HVVR HPFR HBO HWR hw HVPR
            go_wp2_with fail
            refine Calls.mono HFC.out ?_
            rintro e w6 ⟨v, rfl, ⟨Ah, ch, rfl, hch1, hch2, hph, _⟩, hbx⟩
            rw [List.length_map, HNF.out] at hch1 hph ⊢
            have HPH := Lib.hid hph
            have hex := hull_Extreme c9 (HV9.out.below hbx) hc91 hc92
            rw [← HM.out] at hex
            rw [HCM.out, HVM.out] at hex
            rw [HM.out] at hex
            have HEXT := Lib.hid hex
            have HVV7 := Lib.hid (HVV6.out.below hbx)
            have HPF7 := Lib.hid (HPF6.out.below hbx)
            have HBO7 := Lib.hid (HBO6.out.below hbx)
            have HW7 := Lib.hid (Below.hop HW6.out hbx)
            clear hbx hph hex HFC HVV6 HPF6 HBO6 HW6
            go_wp2_with fail
            refine Calls.mono HEXT.out ?_
            rintro e w7 ⟨v, rfl, ⟨Aw, cw, rfl, hcw1, hcw2, hvw, _⟩, hbx⟩
            rw [List.length_map, HNV.out] at hcw1 hvw ⊢
            have HVW := Lib.hid hvw
            have HPH8 := Lib.hid (HPH.out.below hbx)
            have HVV8 := Lib.hid (HVV7.out.below hbx)
            have HPF8 := Lib.hid (HPF7.out.below hbx)
            have HBO8 := Lib.hid (HBO7.out.below hbx)
            have HW8 := Lib.hid (Below.hop HW7.out hbx)
            clear hbx hvw HEXT HVV7 HPF7 HBO7 HW7 HPH HV9
            have hw : Below w7.heap.size w7 w7 := Below.refl _ _
            go_wp2
            go_loopw [164] (fun i wr => ∃ j : Nat, j ≤ k ∧ i = .int .i64 j ∧ Below w7.heap.size w7 wr) (fun i _ => k - (intOf i).toNat)
            case atStart => exact ⟨0, by omega, rfl, hw⟩
            case round =>
              clear hw
              obtain ⟨j, hj, rfl, hw⟩ := hrel
              by_cases hlj : j < k
              · have hlj2 : (j : Int) < (k : Int) := by omega
                obtain ⟨⟨⟨p0, p1, p2⟩, p3⟩, hX⟩ : ∃ X, pAt F j = X := ⟨_, rfl⟩
                obtain ⟨hd1, hd2, hd3⟩ := HMV.out j (by rw [HNF.out]; exact hlj)
                have hY := pAt_map (mvP ⟨s0, s1, s2⟩) (show j < F.length by rw [HNF.out]; exact hlj)
                rw [hX] at hd1 hd2 hd3 hY
                obtain ⟨dd, hdd⟩ : ∃ d, dt ⟨p0, p1, p2⟩ ⟨s0, s1, s2⟩ = d := ⟨_, rfl⟩
                have hY2 : pAt (F.map (mvP ⟨s0, s1, s2⟩)) j = ⟨⟨p0, p1, p2⟩, p3 + dd⟩ := by rw [hY, ← hdd]; rfl
                simp only [] at hd1 hd2 hd3
                rw [hdd] at hd1 hd3
                have HD := Lib.hid (congrArg (Value.int IntKind.i64) hd1)
                obtain ⟨hd4, hd5⟩ := hd2
                obtain ⟨hd6, hd7⟩ := hd3
                obtain ⟨b, off, hA, hb, a1, a2, a3, a4⟩ := (HPF8.out.below hw).cells hlj hX
                cases hA
                clear hX hY hdd hd1
                go_wp2
                have po : Own (wr.alloc (.cells #[.int .i64 p0, .int .i64 p1, .int .i64 p2, .int .i64 p3] 33)) wr.heap.size #[.int .i64 p0, .int .i64 p1, .int .i64 p2, .int .i64 p3] := Own.new rfl
                have hw7 := hw.alloc hw.size (.cells #[.int .i64 p0, .int .i64 p1, .int .i64 p2, .int .i64 p3] 33)
                clear a1 a2 a3 a4 hb hw
                generalize (wr.alloc (.cells #[.int .i64 p0, .int .i64 p1, .int .i64 p2, .int .i64 p3] 33)) = w9 at *
                generalize wr.heap.size = pb at *
                have hw := hw7
                clear hw7
                obtain ⟨b, off, hA, hb, a1, a2, a3, a4⟩ := (HPH8.out.below hw).cells hlj hY2
                cases hA
                have bo := HBO8.out.below hw
                clear hY2
                refine region_late 15 [] (by kernel_rfl) (by kernel_rfl) (by rfl) ?_
                apply Exists.intro
                refine ⟨fun v hv hne => ?_, fun u hu => ?_⟩
                · simp only [List.take_succ_cons, List.take_zero]
                  have dpo := fun x => (po.later (v := v) (T := []) (by simp) x).cell
                  have dbo := fun x => (bo.later (v := v) (T := []) (by simp) x).cell
                  have e1 := later_cell (v := v) (T := []) hb (by simp) a1
                  have e2 := later_cell (v := v) (T := []) hb (by simp) a2
                  have e3 := later_cell (v := v) (T := []) hb (by simp) a3
                  have e4 := later_cell (v := v) (T := []) hb (by simp) a4
                  repeat (go_big_quiet_step ((go_at_call 23; with_reducible exact lateB (callv (plane_Dot _ _ _ _ _ _ _) HD.out))))
                  refine wpQuiet_nil ?_
                  exact rfl
                · simp only [List.drop_succ_cons, List.drop_zero]
                  replace hw := Below.hop hw hu
                  clear hu a1 a2 a3 a4 hb po bo HD
                  refine late_nil ?_
                  (try simp only [Act.put, List.setIfInBounds_toArray, List.set_cons_zero, List.set_cons_succ])
                  go_wp2
                  go_roundw
                  case rel => exact ⟨j + 1, by omega, by go_num, hw⟩
                  case measure => simp [intOf]; omega
              · obtain rfl : j = k := by omega
                have HVWR := Lib.hid (HVW.out.below hw)
                have HVV9 := Lib.hid (HVV8.out.below hw)
                have HBO9 := Lib.hid (HBO8.out.below hw)
                have HW9 := Lib.hid (Below.hop HW8.out hw)
                clear hw HVW HVV8 HBO8 HW8 HPF8 HPH8
                generalize wr = wM at *
                have hw : Below wM.heap.size wM wM := Below.refl _ _
                go_wp2
                go_loopw [187] (fun i wr => ∃ q : Nat, q ≤ nV ∧ i = .int .i64 q ∧ Below wM.heap.size wM wr) (fun i _ => nV - (intOf i).toNat)
                case atStart => exact ⟨0, by omega, rfl, hw⟩
                case round =>
                  clear hw
                  obtain ⟨i, hi, rfl, hw⟩ := hrel
                  by_cases hli : i < nV
                  · have hli2 : (i : Int) < (nV : Int) := by omega
                    obtain ⟨⟨a0, a1, a2⟩, hV⟩ : ∃ X, vAt V i = X := ⟨_, rfl⟩
                    have hY := vAt_map (fun u => addV u ⟨s0, s1, s2⟩) (show i < V.length by rw [HNV.out]; exact hli)
                    obtain ⟨⟨m0, m1, m2⟩, hMv⟩ : ∃ X, addV ⟨a0, a1, a2⟩ ⟨s0, s1, s2⟩ = X := ⟨_, rfl⟩
                    rw [hV] at hY
                    rw [hMv] at hY
                    have hadd : vAdd ⟨a0, a1, a2⟩ ⟨s0, s1, s2⟩ = ⟨m0, m1, m2⟩ := by
                      rw [vAdd_in (by rw [← hV]; exact HIN.out _ (HVIN.out i (by rw [HNV.out]; exact hli))) HB.out]; exact hMv
                    have HADD := Lib.hid (congrArg V3.v hadd)
                    obtain ⟨b, off, hA, hb, d1, d2, d3⟩ := (HVV9.out.below hw).cells hli hV
                    cases hA
                    obtain ⟨b2, off2, hA, hb2, f1, f2, f3⟩ := (HVWR.out.below hw).cells hli hY
                    cases hA
                    have bo := HBO9.out.below hw
                    clear hV hY hMv hadd
                    go_wp2
                    refine region_late 11 [] (by kernel_rfl) (by kernel_rfl) (by rfl) ?_
                    apply Exists.intro
                    refine ⟨fun v hv hne => ?_, fun u hu => ?_⟩
                    · simp only [List.take_succ_cons, List.take_zero]
                      have dbo := fun x => (bo.later (v := v) (T := []) (by simp) x).cell
                      have e1 := later_cell (v := v) (T := []) hb (by simp) d1
                      have e2 := later_cell (v := v) (T := []) hb (by simp) d2
                      have e3 := later_cell (v := v) (T := []) hb (by simp) d3
                      have e4 := later_cell (v := v) (T := []) hb2 (by simp) f1
                      have e5 := later_cell (v := v) (T := []) hb2 (by simp) f2
                      have e6 := later_cell (v := v) (T := []) hb2 (by simp) f3
                      repeat (go_big_quiet_step ((go_at_call 22; with_reducible exact lateB (callv (plane_Add _ _ _ _ _ _ _) HADD.out))))
                      refine wpQuiet_nil ?_
                      exact rfl
                    · simp only [List.drop_succ_cons, List.drop_zero]
                      replace hw := Below.hop hw hu
                      clear hu d1 d2 d3 f1 f2 f3 hb hb2 bo HADD
                      refine late_nil ?_
                      (try simp only [Act.put, List.setIfInBounds_toArray, List.set_cons_zero, List.set_cons_succ])
                      go_wp2
                      go_roundw
                      case rel => exact ⟨i + 1, by omega, by go_num, hw⟩
                      case measure => simp [intOf]; omega
                  · obtain rfl : i = nV := by omega
                    go_wp2
                    go_ret
                    exact ⟨rfl, Below.hop HW9.out hw⟩
end Go.Proofs.Ytccnlnkgoaelpaa
namespace Go.Proofs.Ytccnlnkgoaelpaa.hullEulerDone
open Go.ChangeShapes Go.WideShapes Go.ChangeAt Go.RowKit

set_option maxRecDepth 100000 in
theorem lifted (os : Os) (started : os.Started) (H : Type) (enc : TypeId × Value → H) :
    ReturnsInHanded {} Try.checked os 5 .any (Rows.hullEulerSpec.pre6 enc Try.prog Try.f5 Rows.hullEulerRow.domain false) (Rows.hullEulerSpec.post enc Try.prog Try.f5 false true false false) := by
  refine returnsInHanded_of_change (C := Try.checked) own started (by kernel_rfl) Try.func5
    (ChangeSpec.witness6 (enc := enc) (C := Try.checked) false ⟨#[], #[.slice none 0 0, .agg #[.int .i64 0, .int .i64 0, .int .i64 0], .int .u8 0], []⟩ 8 (by kernel_rfl) (by kernel_rfl) (by kernel_rfl) (by kernel_rfl)) ?_
  intro W base args ds gs before hval0 hW hcnd _
  have hval : ∀ (j : Nat) t v, Try.f5.params[j]? = some t → args[j]? = some v → Value.okWide Try.prog W .any base t v := hval0
  have hW' := hW
  obtain ⟨p, q, hA0, hV, rfl, hfz, hnd⟩ := hW
  have hA : DataW.TrodAll enc Try.prog W 0 (fun _ => true) true Try.f5.params.toList args.toList ds p := hA0
  rw [Try.params5] at hA hval
  obtain ⟨v0, vs0, d0, ds0, p0, q0, hargs, rfl, rfl, h0, r0⟩ := trodAll_cons hA
  obtain ⟨v1, vs1, d1, ds1, p1, q1, rfl, rfl, rfl, h1, r1⟩ := trodAll_cons r0
  obtain ⟨v2, vs2, d2, ds2, p2, q2, rfl, rfl, rfl, h2, r2⟩ := trodAll_cons r1
  obtain ⟨rfl, rfl, rfl⟩ := trodAll_nil r2
  obtain rfl : args = #[v0, v1, v2] := by cases args; simp_all
  obtain ⟨rfl, rfl⟩ := trodVars_none hV
  obtain ⟨a0, len0, cap0, rfl⟩ := okWide_slice Try.underlying22 (hval 0 22 v0 rfl rfl)
  have k0 := h0
  have lt0 : ∀ x ∈ p0, x.block < W.heap.size := by obtain ⟨m, hm⟩ := k0; exact DataW.trod_lt m _ _ _ hm
  have k1 := h1
  have lt1 : ∀ x ∈ p1, x.block < W.heap.size := by obtain ⟨m, hm⟩ := k1; exact DataW.trod_lt m _ _ _ hm
  have k2 := h2
  have lt2 : ∀ x ∈ p2, x.block < W.heap.size := by obtain ⟨m, hm⟩ := k2; exact DataW.trod_lt m _ _ _ hm
  obtain ⟨z0, w0⟩ : ∃ zs, SliceI W a0 len0 zs ∧ len0 ≤ cap0 ∧ cap0 ≤ 9223372036854775807 := by
    obtain ⟨fuel, hf⟩ := h0
    rcases open_ints Try.underlying22 Try.underlying3 (by kernel_rfl) hf with ⟨hcs, _⟩ | ⟨x, l, c, zs, hcs, _, hl, hm, hz, _, hcell, hwz⟩
    · simp [Value.cells] at hcs
      obtain ⟨rfl, rfl, rfl⟩ := hcs
      exact ⟨_, sliceI_of (zs := []) (.inl ⟨rfl, rfl, rfl, rfl⟩)⟩
    · simp [Value.cells] at hcs
      obtain ⟨rfl, rfl, rfl⟩ := hcs
      exact ⟨_, sliceI_of (zs := zs) (.inr ⟨_, rfl, hl, hm, by simpa using hz, hcell, hwz⟩)⟩
  obtain ⟨c1, e1, _⟩ := okWide_struct Try.underlying31 (hval 1 31 v1 rfl rfl)
  obtain ⟨m1, g1, l1, ok1⟩ := open_flat flatVec e1 h1
  subst g1
  obtain ⟨x1_0, x1_1, x1_2, rfl⟩ := len3 l1
  obtain ⟨x2, rfl, rfl, rfl, ok2⟩ := open_int Try.underlying5 (hval 2 5 v2 rfl rfl) h2
  clear hA0 hval0
  refine (law08_Euler_walk W w0.1 x1_0 x1_1 x1_2 x2 (u8_wf ok2).1 (u8_wf ok2).2).mono fun e W' ⟨he, bel⟩ => ?_
  subst he
  exact ⟨_, rfl, _, _, _, [], _, [], hW', trodAll_mk1 (shut_bool Try.underlying4 _), (trodAll_cons_mk (Below.trod laidOut (by kernel_rfl) (of_decide_eq_true (by kernel_rfl)) k0 bel lt0) (trodAll_cons_mk (Below.trod laidOut (by kernel_rfl) (of_decide_eq_true (by kernel_rfl)) k1 bel lt1) (trodAll_cons_mk (Below.trod laidOut (by kernel_rfl) (of_decide_eq_true (by kernel_rfl)) k2 bel lt2) trodAll_mk0))), rfl, bel.frame _, fun h => by cases h⟩

theorem over : Rows.hullEulerRow.holds Try.pinned (OpenSpec.ofChange Rows.hullEulerSpec) :=
  OpenClaim.holds_of_wide 5 Try.f5 rfl rfl rfl rfl rfl rfl rfl ⟨rfl, rfl, rfl, rfl, rfl⟩ rfl rfl rfl rfl rfl (by kernel_rfl) Try.func5 (by kernel_rfl)
    (of_decide_eq_true (by kernel_rfl)) (by unfold Func.isWrapper; first | (rw [if_pos (by decide +kernel)]; kernel_rfl) | (rw [if_neg (by decide +kernel)]; exact ⟨rfl, rfl⟩))
    (fun os started H enc _ => lifted os started H enc)

theorem proved : Rows.HullEulerSaid := over
#print axioms proved
end Go.Proofs.Ytccnlnkgoaelpaa.hullEulerDone
