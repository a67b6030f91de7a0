/- The statement HullHas: for every input the call returns true, and the arguments read as before. No condition. -/
import Derived.Deep.Slices
import Derived.Test.YtccnlnkgoaelpaaGreatFrame
import Derived.Test.YtccnlnkgoaelpaaGreatHullX1
import Derived.Test.YtccnlnkgoaelpaaGreatHullA
import Derived.Test.YtccnlnkgoaelpaaGreatRows
import Derived.WalkKit
import Derived.ProofKit
import Derived.OpenShut
import Derived.ShutString
import Derived.ChangeOld
import Derived.Below
namespace Go.Proofs.YtccnlnkgoaelpaaGreat
open Go.ChangeShapes Go.WideShapes Go.ChangeAt Go.RowKit Go.Deep

theorem open_vecs {H : Type} {enc : TypeId × Value → H} {w : World} {base : Nat} {spare : Nat → Bool} {held : Bool} {fuel : Nat} {cs : List Value} {x : DataW H × List MemPlace}
    (h : DataW.trod enc Tryz.prog w base spare held fuel 25 cs = some x) :
    ∃ A len cap L, cs = [.slice A len cap] ∧ VecsAt w A len L ∧ len ≤ cap ∧ cap ≤ 9223372036854775807 ∧ (A = none → cap = 0) := by
  rcases open_slice Tryz.underlying25 h with ⟨rfl, _⟩ | ⟨a, len, cap, m, n, D, Pl, rfl, hb, hl, hm, hmm, _, hx⟩
  · exact ⟨none, 0, 0, [], rfl, vecs_nil w, by omega, by omega, fun _ => rfl⟩
  · have hce : Tryz.prog.cellsOf 24 = 3 := by kernel_rfl
    rw [hce] at hx
    have hlm : len ≤ m := by rw [hmm]; split <;> omega
    unfold maxLen at hm
    have each : ∀ i, i < len → ∃ v : V3, w.cell? (a.add (i * 3)) = some (.int .i64 v.x) ∧ w.cell? ((a.add (i * 3)).add 1) = some (.int .i64 v.y) ∧ w.cell? ((a.add (i * 3)).add 2) = some (.int .i64 v.z) := fun i hi => by
      obtain ⟨cs', h1, h2⟩ := hx i (by omega)
      obtain ⟨_, hlen, hc⟩ := World.cells?_some h1
      obtain ⟨_, hf⟩ := flatVec _ _ _ _ _ _ _ _ _ h2
      obtain ⟨n0, e0, _⟩ := hf 0 (by omega)
      obtain ⟨n1, e1, _⟩ := hf 1 (by omega)
      obtain ⟨n2, e2, _⟩ := hf 2 (by omega)
      refine ⟨⟨n0, n1, n2⟩, ?_, (hc 1 (by omega)).trans e1, (hc 2 (by omega)).trans e2⟩
      have q := (hc 0 (by omega)).trans e0
      simpa [Addr.add] using q
    letI : Inhabited V3 := ⟨⟨0, 0, 0⟩⟩
    obtain ⟨V, hV⟩ := choose_lt (α := V3) each
    refine ⟨some a, len, cap, (List.range len).map V, rfl, ⟨by simp, by omega, fun hpos => ?_⟩, hl, hm, fun e => by cases e⟩
    obtain ⟨b, off, spot⟩ := a
    have h0 := (hV 0 hpos).1
    simp only [Nat.zero_mul] at h0
    have hs : spot = none := by simpa [Addr.add] using World.cell?_spot h0
    subst hs
    have hadd : ∀ i, (⟨b, off, none⟩ : Addr).add i = ⟨b, off + i, none⟩ := fun i => by unfold Addr.add; split <;> simp_all
    refine ⟨b, off, rfl, World.block_lt_of_cell? w _ h0, fun i hi => ?_⟩
    have hva : vAt ((List.range len).map V) i = V i := by
      unfold vAt
      simp [List.getD_eq_getElem?_getD, hi]
    obtain ⟨h1, h2, h3⟩ := hV i hi
    have hadd2 : ∀ o i, (⟨b, o, none⟩ : Addr).add i = ⟨b, o + i, none⟩ := fun o i => by unfold Addr.add; split <;> simp_all
    rw [hva, ← hadd]
    refine ⟨h1, ?_, ?_⟩
    · rw [hadd, hadd2] at h2; exact h2
    · rw [hadd, hadd2] at h3; exact h3
end Go.Proofs.YtccnlnkgoaelpaaGreat
namespace Go.Proofs.YtccnlnkgoaelpaaGreat
open Go.RowKit Go.Shelf

theorem imin (a b : Nat) : min (a : Int) (b : Int) = ((min a b : Nat) : Int) := by omega
/-- The three lists. -/
def Slc (w : World) (v : Value) : Prop := ∃ A n c L, v = .slice A n c ∧ VecsAt w A n L ∧ n ≤ c ∧ c ≤ 9223372036854775807
set_option maxRecDepth 100000 in
set_option maxHeartbeats 4000000 in
theorem law08_Has_walk {A0 A1 A2 : Option Addr} {n0 c0 n1 c1 n2 c2 : Nat} {l : List Int} {L1 L2 : List V3} (w : World) (hl : SliceI w A0 n0 l) (h1 : VecsAt w A1 n1 L1) (hc1 : n1 ≤ c1) (hm1 : c1 ≤ 9223372036854775807) (h2 : VecsAt w A2 n2 L2) (hc2 : n2 ≤ c2) (hm2 : c2 ≤ 9223372036854775807) :
    Calls Tryz.prog 4 #[.slice A0 n0 c0, .slice A1 n1 c1, .slice A2 n2 c2] w fun e w' => e = .returned (.bool true) ∧ Below w.heap.size w w' := by
  have HLI := Lib.hid hl
  have H1 := Lib.hid h1
  have H2 := Lib.hid h2
  clear hl h1 h2
  go_enter Tryz.func4, Tryz.ntmps4
  go_wp2_with fail
  refine Calls.mono (law08_sanity _) ?_
  rintro e w1 ⟨rfl, hw⟩
  go_wp2_with fail
  refine Calls.mono (ref8_Points A0 n0 c0 l w1 (HLI.out.below hw)) ?_
  rintro e w2 ⟨⟨g, pc, P, rfl, hp4, hp8, hpc, hpm, hvp, hgb, hp11, hchk⟩, hbx⟩
  replace hw := Below.hop hw hbx
  have HVP := Lib.hid hvp
  clear hbx hvp hp11 hchk hgb
  obtain ⟨m2, hm2e⟩ : ∃ m, min n2 5 = m := ⟨_, rfl⟩
  obtain ⟨m1, hm1e⟩ : ∃ m, min n1 6 = m := ⟨_, rfl⟩
  have q2 : min (n2 : Int) 5 = (m2 : Int) := by omega
  have q1 : min (n1 : Int) 6 = (m1 : Int) := by omega
  have p2 : (if (5 : Int) < (n2 : Int) then 5 else (n2 : Int)) = (m2 : Int) := by split <;> omega
  have p1 : (if (6 : Int) < (n1 : Int) then 6 else (n1 : Int)) = (m1 : Int) := by split <;> omega
  have i2 : (m2 : Int) ≤ (c2 : Int) := by omega
  have i1 : (m1 : Int) ≤ (c1 : Int) := by omega
  have j2 : m2 ≤ c2 := by omega
  have j1 : m1 ≤ c1 := by omega
  have hv2 := (H2.out.take (m := m2) (by omega)).below hw
  have hv1 := (H1.out.take (m := m1) (by omega)).below hw
  have HV2 := Lib.hid hv2
  have HV1 := Lib.hid hv1
  obtain ⟨K1, hK1⟩ : ∃ K, L1.take m1 = K := ⟨_, rfl⟩
  obtain ⟨K2, hK2⟩ : ∃ K, L2.take m2 = K := ⟨_, rfl⟩
  rw [hK2] at HV2
  rw [hK1] at HV1
  clear hv1 hv2 hm1e hm2e HLI H1 H2 hK1 hK2
  go_wp2
  refine region_late 10 [] (by kernel_rfl) (by kernel_rfl) (by rfl) ?_
  apply Exists.intro
  refine ⟨fun v hv hne => ?_, fun u hu => ?_⟩
  · simp only [List.take_succ_cons, List.take_zero]
    repeat (go_big_quiet_step (fail))
    refine wpQuiet_nil ?_
    exact rfl
  · simp only [List.drop_succ_cons, List.drop_zero]

    refine late_mem (fun K hK => ?_)
    go_simp
    refine hK _ _ (Keeps.of_below hu) (fun u2 hu2 => ?_)
    clear hK K
    refine late_mem (fun K hK => ?_)
    go_simp
    refine hK _ _ ((Keeps.of_below hu).later hu2) (fun u3 hu3 => ?_)
    clear hK K
    have hbu : Below w2.heap.size w2 u3 := Below.hop (Below.hop hu hu2) hu3
    clear hu hu2 hu3
    refine late_nil ?_
    (try simp only [Act.put, List.setIfInBounds_toArray, List.set_cons_zero, List.set_cons_succ])
    clear p1 p2 q1 q2
    go_wp2
    obtain ⟨cS, hcS⟩ : ∃ cS : Array Value, #[.slice (some ⟨g, 0, none⟩) P.length pc, .slice A2 m2 c2, .slice none 0 0] = cS := ⟨_, rfl⟩
    have sO : Own (u3.alloc (.cells #[.slice (some ⟨g, 0, none⟩) P.length pc, .slice A2 m2 c2, .slice none 0 0] 25)) u3.heap.size cS := by rw [← hcS]; exact Own.new rfl
    have hb0 : Below w2.heap.size w2 (u3.alloc (.cells #[.slice (some ⟨g, 0, none⟩) P.length pc, .slice A2 m2 c2, .slice none 0 0] 25)) := hbu.alloc hbu.size _
    generalize (u3.alloc (.cells #[.slice (some ⟨g, 0, none⟩) P.length pc, .slice A2 m2 c2, .slice none 0 0] 25)) = W0 at *
    generalize u3.heap.size = sb at *
    have hS : ∀ k, k < 3 → ∃ v, cS[k]? = some v ∧ Slc W0 v := fun k hk => by
      rw [← hcS]
      rcases (show k = 0 ∨ k = 1 ∨ k = 2 by omega) with rfl | rfl | rfl
      · exact ⟨_, rfl, _, _, _, _, rfl, HVP.out.below hb0, hpc, hpm⟩
      · exact ⟨_, rfl, _, _, _, _, rfl, HV2.out.below hb0, j2, hm2⟩
      · exact ⟨_, rfl, _, _, _, _, rfl, vecs_nil _, by omega, by omega⟩
    have HS := Lib.hid hS
    have HSO := Lib.hid sO
    have HW0 := Lib.hid (Below.hop hw hb0)
    have HVA := Lib.hid (HV1.out.below hb0)
    clear hS sO hw hb0 hbu hcS HV1 HV2 HVP
    have hw : Below W0.heap.size W0 W0 := Below.refl _ _
    go_loopw [37] (fun i wr => ∃ k : Nat, k ≤ 3 ∧ i = .int .i64 k ∧ Below W0.heap.size W0 wr) (fun i _ => 3 - (intOf i).toNat)
    case atStart => exact ⟨0, by omega, rfl, hw⟩
    case round =>
      clear hw
      obtain ⟨k, hk, rfl, hw⟩ := hrel
      by_cases hlt : k < 3
      · have hlt2 : (k : Int) < 3 := by omega
        obtain ⟨v, hcv, A, n, c, L, rfl, hvx, hnc, hcm⟩ := HS.out k hlt
        have a1 : wr.cell? ⟨sb, k, none⟩ = some (.slice A n c) := ((HSO.out.below hw).cell k).trans hcv
        have HVX := Lib.hid hvx
        clear hcv hvx
        obtain ⟨⟨r0, r1, r2⟩, hlo⟩ : ∃ r, hBoxLo L = r := ⟨_, rfl⟩
        obtain ⟨⟨s0, s1, s2⟩, hhi⟩ : ∃ r, hBoxHi L = r := ⟨_, rfl⟩
        obtain ⟨bq, hbq⟩ : ∃ b, decide (0 < n) = b := ⟨_, rfl⟩
        have HLH := Lib.hid (And.intro hlo (And.intro hhi hbq))
        clear hlo hhi hbq
        have hB1 := hull_Box c (HVX.out.below hw)
        rw [HLH.out.1, HLH.out.2.1, HLH.out.2.2] at hB1
        have HB1 := Lib.hid hB1
        clear hB1
        go_wp2_with fail
        refine Calls.mono HB1.out ?_
        rintro e w5 ⟨rfl, hbx⟩
        replace hw := Below.hop hw hbx
        clear hbx HB1 a1
        have hz := hw.size
        have hw5 : Below W0.heap.size W0 ((w5.alloc (.cells #[.int .i64 r0, .int .i64 r1, .int .i64 r2] 24)).alloc (.cells #[.int .i64 s0, .int .i64 s1, .int .i64 s2] 24)) := (hw.alloc hz _).alloc (by simp; omega) _
        have hB2 := ref8_Box c (HVX.out.below hw5)
        rw [HLH.out.1, HLH.out.2.1, HLH.out.2.2] at hB2
        have HB2 := Lib.hid hB2
        have HW5 := Lib.hid hw5
        clear hB2 hw5
        go_wp2_with fail
        refine Calls.mono HB2.out ?_
        rintro e w6 ⟨rfl, hbx⟩
        have oa : Own w6 w5.heap.size #[.int .i64 r0, .int .i64 r1, .int .i64 r2] := Own.below ((Own.new rfl).alloc _) hbx
        have ob : Own w6 (w5.heap.size + 1) #[.int .i64 s0, .int .i64 s1, .int .i64 s2] := Own.below (Own.new (by simp)) hbx
        replace hw := Below.hop HW5.out hbx
        replace hz := hw.size
        clear hbx HB2 HW5
        have oac := oa.cell
        have oaz := oa.lt
        have obc := ob.cell
        have obz := ob.lt
        go_wp2
        have hwY : Below W0.heap.size W0 ((w6.alloc (.cells #[.int .i64 r0, .int .i64 r1, .int .i64 r2] 24)).alloc (.cells #[.int .i64 s0, .int .i64 s1, .int .i64 s2] 24)) := (hw.alloc hz _).alloc (by simp; omega) _
        clear oa oac oaz ob obc obz hw hz
        generalize ((w6.alloc (.cells #[.int .i64 r0, .int .i64 r1, .int .i64 r2] 24)).alloc (.cells #[.int .i64 s0, .int .i64 s1, .int .i64 s2] 24)) = wY at *
        have hw := hwY
        clear hwY
        go_loopw [68] (fun i wr => ∃ j : Nat, j ≤ m1 ∧ i = .int .i64 j ∧ Below W0.heap.size W0 wr) (fun i _ => m1 - (intOf i).toNat)
        case atStart => exact ⟨0, by omega, rfl, hw⟩
        case round =>
          clear hw
          obtain ⟨j, hj, rfl, hw⟩ := hrel
          by_cases hlj : j < m1
          · have hlj2 : (j : Int) < (m1 : Int) := by omega
            obtain ⟨⟨x, y, z⟩, hX⟩ : ∃ X, vAt K1 j = X := ⟨_, rfl⟩
            obtain ⟨b, off, hA, hb, a1, a2, a3⟩ := (HVA.out.below hw).cells hlj hX
            subst hA
            clear hX
            go_wp2
            have vo : Own (wr.alloc (.cells #[.int .i64 x, .int .i64 y, .int .i64 z] 24)) wr.heap.size #[.int .i64 x, .int .i64 y, .int .i64 z] := Own.new rfl
            have hw7 := hw.alloc hw.size (.cells #[.int .i64 x, .int .i64 y, .int .i64 z] 24)
            have hvb : W0.heap.size ≤ wr.heap.size := hw.size
            clear a1 a2 a3 hb hw
            generalize (wr.alloc (.cells #[.int .i64 x, .int .i64 y, .int .i64 z] 24)) = w7 at *
            have hw := hw7
            clear hw7
            generalize wr.heap.size = vb at *
            have hz := hw.size
            have voc := vo.cell
            have vof := vo.thaw
            have voz := vo.lt
            obtain ⟨ux, hux⟩ : ∃ u, x % 17 = u := ⟨_, rfl⟩
            obtain ⟨uy, huy⟩ : ∃ u, y % 17 = u := ⟨_, rfl⟩
            obtain ⟨uz, huz⟩ : ∃ u, z % 17 = u := ⟨_, rfl⟩
            have hMx := fun W => ref1_Mod x 17 (by omega) (by omega) W
            have hMy := fun W => ref1_Mod y 17 (by omega) (by omega) W
            have hMz := fun W => ref1_Mod z 17 (by omega) (by omega) W
            rw [hux] at hMx
            rw [huy] at hMy
            rw [huz] at hMz
            have bx : 0 ≤ ux ∧ ux < 17 := by omega
            have by_ : 0 ≤ uy ∧ uy < 17 := by omega
            have bz : 0 ≤ uz ∧ uz < 17 := by omega
            obtain ⟨nx, hnx⟩ : ∃ u, ux - 8 = u := ⟨_, rfl⟩
            obtain ⟨ny, hny⟩ : ∃ u, uy - 8 = u := ⟨_, rfl⟩
            obtain ⟨nz, hnz⟩ : ∃ u, uz - 8 = u := ⟨_, rfl⟩
            clear hux huy huz
            refine region_late 13 [] (by kernel_rfl) (by kernel_rfl) (by rfl) ?_
            apply Exists.intro
            refine ⟨fun v hv hne => ?_, fun u hu => ?_⟩
            · simp only [List.take_succ_cons, List.take_zero]
              have dvo := fun x => (vo.later (v := v) (T := []) (by first | (simp; done) | (simp; omega)) x).cell
              repeat (go_big_quiet_step ((first | (go_at_call 8; with_reducible exact lateS (hMx _)) | (go_at_call 8; with_reducible exact lateS (hMy _)) | (go_at_call 8; with_reducible exact lateS (hMz _)) | (go_at_call 7; with_reducible exact lateB (law08_vec _ _ _ _)))))
              refine wpQuiet_nil ?_
              exact rfl
            · simp only [List.drop_succ_cons, List.drop_zero]
              skip
              refine late_mem (fun K hK => ?_)
              go_simp
              refine hK _ _ ((Keeps.of_below hu).alloc _) (fun u2 hu2 => ?_)
              clear hK K
              have hk2 : Keeps [] w7 u2 := ((Keeps.of_below (T := []) hu).alloc _).later hu2
              have N : Own u2 u.heap.size #[.int .i64 0, .int .i64 0, .int .i64 0] := Own.below (Own.new rfl) hu2
              have Nc := N.cell
              have Nf := N.thaw
              have Ng : w7.heap.size ≤ u.heap.size := hu.size
              replace hw := Below.hop ((Below.hop hw hu).alloc (by have := hw.size; have := hu.size; omega) _) hu2
              have hwz := hw.size
              have Ny : W0.heap.size ≤ u.heap.size := by omega
              refine late_mem (fun K hK => ?_)
              go_simp
              refine hK _ _ (((hk2.new Ng _).new Ng _).new Ng _) (fun u3 hu3 => ?_)
              clear hK K
              have hk3 : Keeps [] w7 u3 := (((hk2.new Ng _).new Ng _).new Ng _).later hu3
              replace N : Own u3 u.heap.size #[.int .i64 nx, .int .i64 ny, .int .i64 nz] := (((N.set 0 _).set 1 _).set 2 _).below hu3
              replace hw := Below.hop (((hw.setCell Ny _).setCell Ny _).setCell Ny _) hu3
              clear Nc Nf hk2
              replace vo : Own u3 (vb) #[.int .i64 x, .int .i64 y, .int .i64 z] := vo.keeps hk3 (by simp)
              refine late_nil ?_
              (try simp only [Act.put, List.setIfInBounds_toArray, List.set_cons_zero, List.set_cons_succ])
              clear hk3 hu hu2 hu3 hwz
              generalize u.heap.size = Nb at *
              replace hz := hw.size
              clear u
              replace voc := vo.cell
              replace vof := vo.thaw
              replace voz := vo.lt
              replace Nc := N.cell
              replace Nf := N.thaw
              replace Nz := N.lt
              go_wp2
              obtain ⟨e1, he1⟩ : ∃ q, hHas L ⟨x, y, z⟩ = q := ⟨_, rfl⟩
              obtain ⟨e2, he2⟩ : ∃ q, hHas L ⟨nx, ny, nz⟩ = q := ⟨_, rfl⟩
              have HE1 := Lib.hid (congrArg Value.bool he1)
              have HE2 := Lib.hid (congrArg Value.bool he2)
              have HVR := Lib.hid (HVX.out.below hw)
              clear he1 he2 hnx hny hnz bx by_ bz hMx hMy hMz
              refine region_late 16 [] (by kernel_rfl) (by kernel_rfl) (by rfl) ?_
              apply Exists.intro
              refine ⟨fun v hv hne => ?_, fun u hu => ?_⟩
              · simp only [List.take_succ_cons, List.take_zero]
                have dvo := fun x => (vo.later (v := v) (T := []) (by first | (simp; done) | (simp; omega)) x).cell
                have dN := fun x => (N.later (v := v) (T := []) (by first | (simp; done) | (simp; omega)) x).cell
                repeat (go_big_quiet_step ((first | (go_at_call 19; with_reducible exact lateB (callv (hull_Has c x y z (HVR.out.later _) hnc hcm) HE1.out)) | (go_at_call 19; with_reducible exact lateB (callv (hull_Has c nx ny nz (HVR.out.later _) hnc hcm) HE2.out)) | (go_at_call 20; with_reducible exact lateB (callv (ref8_Has c x y z (HVR.out.later _)) HE1.out)) | (go_at_call 20; with_reducible exact lateB (callv (ref8_Has c nx ny nz (HVR.out.later _)) HE2.out)))))
                refine wpQuiet_nil ?_
                exact rfl
              · simp only [List.drop_succ_cons, List.drop_zero]
                replace vo := vo.below hu
                replace N := N.below hu
                replace hw := Below.hop hw hu
                replace hz := hw.size
                clear hu
                refine late_nil ?_
                (try simp only [Act.put, List.setIfInBounds_toArray, List.set_cons_zero, List.set_cons_succ])
                have voc := vo.cell
                have vof := vo.thaw
                have voz := vo.lt
                have Nc := N.cell
                have Nf := N.thaw
                have Nz := N.lt
                go_wp2
                go_roundw
                case rel => exact ⟨j + 1, by omega, by go_num, hw⟩
                case measure => simp [intOf]; omega
          · obtain rfl : j = m1 := by omega
            go_wp2
            go_roundw
            case rel => exact ⟨k + 1, by omega, by go_num, hw⟩
            case measure => simp [intOf]; omega
      · obtain rfl : k = 3 := by omega
        go_wp2
        go_ret
        exact ⟨rfl, Below.hop HW0.out hw⟩
end Go.Proofs.YtccnlnkgoaelpaaGreat
namespace Go.Proofs.YtccnlnkgoaelpaaGreat.hullHasDone
open Go.ChangeShapes Go.WideShapes Go.ChangeAt Go.RowKit

set_option maxRecDepth 100000 in
theorem lifted (os : Os) (started : os.Started) (H : Type) (enc : TypeId × Value → H) :
    ReturnsInHanded {} Tryz.checked os 4 .any (Rows.hullHasSpec.pre6 enc Tryz.prog Tryz.f4 Rows.hullHasRow.domain false) (Rows.hullHasSpec.post enc Tryz.prog Tryz.f4 false true false false) := by
  refine returnsInHanded_of_change (C := Tryz.checked) own started (by kernel_rfl) Tryz.func4
    (ChangeSpec.witness6 (enc := enc) (C := Tryz.checked) false ⟨#[], #[.slice none 0 0, .slice none 0 0, .slice none 0 0], []⟩ 8 (by kernel_rfl) (by kernel_rfl) (by kernel_rfl) (by kernel_rfl)) ?_
  intro W base args ds gs before hval0 hW hcnd _
  have hval : ∀ (j : Nat) t v, Tryz.f4.params[j]? = some t → args[j]? = some v → Value.okWide Tryz.prog W .any base t v := hval0
  have hW' := hW
  obtain ⟨p, q, hA0, hV, rfl, hfz, hnd⟩ := hW
  have hA : DataW.TrodAll enc Tryz.prog W 0 (fun _ => true) true Tryz.f4.params.toList args.toList ds p := hA0
  rw [Tryz.params4] at hA hval
  obtain ⟨v0, vs0, d0, ds0, p0, q0, hargs, rfl, rfl, h0, r0⟩ := trodAll_cons hA
  obtain ⟨v1, vs1, d1, ds1, p1, q1, rfl, rfl, rfl, h1, r1⟩ := trodAll_cons r0
  obtain ⟨v2, vs2, d2, ds2, p2, q2, rfl, rfl, rfl, h2, r2⟩ := trodAll_cons r1
  obtain ⟨rfl, rfl, rfl⟩ := trodAll_nil r2
  obtain rfl : args = #[v0, v1, v2] := by cases args; simp_all
  obtain ⟨rfl, rfl⟩ := trodVars_none hV
  obtain ⟨a0, len0, cap0, rfl⟩ := okWide_slice Tryz.underlying22 (hval 0 22 v0 rfl rfl)
  obtain ⟨a1, len1, cap1, rfl⟩ := okWide_slice Tryz.underlying25 (hval 1 25 v1 rfl rfl)
  obtain ⟨a2, len2, cap2, rfl⟩ := okWide_slice Tryz.underlying25 (hval 2 25 v2 rfl rfl)
  have k0 := h0
  have lt0 : ∀ x ∈ p0, x.block < W.heap.size := by obtain ⟨m, hm⟩ := k0; exact DataW.trod_lt m _ _ _ hm
  have k1 := h1
  have lt1 : ∀ x ∈ p1, x.block < W.heap.size := by obtain ⟨m, hm⟩ := k1; exact DataW.trod_lt m _ _ _ hm
  have k2 := h2
  have lt2 : ∀ x ∈ p2, x.block < W.heap.size := by obtain ⟨m, hm⟩ := k2; exact DataW.trod_lt m _ _ _ hm
  obtain ⟨z0, w0⟩ : ∃ zs, SliceI W a0 len0 zs ∧ len0 ≤ cap0 ∧ cap0 ≤ 9223372036854775807 := by
    obtain ⟨fuel, hf⟩ := h0
    rcases open_ints Tryz.underlying22 Tryz.underlying3 (by kernel_rfl) hf with ⟨hcs, _⟩ | ⟨x, l, c, zs, hcs, _, hl, hm, hz, _, hcell, hwz⟩
    · simp [Value.cells] at hcs
      obtain ⟨rfl, rfl, rfl⟩ := hcs
      exact ⟨_, sliceI_of (zs := []) (.inl ⟨rfl, rfl, rfl, rfl⟩)⟩
    · simp [Value.cells] at hcs
      obtain ⟨rfl, rfl, rfl⟩ := hcs
      exact ⟨_, sliceI_of (zs := zs) (.inr ⟨_, rfl, hl, hm, by simpa using hz, hcell, hwz⟩)⟩
  obtain ⟨z1, w1⟩ : ∃ L, VecsAt W a1 len1 L ∧ len1 ≤ cap1 ∧ cap1 ≤ 9223372036854775807 ∧ (a1 = none → cap1 = 0) := by
    obtain ⟨fuel, hf⟩ := h1
    obtain ⟨A, len, cap, L, hcs, hv⟩ := open_vecs hf
    simp [Value.cells] at hcs
    obtain ⟨rfl, rfl, rfl⟩ := hcs
    exact ⟨L, hv⟩
  obtain ⟨z2, w2⟩ : ∃ L, VecsAt W a2 len2 L ∧ len2 ≤ cap2 ∧ cap2 ≤ 9223372036854775807 ∧ (a2 = none → cap2 = 0) := by
    obtain ⟨fuel, hf⟩ := h2
    obtain ⟨A, len, cap, L, hcs, hv⟩ := open_vecs hf
    simp [Value.cells] at hcs
    obtain ⟨rfl, rfl, rfl⟩ := hcs
    exact ⟨L, hv⟩
  clear hA0 hval0
  refine (law08_Has_walk W w0.1 w1.1 w1.2.1 w1.2.2.1 w2.1 w2.2.1 w2.2.2.1).mono fun e W' ⟨he, bel⟩ => ?_
  subst he
  exact ⟨_, rfl, _, _, _, [], _, [], hW', trodAll_mk1 (shut_bool Tryz.underlying4 _), (trodAll_cons_mk (Below.trod laidOut (by kernel_rfl) (of_decide_eq_true (by kernel_rfl)) k0 bel lt0) (trodAll_cons_mk (Below.trod laidOut (by kernel_rfl) (of_decide_eq_true (by kernel_rfl)) k1 bel lt1) (trodAll_cons_mk (Below.trod laidOut (by kernel_rfl) (of_decide_eq_true (by kernel_rfl)) k2 bel lt2) trodAll_mk0))), rfl, bel.frame _, fun h => by cases h⟩

theorem over : Rows.hullHasRow.holds Tryz.pinned (OpenSpec.ofChange Rows.hullHasSpec) :=
  OpenClaim.holds_of_wide 4 Tryz.f4 rfl rfl rfl rfl rfl rfl rfl ⟨rfl, rfl, rfl, rfl, rfl⟩ rfl rfl rfl rfl rfl (by kernel_rfl) Tryz.func4 (by kernel_rfl)
    (of_decide_eq_true (by kernel_rfl)) (by unfold Func.isWrapper; first | (rw [if_pos (by decide +kernel)]; kernel_rfl) | (rw [if_neg (by decide +kernel)]; exact ⟨rfl, rfl⟩))
    (fun os started H enc _ => lifted os started H enc)

theorem proved : Rows.HullHasSaid := over
#print axioms proved
end Go.Proofs.YtccnlnkgoaelpaaGreat.hullHasDone
