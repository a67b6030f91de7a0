/- The statement HullFaces: for every input the call returns true, and the arguments read as before. No condition. -/
import Derived.Deep.Slices
import Derived.Test.YtccnlnkgoaelpaaGreatFrame
import Derived.Test.YtccnlnkgoaelpaaGreatHullX1
import Derived.Test.YtccnlnkgoaelpaaGreatHullA
import Derived.Test.YtccnlnkgoaelpaaGreatPerm
import Derived.Test.YtccnlnkgoaelpaaGreatRows
import Derived.WalkKit
import Derived.ProofKit
import Derived.OpenShut
import Derived.ShutString
import Derived.ChangeOld
import Derived.Below
namespace Go.Proofs.YtccnlnkgoaelpaaGreat
open Go.ChangeShapes Go.WideShapes Go.ChangeAt Go.RowKit Go.Deep

theorem open_vecs {H : Type} {enc : TypeId × Value → H} {w : World} {base : Nat} {spare : Nat → Bool} {held : Bool} {fuel : Nat} {cs : List Value} {x : DataW H × List MemPlace}
    (h : DataW.trod enc Tryz.prog w base spare held fuel 25 cs = some x) :
    ∃ A len cap L, cs = [.slice A len cap] ∧ VecsAt w A len L ∧ len ≤ cap ∧ cap ≤ 9223372036854775807 ∧ (A = none → cap = 0) := by
  rcases open_slice Tryz.underlying25 h with ⟨rfl, _⟩ | ⟨a, len, cap, m, n, D, Pl, rfl, hb, hl, hm, hmm, _, hx⟩
  · exact ⟨none, 0, 0, [], rfl, vecs_nil w, by omega, by omega, fun _ => rfl⟩
  · have hce : Tryz.prog.cellsOf 24 = 3 := by kernel_rfl
    rw [hce] at hx
    have hlm : len ≤ m := by rw [hmm]; split <;> omega
    unfold maxLen at hm
    have each : ∀ i, i < len → ∃ v : V3, w.cell? (a.add (i * 3)) = some (.int .i64 v.x) ∧ w.cell? ((a.add (i * 3)).add 1) = some (.int .i64 v.y) ∧ w.cell? ((a.add (i * 3)).add 2) = some (.int .i64 v.z) := fun i hi => by
      obtain ⟨cs', h1, h2⟩ := hx i (by omega)
      obtain ⟨_, hlen, hc⟩ := World.cells?_some h1
      obtain ⟨_, hf⟩ := flatVec _ _ _ _ _ _ _ _ _ h2
      obtain ⟨n0, e0, _⟩ := hf 0 (by omega)
      obtain ⟨n1, e1, _⟩ := hf 1 (by omega)
      obtain ⟨n2, e2, _⟩ := hf 2 (by omega)
      refine ⟨⟨n0, n1, n2⟩, ?_, (hc 1 (by omega)).trans e1, (hc 2 (by omega)).trans e2⟩
      have q := (hc 0 (by omega)).trans e0
      simpa [Addr.add] using q
    letI : Inhabited V3 := ⟨⟨0, 0, 0⟩⟩
    obtain ⟨V, hV⟩ := choose_lt (α := V3) each
    refine ⟨some a, len, cap, (List.range len).map V, rfl, ⟨by simp, by omega, fun hpos => ?_⟩, hl, hm, fun e => by cases e⟩
    obtain ⟨b, off, spot⟩ := a
    have h0 := (hV 0 hpos).1
    simp only [Nat.zero_mul] at h0
    have hs : spot = none := by simpa [Addr.add] using World.cell?_spot h0
    subst hs
    have hadd : ∀ i, (⟨b, off, none⟩ : Addr).add i = ⟨b, off + i, none⟩ := fun i => by unfold Addr.add; split <;> simp_all
    refine ⟨b, off, rfl, World.block_lt_of_cell? w _ h0, fun i hi => ?_⟩
    have hva : vAt ((List.range len).map V) i = V i := by
      unfold vAt
      simp [List.getD_eq_getElem?_getD, hi]
    obtain ⟨h1, h2, h3⟩ := hV i hi
    have hadd2 : ∀ o i, (⟨b, o, none⟩ : Addr).add i = ⟨b, o + i, none⟩ := fun o i => by unfold Addr.add; split <;> simp_all
    rw [hva, ← hadd]
    refine ⟨h1, ?_, ?_⟩
    · rw [hadd, hadd2] at h2; exact h2
    · rw [hadd, hadd2] at h3; exact h3
end Go.Proofs.YtccnlnkgoaelpaaGreat
namespace Go.Proofs.YtccnlnkgoaelpaaGreat
open Go.RowKit Go.Shelf

def SlcF (w : World) (v : Value) : Prop := ∃ A n c L, v = .slice A n c ∧ VecsAt w A n L ∧ n ≤ c ∧ c ≤ 9223372036854775807
def mod5 (v : V3) : V3 := ⟨v.x % 5, v.y % 5, v.z % 5⟩
def ownL (v : Value) : List Nat := v.ownBlock.toList
theorem ownL_ne {v : Value} {b : Nat} (h : ∀ r, v.ownBlock = some r → b ≠ r) : b ∉ ownL v := by
  unfold ownL
  cases e : v.ownBlock with
  | none => simp
  | some r => simpa using h r e
theorem keeps_grown {T : List Nat} {w u v : World} {row : Option Nat} (h : Keeps T w u) (hg : u.grownBy v row) (hr : ∀ r, row = some r → r ∈ T ∨ w.heap.size ≤ r) : Keeps T w v :=
  ⟨Nat.le_trans h.1 hg.size, fun b hb hT => (hg.block b (Nat.lt_of_lt_of_le hb h.1) (fun e => by
    rcases hr b e.symm with h1 | h1
    · exact hT h1
    · omega)).trans (h.2 b hb hT)⟩
theorem small_step {K : List V3} {k : Nat} {a b c : Int} (hk : k < K.length) (h : vAt K k = ⟨a, b, c⟩) : ((K.take k).map mod5).flatMap encV ++ [.int .i64 (a % 5), .int .i64 (b % 5), .int .i64 (c % 5)] = ((K.take (k + 1)).map mod5).flatMap encV := by
  have e : K[k] = ⟨a, b, c⟩ := by rw [← h]; unfold vAt; simp [List.getD_eq_getElem?_getD, hk]
  rw [List.take_succ_eq_append_getElem hk, e, List.map_append, List.flatMap_append]
  simp [mod5, encV]
set_option maxRecDepth 100000 in
set_option maxHeartbeats 4000000 in
theorem law08_Faces_walk {A0 A2 : Option Addr} {n0 c0 n2 c2 : Nat} {l : List Int} {L2 : List V3} (w : World) (hl : SliceI w A0 n0 l) (x y z : Int) (h2 : VecsAt w A2 n2 L2) (hc2 : n2 ≤ c2) (hm2 : c2 ≤ 9223372036854775807) :
    Calls Tryz.prog 3 #[.slice A0 n0 c0, vV x y z, .slice A2 n2 c2] w fun e w' => e = .returned (.bool true) ∧ Below w.heap.size w w' := by
  have HLI := Lib.hid hl
  have H2 := Lib.hid h2
  clear hl h2
  obtain ⟨i0, hi, hz0, hz1, hz2⟩ := info_parts infoVe
  go_enter Tryz.func3, Tryz.ntmps3
  have hw0 := (Below.refl w.heap.size w).alloc (Nat.le_refl _) (.cells #[.int .i64 x, .int .i64 y, .int .i64 z] 24)
  have hvo0 : Own (w.alloc (.cells #[.int .i64 x, .int .i64 y, .int .i64 z] 24)) w.heap.size #[.int .i64 x, .int .i64 y, .int .i64 z] := Own.new rfl
  go_wp2_with fail
  refine Calls.mono (law08_sanity _) ?_
  rintro e w1 ⟨rfl, hbx⟩
  have hw := Below.hop hw0 hbx
  have vo := hvo0.below hbx
  clear hbx hw0 hvo0
  go_wp2_with fail
  refine Calls.mono (ref8_Points A0 n0 c0 l w1 (HLI.out.below hw)) ?_
  rintro e w2 ⟨⟨g, pc, P, rfl, hp4, hp8, hpc, hpm, hvp, hgb, hp11, hchk⟩, hbx⟩
  replace hw := Below.hop hw hbx
  replace vo := vo.below hbx
  have HVP := Lib.hid hvp
  clear hbx hvp hp11 hchk hgb
  obtain ⟨m2, hm2e⟩ : ∃ m, min n2 8 = m := ⟨_, rfl⟩
  have q2 : min (n2 : Int) 8 = (m2 : Int) := by omega
  have p2 : (if (8 : Int) < (n2 : Int) then 8 else (n2 : Int)) = (m2 : Int) := by split <;> omega
  have i2 : (m2 : Int) ≤ (c2 : Int) := by omega
  have j2 : m2 ≤ c2 := by omega
  have hm28 : m2 ≤ 8 := by omega
  have hm28i : (m2 : Int) ≤ 8 := by omega
  have hv2 := (H2.out.take (m := m2) (by omega)).below hw
  have HV2 := Lib.hid hv2
  obtain ⟨K2, hK2⟩ : ∃ K, L2.take m2 = K := ⟨_, rfl⟩
  rw [hK2] at HV2
  have hK2l : K2.length = m2 := HV2.out.len
  have HKL := Lib.hid hK2l
  have HW := Lib.hid hw
  have HVO := Lib.hid vo
  have hws := hw.size
  have hvz := vo.lt
  clear hv2 hm2e HLI H2 hK2 hK2l hw vo
  have hw : Below w2.heap.size w2 w2 := Below.refl _ _
  go_wp2
  clear p2 q2
  go_loopw [9, 32] (fun v i wr => ∃ k : Nat, k ≤ m2 ∧ i = .int .i64 k ∧ Below w2.heap.size w2 wr ∧ wr.ownsRow w2.heap.size 24 3 v k (((K2.take k).map mod5).flatMap encV)) (fun _ i _ => m2 - (intOf i).toNat)
  case atStart => exact ⟨0, by omega, rfl, hw, World.ownsRow_nil _ _ _ _⟩
  case round =>
    clear hw
    obtain ⟨k, hk, rfl, hw, hrow⟩ := hrel
    have HROW := Lib.hid hrow
    clear hrow
    by_cases hlt : k < m2
    · have hlt2 : (k : Int) < (m2 : Int) := by omega
      obtain ⟨⟨a0, a1, a2⟩, hX⟩ : ∃ X, vAt K2 k = X := ⟨_, rfl⟩
      obtain ⟨b, off, hA, hb, d1, d2, d3⟩ := (HV2.out.below hw).cells hlt hX
      subst hA
      have HX := Lib.hid hX
      clear hX
      go_wp2
      have so : Own (wr.alloc (.cells #[.int .i64 a0, .int .i64 a1, .int .i64 a2] 24)) wr.heap.size #[.int .i64 a0, .int .i64 a1, .int .i64 a2] := Own.new rfl
      have hbA := (Below.refl wr.heap.size wr).alloc (Nat.le_refl _) (.cells #[.int .i64 a0, .int .i64 a1, .int .i64 a2] 24)
      have hw7 := Below.hop hw hbA
      have HROW7 := Lib.hid (rowk_below HROW.out hbA)
      have hwz0 := hw.size
      have hgs : ∀ r, u9.ownBlock = some r → r < wr.heap.size := fun r e => (HROW.out.lt r e).2
      have HGS := Lib.hid hgs
      clear d1 d2 d3 hb hw hbA HROW hgs
      generalize (wr.alloc (.cells #[.int .i64 a0, .int .i64 a1, .int .i64 a2] 24)) = w7 at *
      generalize wr.heap.size = sb at *
      have hw := hw7
      clear hw7
      have hwz := hw.size
      have soz := so.lt
      obtain ⟨b0, hb0⟩ : ∃ q, a0 % 5 = q := ⟨_, rfl⟩
      obtain ⟨b1, hb1⟩ : ∃ q, a1 % 5 = q := ⟨_, rfl⟩
      obtain ⟨b2, hb2⟩ : ∃ q, a2 % 5 = q := ⟨_, rfl⟩
      have hM0 := fun W => ref1_Mod a0 5 (by omega) (by omega) W
      have hM1 := fun W => ref1_Mod a1 5 (by omega) (by omega) W
      have hM2 := fun W => ref1_Mod a2 5 (by omega) (by omega) W
      rw [hb0] at hM0
      rw [hb1] at hM1
      rw [hb2] at hM2
      have hst := small_step (by rw [HKL.out]; exact hlt) HX.out
      rw [hb0, hb1, hb2] at hst
      have HST := Lib.hid hst
      clear hb0 hb1 hb2 hst
      refine region_late 11 (ownL u9) (by kernel_rfl) (by kernel_rfl) (by rfl) ?_
      apply Exists.intro
      refine ⟨fun v hv hne => ?_, fun u hu => ?_⟩
      · simp only [List.take_succ_cons, List.take_zero]
        have hnb : sb ∉ ownL u9 := ownL_ne (fun r e => by have := HGS.out r e; omega)
        have dso := fun x => (so.later (v := v) (T := ownL u9) hnb x).cell
        repeat (go_big_quiet_step ((first | (go_at_call 8; with_reducible exact lateS (hM0 _)) | (go_at_call 8; with_reducible exact lateS (hM1 _)) | (go_at_call 8; with_reducible exact lateS (hM2 _)) | (go_at_call 7; with_reducible exact lateB (law08_vec _ _ _ _)))))
        refine wpQuiet_nil ?_
        exact rfl
      · simp only [List.drop_succ_cons, List.drop_zero]
        refine late_mem (fun K hK => ?_)
        go_simp
        refine hK _ _ ((Keeps.of_below hu).alloc _) (fun ua hu2 => ?_)
        clear hK K
        have hba : Below w7.heap.size w7 ua := Below.hop (hu.alloc hu.size _) hu2
        have os : Own ua u.heap.size #[.int .i64 b0, .int .i64 b1, .int .i64 b2] := Own.below (Own.new rfl) hu2
        have hrow8 := rowk_below HROW7.out hba
        have hwa := Below.hop hw hba
        have hwaz := hwa.size
        obtain ⟨Ts, hTs⟩ := os
        refine late_mem (fun K hK => ?_)
        refine late_append _ _ 25 rfl w2.heap.size 24 i0 (.agg #[.int .i64 0, .int .i64 0, .int .i64 0]) 3 24 Tryz.underlying25 hi hz0 hz1 hz2 rfl (by omega) _ k (((K2.take k).map mod5).flatMap encV) (by rfl) hrow8 ⟨u.heap.size, 0, none⟩ 1 1 [.int .i64 b0, .int .i64 b1, .int .i64 b2] (by rfl) rfl (World.news_of_block hTs) ?_ (by omega) (by unfold maxLen; omega) (by omega) (by omega) ua.heap.size rfl ?_
        · intro q hq; simp at hq; rcases hq with rfl | rfl | rfl <;> rfl
        intro g2 cap2 w9 ho9 hg9 hat9 hlt9
        rw [HST.out] at ho9
        have hk9 : Keeps (ownL u9) w7 w9 := keeps_grown (Keeps.of_below hba) hg9 (fun r e => .inl (by unfold ownL; rw [e]; simp))
        have hw9 : Below w2.heap.size w2 w9 := hwa.grown hg9 (by omega) (fun r e => ownBlock_ge hrow8 e)
        refine hK _ _ hk9 (fun u3 hu3 => ?_)
        clear hK K
        have ho10 := rowk_below ho9 hu3
        have hw10 := Below.hop hw9 hu3
        have hk10 := hk9.later hu3
        clear ho9 hw9 hk9 hu3 hg9 hat9 hlt9 hrow8 hba hu hu2 hTs
        refine late_mem (fun K hK => ?_)
        go_simp
        refine hK _ _ hk10 (fun u4 hu4 => ?_)
        clear hK K
        have ho11 := rowk_below ho10 hu4
        have hw11 := Below.hop hw10 hu4
        have HO11 := Lib.hid ho11
        clear ho10 ho11 hw10 hk10 hu4 hw hwa hwaz HROW7 so soz hM0 hM1 hM2
        refine late_nil ?_
        (try simp only [Act.put, List.setIfInBounds_toArray, List.set_cons_zero, List.set_cons_succ])
        go_wp2
        go_roundw
        case rel => exact ⟨k + 1, by omega, by go_num, hw11, HO11.out⟩
        case measure => simp [intOf]; omega
    · obtain rfl : k = m2 := by omega
      obtain ⟨A9, c9, rfl, hc91, hc92, hv9, _⟩ := vecs_of_row' (by rw [List.length_map, List.length_take, HKL.out]; omega) HROW.out
      have HV9 := Lib.hid hv9
      have HWR := Lib.hid (Below.hop HW.out hw)
      have vo := HVO.out.below hw
      have HVPR := Lib.hid (HVP.out.below hw)
      have HV2R := Lib.hid (HV2.out.below hw)
      obtain ⟨n8, hn8⟩ : ∃ n, P.length = n := ⟨_, rfl⟩
      have HN8 := Lib.hid hn8
      rw [hn8] at hp4 hp8 hpc HVPR ⊢
      have hpci : (3 : Int) ≤ (pc : Int) := by omega
      have hwz := hw.size
      have voz := vo.lt
      clear hv9 HROW HVP HVO HV2 HW hw hn8
      go_wp2
      refine region_genp [0, 1, 2, 3, 4, 5, 7, 8, 9, 10, 13, 6, 11, 12] [0, 1, 2, 3, 4, 5, 11, 6, 7, 8, 9, 12, 13, 10] ?l' ?hl (by kernel_rfl) (T := []) [.make 1 [] (ownB [] #[] (fun p => .slice (some ⟨p, 0, none⟩) 0 0)), .make 3 [1] (rowB (wr.heap.size) n8 24 3 (P.flatMap encV)), .make 5 [] (ownB [] #[.int .i64 x, .int .i64 y, .int .i64 z] (fun p => .slice (some ⟨p, 0, none⟩) 1 1))] 11 0 30 (fun _ _ => True) (fun _ _ _ _ _ => trivial) trivial (by kernel_rfl) ?hB ?hp ?hh
      case hl =>
        simp only [permOps, List.map_cons, List.map_nil, List.getElem?_cons_zero, List.getElem?_cons_succ, pickO, rnO, rnE, tab, Option.map_none, List.map_toArray, List.getD_cons_zero, List.getD_cons_succ]
        rfl
      case hB => kernel_rfl
      case hp => rfl
      case hh =>
        unfold genWalk
        apply Exists.intro
        apply And.intro
        · apply Piece.mk
          · intro f v hv hr hne
            simp only [List.take_succ_cons, List.take_zero, List.drop_succ_cons, List.drop_zero, Nat.reduceSub, Nat.reduceAdd]
            repeat (go_big_quiet_step (fail))
            refine wpQuiet_nil ?_
            exact rfl
          · intro f; kernel_rfl
          · intro f f' hf; simp
        simp only [List.take_succ_cons, List.take_zero, List.drop_succ_cons, List.drop_zero, Nat.reduceSub, Nat.reduceAdd, oneOp]
        refine ⟨fun f => ⟨rfl, fun u hu _ => ?_⟩, ?_⟩
        · refine make_own (e := 24) (by go_simp) (by simp)
        unfold genWalk
        apply Exists.intro
        apply And.intro
        · apply Piece.mk
          · intro f v hv hr hne
            simp only [List.take_succ_cons, List.take_zero, List.drop_succ_cons, List.drop_zero, Nat.reduceSub, Nat.reduceAdd]
            (try simp only [Act.put, List.setIfInBounds_toArray, List.set_cons_zero, List.set_cons_succ])
            repeat (go_big_quiet_step (fail))
            refine wpQuiet_nil ?_
            exact rfl
          · intro f; kernel_rfl
          · intro f f' hf; simp
        simp only [List.take_succ_cons, List.take_zero, List.drop_succ_cons, List.drop_zero, Nat.reduceSub, Nat.reduceAdd, oneOp]
        refine ⟨fun f => ⟨rfl, fun u hu _ => ?_⟩, ?_⟩
        · exact make_row _ _ 25 24 i0 (.agg #[.int .i64 0, .int .i64 0, .int .i64 0]) 3 24 wr.heap.size rfl Tryz.underlying25 hi hz0 hz1 hz2 rfl (by decide) (f 1).1 n8 pc ⟨g, 0, none⟩ rfl rfl (by omega) (by omega) (by omega) (P.flatMap encV) (by rw [flatV_len, HN8.out]) ((HVPR.out.keeps hu).newsA) hu.1
        unfold genWalk
        apply Exists.intro
        apply And.intro
        · apply Piece.mk
          · intro f v hv hr hne
            simp only [List.take_succ_cons, List.take_zero, List.drop_succ_cons, List.drop_zero, Nat.reduceSub, Nat.reduceAdd]
            (try simp only [Act.put, List.setIfInBounds_toArray, List.set_cons_zero, List.set_cons_succ])
            have dvo := fun x => (vo.later (v := v) (T := []) (by simp) x).cell
            repeat (go_big_quiet_step (fail))
            refine wpQuiet_nil ?_
            exact rfl
          · intro f; kernel_rfl
          · intro f f' hf; simp
        simp only [List.take_succ_cons, List.take_zero, List.drop_succ_cons, List.drop_zero, Nat.reduceSub, Nat.reduceAdd, oneOp]
        refine ⟨fun f => ⟨rfl, fun u hu _ => ?_⟩, ?_⟩
        · refine make_own (e := 24) (by go_simp) (by simp)
        unfold genWalk
        apply Exists.intro
        apply And.intro
        · apply Piece.mk
          · intro f v hv hr hne
            simp only [List.take_succ_cons, List.take_zero, List.drop_succ_cons, List.drop_zero, Nat.reduceSub, Nat.reduceAdd]
            (try simp only [Act.put, List.setIfInBounds_toArray, List.set_cons_zero, List.set_cons_succ])
            repeat (go_big_quiet_step (fail))
            refine wpQuiet_nil ?_
            exact rfl
          · intro f; kernel_rfl
          · intro f f' hf; simp
        intro f u' hup hp hmade hdist
        obtain ⟨h3, h3lo, h3hi⟩ := hmade 3 (by omega) rfl
        obtain ⟨⟨_, h5⟩, h5lo, h5hi⟩ := hmade 5 (by omega) rfl
        have hrow : u'.ownsRow wr.heap.size 24 3 (.slice (some ⟨(f 3).1, 0, none⟩) n8 (f 3).2) n8 (P.flatMap encV) := h3
        simp only [List.take_succ_cons, List.take_zero, List.drop_succ_cons, List.drop_zero, Nat.reduceSub, Nat.reduceAdd]
        (try simp only [Act.put, List.setIfInBounds_toArray, List.set_cons_zero, List.set_cons_succ])
        have hw : Below wr.heap.size wr u' := Upd.below (Below.refl _ _) hup (by simp)
        have hku : Keeps [] wr u' := Upd.keeps (Keeps.refl _ _) hup
        have hwz := hw.size
        obtain ⟨T5, h5t⟩ := h5
        clear hmade hdist hp hup h3
        refine effc_mem (by rfl) (fun K hK => ?_)
        refine late_append _ _ 25 rfl wr.heap.size 24 i0 (.agg #[.int .i64 0, .int .i64 0, .int .i64 0]) 3 24 Tryz.underlying25 hi hz0 hz1 hz2 rfl (by omega) _ n8 (P.flatMap encV) (by rfl) hrow ⟨(f 5).1, 0, none⟩ 1 1 [.int .i64 x, .int .i64 y, .int .i64 z] (by rfl) rfl (World.news_of_block h5t) ?_ (by omega) (by unfold maxLen; omega) (by omega) (by omega) u'.heap.size rfl ?_
        · intro u hu3; simp at hu3; rcases hu3 with rfl | rfl | rfl <;> rfl
        intro g2 cap2 w6 ho6 hg6 hat hlt6
        have ho6' : w6.ownsRow wr.heap.size 24 3 (.slice (some ⟨g2, 0, none⟩) (n8 + 1) cap2) (n8 + 1) ((P ++ [(⟨x, y, z⟩ : V3)]).flatMap encV) := by rw [flat_snoc]; exact ho6
        have hw6 : Below wr.heap.size wr w6 := hw.grown hg6 (by omega) (fun r e => by have e' : (f 3).1 = r := (by simpa [Value.ownBlock] using e); omega)
        refine hK _ _ (Keeps.of_below hw6) (fun u3 hu3 => ?_)
        clear hK K
        have ho7 := rowk_below ho6' hu3
        have hw7 := Below.hop hw6 hu3
        clear ho6 ho6' hg6 hat hlt6 hw6 hu3 hrow h5t
        refine effc_mem (by rfl) (fun K hK => ?_)
        go_simp
        refine hK _ _ ((Keeps.of_below hw7).alloc _) (fun u4 hu4 => ?_)
        clear hK K
        have sO : Own u4 u3.heap.size #[.slice (some ⟨g, 0, none⟩) n8 pc, .slice (some ⟨g2, 0, none⟩) (n8 + 1) cap2, .slice A2 k c2, .slice A9 k c9, .slice (some ⟨g, 0, none⟩) 3 pc] := Own.below (Own.new rfl) hu4
        have ho8 := rowk_below (rowk_below ho7 ((Below.refl _ _).alloc (Nat.le_refl _) _)) hu4
        have hw8 := Below.hop (hw7.alloc hw7.size _) hu4
        clear ho7 hw7 hu4
        refine effc_mem (by rfl) (fun K hK => ?_)
        go_simp
        refine hK _ _ (Keeps.of_below hw8) (fun u5 hu5 => ?_)
        clear hK K
        have sO5 := sO.below hu5
        have ho9 := rowk_below ho8 hu5
        have hb0 := Below.hop hw8 hu5
        clear ho8 hw8 hu5 sO
        refine effc_nil ?_
        (try simp only [Act.put, List.setIfInBounds_toArray, List.set_cons_zero, List.set_cons_succ])
        obtain ⟨A', c', e', hc1', hc2', hv1, _⟩ := vecs_of_row' (by rw [List.length_append, HN8.out]; rfl) ho9
        cases e'
        generalize u3.heap.size = sb at *
        obtain ⟨cS, hcS⟩ : ∃ cS : Array Value, #[.slice (some ⟨g, 0, none⟩) n8 pc, .slice (some ⟨g2, 0, none⟩) (n8 + 1) cap2, .slice A2 k c2, .slice A9 k c9, .slice (some ⟨g, 0, none⟩) 3 pc] = cS := ⟨_, rfl⟩
        rw [hcS] at sO5
        have hS : ∀ j, j < 5 → ∃ v, cS[j]? = some v ∧ SlcF u5 v := fun j hj => by
          rw [← hcS]
          rcases (show j = 0 ∨ j = 1 ∨ j = 2 ∨ j = 3 ∨ j = 4 by omega) with rfl | rfl | rfl | rfl | rfl
          · exact ⟨_, rfl, _, _, _, _, rfl, HVPR.out.below hb0, hpc, hpm⟩
          · exact ⟨_, rfl, _, _, _, _, rfl, hv1, hc1', hc2'⟩
          · exact ⟨_, rfl, _, _, _, _, rfl, HV2R.out.below hb0, j2, hm2⟩
          · exact ⟨_, rfl, _, _, _, _, rfl, HV9.out.below hb0, hc91, hc92⟩
          · exact ⟨_, rfl, _, _, _, _, rfl, (HVPR.out.below hb0).take (m := 3) (by omega), by omega, hpm⟩
        have HS := Lib.hid hS
        have HSO := Lib.hid sO5
        have HW0 := Lib.hid (Below.hop HWR.out hb0)
        clear hS sO5 hb0 hcS ho9 hv1 HVPR HV2R HV9 HWR vo voz hku hw hwz
        have hw : Below u5.heap.size u5 u5 := Below.refl _ _
        go_wp2
        go_loopw [63] (fun i wr => ∃ j : Nat, j ≤ 5 ∧ i = .int .i64 j ∧ Below u5.heap.size u5 wr) (fun i _ => 5 - (intOf i).toNat)
        case atStart => exact ⟨0, by omega, rfl, hw⟩
        case round =>
          clear hw
          obtain ⟨j, hj, rfl, hw⟩ := hrel
          by_cases hlj : j < 5
          · have hlj2 : (j : Int) < 5 := by omega
            obtain ⟨v, hcv, A, n, c, L, rfl, hvx, hnc, hcm⟩ := HS.out j hlj
            have a1 : wr.cell? ⟨sb, j, none⟩ = some (.slice A n c) := ((HSO.out.below hw).cell j).trans hcv
            have HVX := Lib.hid hvx
            clear hcv hvx
            obtain ⟨r, hr⟩ : ∃ r, hCheck L = r := ⟨_, rfl⟩
            obtain ⟨F, hF⟩ : ∃ F, hFaces L = F := ⟨_, rfl⟩
            obtain ⟨E, hE⟩ : ∃ E, hExtreme L = E := ⟨_, rfl⟩
            have HRV := Lib.hid (congrArg (Value.int IntKind.i64) hr)
            have h1 := fun W (h : VecsAt W A n L) => hull_Faces (w := W) c h hnc hcm
            have h2 := fun W (h : VecsAt W A n L) => ref8_Faces (w := W) c h
            have h3 := fun W (h : VecsAt W A n L) => hull_Extreme (w := W) c h hnc hcm
            have h4 := fun W (h : VecsAt W A n L) => ref8_Extreme (w := W) c h
            rw [hr, hF] at h1 h2
            rw [hr, hE] at h3 h4
            have G1 := Lib.hid h1
            have G2 := Lib.hid h2
            have G3 := Lib.hid h3
            have G4 := Lib.hid h4
            clear hr hF hE h1 h2 h3 h4
            go_wp2_with fail
            refine Calls.mono (G1.out _ (HVX.out.below hw)) ?_
            rintro e w5 ⟨v5, rfl, ⟨Aa, ca, rfl, _, _, hpa, _⟩, hbx⟩
            replace hw := Below.hop hw hbx
            have HPA := Lib.hid hpa
            clear hbx hpa G1 a1
            go_wp2_with fail
            refine Calls.mono (G2.out _ (HVX.out.below hw)) ?_
            rintro e w6 ⟨⟨v6, rfl, hs6⟩, hbx⟩
            obtain ⟨Ab, cb, rfl, _, _, hpb⟩ := hs6.any
            replace hw := Below.hop hw hbx
            have HPA6 := Lib.hid (HPA.out.below hbx)
            have HPB := Lib.hid hpb
            clear hbx hpb hs6 G2 HPA
            go_wp2_with fail
            refine Calls.mono (G3.out _ (HVX.out.below hw)) ?_
            rintro e w7 ⟨v7, rfl, ⟨Ac, cc, rfl, _, _, hpc7, _⟩, hbx⟩
            replace hw := Below.hop hw hbx
            have hj7 := hbx
            have HPC := Lib.hid hpc7
            clear hbx hpc7 G3
            go_wp2_with fail
            refine Calls.mono (G4.out _ (HVX.out.below hw)) ?_
            rintro e w8 ⟨⟨v8, rfl, hs8⟩, hbx⟩
            obtain ⟨Ad, cd, rfl, _, _, hpd⟩ := hs8.any
            replace hw := Below.hop hw hbx
            have hj8 := Below.hop hj7 hbx
            have HPA8 := Lib.hid (HPA6.out.below hj8)
            have HPB8 := Lib.hid (HPB.out.below hj8)
            have HPC8 := Lib.hid (HPC.out.below hbx)
            have HPD := Lib.hid hpd
            clear hbx hpd hs8 G4 hj7 hj8 HPA6 HPB HPC
            have hq : Below w8.heap.size w8 w8 := Below.refl _ _
            go_wp2_with fail
            refine Calls.mono (callv (hull_Check c ((HVX.out.below hw).below hq) hnc hcm) HRV.out) ?_
            rintro e w9 ⟨rfl, hbx⟩
            replace hq := Below.hop hq hbx
            clear hbx
            go_wp2_with fail
            refine Calls.mono (callv (ref8_Check c ((HVX.out.below hw).below hq)) HRV.out) ?_
            rintro e w10 ⟨rfl, hbx⟩
            replace hq := Below.hop hq hbx
            clear hbx
            go_wp2_with fail
            refine Calls.mono (ref8_SamePlanes ca cb (HPA8.out.below hq) (HPB8.out.below hq)) ?_
            rintro e w11 ⟨rfl, hbx⟩
            replace hq := Below.hop hq hbx
            clear hbx
            go_wp2_with fail
            refine Calls.mono (ref8_SameVecs cc cd (HPC8.out.below hq) (HPD.out.below hq)) ?_
            rintro e w12 ⟨rfl, hbx⟩
            replace hq := Below.hop hq hbx
            clear hbx
            have hwe := Below.hop hw hq
            go_wp2
            go_roundw
            case rel => exact ⟨j + 1, by omega, by go_num, hwe⟩
            case measure => simp [intOf]; omega
          · obtain rfl : j = 5 := by omega
            go_wp2
            go_ret
            exact ⟨rfl, Below.hop HW0.out hw⟩
end Go.Proofs.YtccnlnkgoaelpaaGreat
namespace Go.Proofs.YtccnlnkgoaelpaaGreat.hullFacesDone
open Go.ChangeShapes Go.WideShapes Go.ChangeAt Go.RowKit

set_option maxRecDepth 100000 in
theorem lifted (os : Os) (started : os.Started) (H : Type) (enc : TypeId × Value → H) :
    ReturnsInHanded {} Tryz.checked os 3 .any (Rows.hullFacesSpec.pre6 enc Tryz.prog Tryz.f3 Rows.hullFacesRow.domain false) (Rows.hullFacesSpec.post enc Tryz.prog Tryz.f3 false true false false) := by
  refine returnsInHanded_of_change (C := Tryz.checked) own started (by kernel_rfl) Tryz.func3
    (ChangeSpec.witness6 (enc := enc) (C := Tryz.checked) false ⟨#[], #[.slice none 0 0, .agg #[.int .i64 0, .int .i64 0, .int .i64 0], .slice none 0 0], []⟩ 8 (by kernel_rfl) (by kernel_rfl) (by kernel_rfl) (by kernel_rfl)) ?_
  intro W base args ds gs before hval0 hW hcnd _
  have hval : ∀ (j : Nat) t v, Tryz.f3.params[j]? = some t → args[j]? = some v → Value.okWide Tryz.prog W .any base t v := hval0
  have hW' := hW
  obtain ⟨p, q, hA0, hV, rfl, hfz, hnd⟩ := hW
  have hA : DataW.TrodAll enc Tryz.prog W 0 (fun _ => true) true Tryz.f3.params.toList args.toList ds p := hA0
  rw [Tryz.params3] at hA hval
  obtain ⟨v0, vs0, d0, ds0, p0, q0, hargs, rfl, rfl, h0, r0⟩ := trodAll_cons hA
  obtain ⟨v1, vs1, d1, ds1, p1, q1, rfl, rfl, rfl, h1, r1⟩ := trodAll_cons r0
  obtain ⟨v2, vs2, d2, ds2, p2, q2, rfl, rfl, rfl, h2, r2⟩ := trodAll_cons r1
  obtain ⟨rfl, rfl, rfl⟩ := trodAll_nil r2
  obtain rfl : args = #[v0, v1, v2] := by cases args; simp_all
  obtain ⟨rfl, rfl⟩ := trodVars_none hV
  obtain ⟨a0, len0, cap0, rfl⟩ := okWide_slice Tryz.underlying22 (hval 0 22 v0 rfl rfl)
  obtain ⟨a2, len2, cap2, rfl⟩ := okWide_slice Tryz.underlying25 (hval 2 25 v2 rfl rfl)
  have k0 := h0
  have lt0 : ∀ x ∈ p0, x.block < W.heap.size := by obtain ⟨m, hm⟩ := k0; exact DataW.trod_lt m _ _ _ hm
  have k1 := h1
  have lt1 : ∀ x ∈ p1, x.block < W.heap.size := by obtain ⟨m, hm⟩ := k1; exact DataW.trod_lt m _ _ _ hm
  have k2 := h2
  have lt2 : ∀ x ∈ p2, x.block < W.heap.size := by obtain ⟨m, hm⟩ := k2; exact DataW.trod_lt m _ _ _ hm
  obtain ⟨z0, w0⟩ : ∃ zs, SliceI W a0 len0 zs ∧ len0 ≤ cap0 ∧ cap0 ≤ 9223372036854775807 := by
    obtain ⟨fuel, hf⟩ := h0
    rcases open_ints Tryz.underlying22 Tryz.underlying3 (by kernel_rfl) hf with ⟨hcs, _⟩ | ⟨x, l, c, zs, hcs, _, hl, hm, hz, _, hcell, hwz⟩
    · simp [Value.cells] at hcs
      obtain ⟨rfl, rfl, rfl⟩ := hcs
      exact ⟨_, sliceI_of (zs := []) (.inl ⟨rfl, rfl, rfl, rfl⟩)⟩
    · simp [Value.cells] at hcs
      obtain ⟨rfl, rfl, rfl⟩ := hcs
      exact ⟨_, sliceI_of (zs := zs) (.inr ⟨_, rfl, hl, hm, by simpa using hz, hcell, hwz⟩)⟩
  obtain ⟨c1, e1, _⟩ := okWide_struct Tryz.underlying24 (hval 1 24 v1 rfl rfl)
  obtain ⟨m1, g1, l1, ok1⟩ := open_flat flatVec e1 h1
  subst g1
  obtain ⟨x1_0, x1_1, x1_2, rfl⟩ := len3 l1
  obtain ⟨z2, w2⟩ : ∃ L, VecsAt W a2 len2 L ∧ len2 ≤ cap2 ∧ cap2 ≤ 9223372036854775807 ∧ (a2 = none → cap2 = 0) := by
    obtain ⟨fuel, hf⟩ := h2
    obtain ⟨A, len, cap, L, hcs, hv⟩ := open_vecs hf
    simp [Value.cells] at hcs
    obtain ⟨rfl, rfl, rfl⟩ := hcs
    exact ⟨L, hv⟩
  clear hA0 hval0
  refine (law08_Faces_walk W w0.1 x1_0 x1_1 x1_2 w2.1 w2.2.1 w2.2.2.1).mono fun e W' ⟨he, bel⟩ => ?_
  subst he
  exact ⟨_, rfl, _, _, _, [], _, [], hW', trodAll_mk1 (shut_bool Tryz.underlying4 _), (trodAll_cons_mk (Below.trod laidOut (by kernel_rfl) (of_decide_eq_true (by kernel_rfl)) k0 bel lt0) (trodAll_cons_mk (Below.trod laidOut (by kernel_rfl) (of_decide_eq_true (by kernel_rfl)) k1 bel lt1) (trodAll_cons_mk (Below.trod laidOut (by kernel_rfl) (of_decide_eq_true (by kernel_rfl)) k2 bel lt2) trodAll_mk0))), rfl, bel.frame _, fun h => by cases h⟩

theorem over : Rows.hullFacesRow.holds Tryz.pinned (OpenSpec.ofChange Rows.hullFacesSpec) :=
  OpenClaim.holds_of_wide 3 Tryz.f3 rfl rfl rfl rfl rfl rfl rfl ⟨rfl, rfl, rfl, rfl, rfl⟩ rfl rfl rfl rfl rfl (by kernel_rfl) Tryz.func3 (by kernel_rfl)
    (of_decide_eq_true (by kernel_rfl)) (by unfold Func.isWrapper; first | (rw [if_pos (by decide +kernel)]; kernel_rfl) | (rw [if_neg (by decide +kernel)]; exact ⟨rfl, rfl⟩))
    (fun os started H enc _ => lifted os started H enc)

theorem proved : Rows.HullFacesSaid := over
#print axioms proved
end Go.Proofs.YtccnlnkgoaelpaaGreat.hullFacesDone
