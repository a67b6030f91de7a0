/- The law ContactSplits returns true. The numbers are int64, and the slice reads as int64 numbers. -/
import Derived.Test.YthijnggeoinlfaaSan25
import Derived.Test.YthijnggeoinlfaaCtN
import Derived.Test.YthijnggeoinlfaaSplitsM
import Derived.Test.YthijnggeoinlfaaConeW
import Derived.Test.YthijnggeoinlfaaSink
namespace Go.Proofs.Ythijnggeoinlfaa
open Go.RowKit

/-- The combination of the first k vectors. -/
def combP (L : List V3) (ps : List Int) : Nat → V3
  | 0 => ⟨0, 0, 0⟩
  | k + 1 => vSum (combP L ps k) (ps.getD k 0) (L.getD k ⟨0, 0, 0⟩)
theorem has_flat {c : Ct} (h : CtOk c) {f : V3} (hf : Bd 999 f) (hm : c.mn = 0 := by rfl) :
    (0 ≤ vDot f c.n → f = vSum ⟨0, 0, 0⟩ (vDot f c.n) c.n → cHas c f = true) ∧ (0 ≤ vDot f c.n → ¬ f = vSum ⟨0, 0, 0⟩ (vDot f c.n) c.n → cHas c f = false) ∧ (¬ 0 ≤ vDot f c.n → cHas c f = false) := by
  have d1 := h.d1
  have hf5 : Bd 100000 f := hf.mono (by omega)
  have hb := hf
  obtain ⟨b1, b2, b3, b4, b5, b6⟩ := hb
  have w0 : wrap64 0 = 0 := wr_zero
  have key : cHas c f = (decide (0 ≤ vDot f c.n) && decide (cSide c.n f = 0)) := by
    rw [has_small h hf5, hm, Int.zero_mul]
    have := side_nn c.n f
    congr 1
    refine decide_eq_decide.2 ⟨fun h1 => ?_, fun h1 => by rw [h1]; simp⟩
    rcases Int.lt_or_le 0 (cSide c.n f) with h2 | h2
    · have := Int.mul_pos (show 0 < c.md by omega) h2; omega
    · omega
  have eq : (f = vSum ⟨0, 0, 0⟩ (vDot f c.n) c.n) ↔ cSide c.n f = 0 := by
    obtain ⟨a, n, mn, md⟩ := c
    obtain ⟨x, y, z⟩ := f
    have hu := h.u
    simp only [] at hu b1 b2 b3 b4 b5 b6 ⊢
    have wx : wrap64 x = x := wr_id ⟨by omega, by omega⟩
    have wy : wrap64 y = y := wr_id ⟨by omega, by omega⟩
    have wz : wrap64 z = z := wr_id ⟨by omega, by omega⟩
    have vx : wrap64 (-x) = -x := wr_id ⟨by omega, by omega⟩
    have vy : wrap64 (-y) = -y := wr_id ⟨by omega, by omega⟩
    have vz : wrap64 (-z) = -z := wr_id ⟨by omega, by omega⟩
    rcases unit_cases hu with rfl | rfl | rfl | rfl | rfl | rfl <;>
      (simp [vSum, vDot, cSide, sideK, sd1, w0, wx, wy, wz, vx, vy, vz]; (repeat' split) <;> omega)
  refine ⟨fun h1 h2 => ?_, fun h1 h2 => ?_, fun h1 => ?_⟩
  · rw [key, decide_eq_true h1, decide_eq_true (eq.1 h2)]; rfl
  · rw [key, decide_eq_false (fun h3 => h2 (eq.2 h3)), Bool.and_false]
  · rw [key, decide_eq_false h1, Bool.false_and]

set_option maxRecDepth 100000 in
set_option maxHeartbeats 20000000 in
theorem law25_Splits_walk (A : Option Addr) (n cap : Nat) (l : List Int) (f0 f1 f2 : Int) (w : World) (hl : SliceI w A n l) (hcap : n ≤ cap) (hcap2 : cap ≤ 9223372036854775807) :
    Calls Try.prog 13 #[.slice A n cap, vV f0 f1 f2] w fun r w' => r = .returned (.bool true) ∧ Below w.heap.size w w' := by
  have HL := Lib.hid hl
  clear hl
  have hn0 : 0 ≤ (n : Int) := by omega
  have hn1 : (n : Int) ≤ (cap : Int) := by omega
  have hn2 : (cap : Int) ≤ 9223372036854775807 := by omega
  go_enter Try.func13, Try.ntmps13
  go_wp2_with fail
  refine Calls.mono (law25_sanity _) ?_
  rintro e w1 ⟨rfl, hbx⟩
  have of : Own w1 (w.heap.size) #[.int .i64 f0, .int .i64 f1, .int .i64 f2] := Own.below (by repeat' (first | ((refine Own.new ?_); (focus (first | rfl | omega | (simp; done) | (simp; omega)))) | assumption | refine Own.alloc ?_ _ | refine Own.drew ?_ | (refine Own.far ?_ ?_ _; rotate_left; (focus (first | rfl | omega | (simp; done) | (simp; omega)))))) hbx
  have ofc := of.cell
  have off := of.thaw
  have ofz := of.lt
  have hw : Below w.heap.size w w1 := Below.hop (by repeat' (first | exact Below.refl _ _ | assumption | (refine Below.alloc ?_ ?_ _; rotate_left; (focus (first | rfl | omega | (simp; done) | (simp; omega)))) | (refine Below.setCell ?_ ?_ _; rotate_left; (focus (first | rfl | omega | (simp; done) | (simp; omega)))) | refine Below.drew ?_)) hbx
  have hz := hw.size
  clear hbx
  go_wp2_with fail
  refine Calls.mono (law25_made A n cap _ _ (HL.out.below hw) (by omega) (by omega)) ?_
  rintro e w2 ⟨⟨⟨c0, c1, c2⟩, ⟨cn0, cn1, cn2⟩, cm, cd⟩, rfl, hok, hbx⟩
  have Hhok := Lib.hid hok
  clear hok
  replace of : Own w2 (w.heap.size) #[.int .i64 f0, .int .i64 f1, .int .i64 f2] := Own.below (by repeat' (first | ((refine Own.new ?_); (focus (first | rfl | omega | (simp; done) | (simp; omega)))) | assumption | refine Own.alloc ?_ _ | refine Own.drew ?_ | (refine Own.far ?_ ?_ _; rotate_left; (focus (first | rfl | omega | (simp; done) | (simp; omega)))))) hbx
  replace ofc := of.cell
  replace off := of.thaw
  replace ofz := of.lt
  replace hw : Below w.heap.size w w2 := Below.hop (by repeat' (first | exact Below.refl _ _ | assumption | (refine Below.alloc ?_ ?_ _; rotate_left; (focus (first | rfl | omega | (simp; done) | (simp; omega)))) | (refine Below.setCell ?_ ?_ _; rotate_left; (focus (first | rfl | omega | (simp; done) | (simp; omega)))) | refine Below.drew ?_)) hbx
  replace hz := hw.size
  clear hbx
  clear HL hn0 hn1 hn2 hcap hcap2
  have hsb := small_Bd ⟨f0, f1, f2⟩
  obtain ⟨⟨s0, s1, s2⟩, hs⟩ : ∃ s, vSmall ⟨f0, f1, f2⟩ = s := ⟨_, rfl⟩
  rw [hs] at hsb
  have HSB := Lib.hid hsb
  have H1 := Lib.hid (congrArg V3.v hs)
  clear hs hsb
  go_wp2_with fail
  have hcb : w.heap.size < w2.heap.size := ofz
  have qocof : w.heap.size < w2.heap.size := ofz
  have w3s : (w2.alloc (.cells #[.int .i64 c0, .int .i64 c1, .int .i64 c2, .int .i64 cn0, .int .i64 cn1, .int .i64 cn2, .int .i64 cm, .int .i64 cd] 66)).heap.size = w2.heap.size + 1 := by simp
  have w3e := Lib.hid w3s
  clear w3s
  have oc : Own ((w2.alloc (.cells #[.int .i64 c0, .int .i64 c1, .int .i64 c2, .int .i64 cn0, .int .i64 cn1, .int .i64 cn2, .int .i64 cm, .int .i64 cd] 66))) (w2.heap.size) #[.int .i64 c0, .int .i64 c1, .int .i64 c2, .int .i64 cn0, .int .i64 cn1, .int .i64 cn2, .int .i64 cm, .int .i64 cd] := Own.new rfl
  replace of : Own ((w2.alloc (.cells #[.int .i64 c0, .int .i64 c1, .int .i64 c2, .int .i64 cn0, .int .i64 cn1, .int .i64 cn2, .int .i64 cm, .int .i64 cd] 66))) (w.heap.size) #[.int .i64 f0, .int .i64 f1, .int .i64 f2] := (by repeat' (first | ((refine Own.new ?_); (focus (first | rfl | omega | (simp; done) | (simp; omega)))) | assumption | refine Own.alloc ?_ _ | refine Own.drew ?_ | (refine Own.far ?_ ?_ _; rotate_left; (focus (first | rfl | omega | (simp; done) | (simp; omega))))))
  clear ofc off ofz
  replace hw : Below w.heap.size w ((w2.alloc (.cells #[.int .i64 c0, .int .i64 c1, .int .i64 c2, .int .i64 cn0, .int .i64 cn1, .int .i64 cn2, .int .i64 cm, .int .i64 cd] 66))) := (by repeat' (first | exact Below.refl _ _ | assumption | (refine Below.alloc ?_ ?_ _; rotate_left; (focus (first | rfl | omega | (simp; done) | (simp; omega)))) | (refine Below.setCell ?_ ?_ _; rotate_left; (focus (first | rfl | omega | (simp; done) | (simp; omega)))) | refine Below.drew ?_))
  generalize (w2.alloc (.cells #[.int .i64 c0, .int .i64 c1, .int .i64 c2, .int .i64 cn0, .int .i64 cn1, .int .i64 cn2, .int .i64 cm, .int .i64 cd] 66)) = w3 at *
  have ofc := of.cell
  have off := of.thaw
  have ofz := of.lt
  have occ := oc.cell
  have ocf := oc.thaw
  have ocz := oc.lt
  replace hz := hw.size
  generalize w2.heap.size = cb at *
  refine Calls.mono (callv (law25_small f0 f1 f2 _) H1.out) ?_
  rintro e w4 ⟨rfl, hbx⟩
  replace of : Own w4 (w.heap.size) #[.int .i64 f0, .int .i64 f1, .int .i64 f2] := Own.below (by repeat' (first | ((refine Own.new ?_); (focus (first | rfl | omega | (simp; done) | (simp; omega)))) | assumption | refine Own.alloc ?_ _ | refine Own.drew ?_ | (refine Own.far ?_ ?_ _; rotate_left; (focus (first | rfl | omega | (simp; done) | (simp; omega)))))) hbx
  replace ofc := of.cell
  replace off := of.thaw
  replace ofz := of.lt
  replace oc : Own w4 (cb) #[.int .i64 c0, .int .i64 c1, .int .i64 c2, .int .i64 cn0, .int .i64 cn1, .int .i64 cn2, .int .i64 cm, .int .i64 cd] := Own.below (by repeat' (first | ((refine Own.new ?_); (focus (first | rfl | omega | (simp; done) | (simp; omega)))) | assumption | refine Own.alloc ?_ _ | refine Own.drew ?_ | (refine Own.far ?_ ?_ _; rotate_left; (focus (first | rfl | omega | (simp; done) | (simp; omega)))))) hbx
  replace occ := oc.cell
  replace ocf := oc.thaw
  replace ocz := oc.lt
  replace hw : Below w.heap.size w w4 := Below.hop (by repeat' (first | exact Below.refl _ _ | assumption | (refine Below.alloc ?_ ?_ _; rotate_left; (focus (first | rfl | omega | (simp; done) | (simp; omega)))) | (refine Below.setCell ?_ ?_ _; rotate_left; (focus (first | rfl | omega | (simp; done) | (simp; omega)))) | refine Below.drew ?_)) hbx
  replace hz := hw.size
  clear hbx
  go_wp2_with fail
  have tof : Own (((((((w4).setCell ⟨w.heap.size, 0, none⟩ (.int .i64 s0))).setCell ⟨w.heap.size, 1, none⟩ (.int .i64 s1))).setCell ⟨w.heap.size, 2, none⟩ (.int .i64 s2))) (w.heap.size) #[.int .i64 s0, .int .i64 s1, .int .i64 s2] := (((of.set 0 _).set 1 _).set 2 _)
  clear ofc off ofz of
  replace oc : Own (((((((w4).setCell ⟨w.heap.size, 0, none⟩ (.int .i64 s0))).setCell ⟨w.heap.size, 1, none⟩ (.int .i64 s1))).setCell ⟨w.heap.size, 2, none⟩ (.int .i64 s2))) (cb) #[.int .i64 c0, .int .i64 c1, .int .i64 c2, .int .i64 cn0, .int .i64 cn1, .int .i64 cn2, .int .i64 cm, .int .i64 cd] := (((oc.far (by first | (simp; done) | (simp; omega)) _).far (by first | (simp; done) | (simp; omega)) _).far (by first | (simp; done) | (simp; omega)) _)
  clear occ ocf ocz
  replace hw : Below w.heap.size w (((((((w4).setCell ⟨w.heap.size, 0, none⟩ (.int .i64 s0))).setCell ⟨w.heap.size, 1, none⟩ (.int .i64 s1))).setCell ⟨w.heap.size, 2, none⟩ (.int .i64 s2))) := (((hw.setCell (by first | (simp; done) | (simp; omega)) _).setCell (by first | (simp; done) | (simp; omega)) _).setCell (by first | (simp; done) | (simp; omega)) _)
  have of := tof
  clear tof
  have w5s : (((((((w4).setCell ⟨w.heap.size, 0, none⟩ (.int .i64 s0))).setCell ⟨w.heap.size, 1, none⟩ (.int .i64 s1))).setCell ⟨w.heap.size, 2, none⟩ (.int .i64 s2))).heap.size = w4.heap.size := by simp
  generalize ((((((w4).setCell ⟨w.heap.size, 0, none⟩ (.int .i64 s0))).setCell ⟨w.heap.size, 1, none⟩ (.int .i64 s1))).setCell ⟨w.heap.size, 2, none⟩ (.int .i64 s2)) = w5 at *
  have w5e := Lib.hid w5s
  clear w5s
  have occ := oc.cell
  have ocf := oc.thaw
  have ocz := oc.lt
  have ofc := of.cell
  have off := of.thaw
  have ofz := of.lt
  replace hz := hw.size
  by_cases hm : cm = 0
  · subst hm
    have HLL : Hid (coneL ⟨⟨c0, c1, c2⟩, ⟨cn0, cn1, cn2⟩, 0, cd⟩ = [⟨cn0, cn1, cn2⟩]) := Lib.hid (by unfold coneL; rw [if_pos Hhok.out.check]; rfl)
    have hfl := has_flat Hhok.out HSB.out
    obtain ⟨U, hU⟩ : ∃ U, vDot ⟨s0, s1, s2⟩ ⟨cn0, cn1, cn2⟩ = U := ⟨_, rfl⟩
    dsimp only at hfl
    rw [hU] at hfl
    have HU := Lib.hid (congrArg (Value.int IntKind.i64) hU)
    clear hU
    obtain ⟨⟨t0, t1, t2⟩, hT⟩ : ∃ T, vSum ⟨0, 0, 0⟩ U ⟨cn0, cn1, cn2⟩ = T := ⟨_, rfl⟩
    rw [hT] at hfl
    have HT := Lib.hid (congrArg V3.v hT)
    clear hT
    have HFL := Lib.hid hfl
    clear hfl
    refine Calls.mono (contact_Cone ⟨⟨c0, c1, c2⟩, ⟨cn0, cn1, cn2⟩, 0, cd⟩ _) ?_
    rintro e w6 ⟨v, rfl, hs, hbx⟩
    rw [HLL.out] at hs
    have hr0 : _ := hs.1
    obtain ⟨g, gcap, rfl⟩ := ownsRow_pos hr0 (by simp)
    obtain ⟨hg1, hg2, hg3, cs, hgo, hgc⟩ := ownsRow_own hr0 (by simp)
    have hc0 : cs[0]? = some (.int .i64 cn0) := hgc 0 (by simp)
    have hc1 : cs[1]? = some (.int .i64 cn1) := hgc 1 (by simp)
    have hc2 : cs[2]? = some (.int .i64 cn2) := hgc 2 (by simp)
    clear hgc hs hr0
    unfold maxLen at hg3
    simp only [List.length_cons, List.length_nil, Nat.zero_add] at hg2
    replace oc : Own w6 (cb) #[.int .i64 c0, .int .i64 c1, .int .i64 c2, .int .i64 cn0, .int .i64 cn1, .int .i64 cn2, .int .i64 0, .int .i64 cd] := Own.below (by repeat' (first | ((refine Own.new ?_); (focus (first | rfl | omega | (simp; done) | (simp; omega)))) | assumption | refine Own.alloc ?_ _ | refine Own.drew ?_ | (refine Own.far ?_ ?_ _; rotate_left; (focus (first | rfl | omega | (simp; done) | (simp; omega)))))) hbx
    replace occ := oc.cell
    replace ocf := oc.thaw
    replace ocz := oc.lt
    replace of : Own w6 (w.heap.size) #[.int .i64 s0, .int .i64 s1, .int .i64 s2] := Own.below (by repeat' (first | ((refine Own.new ?_); (focus (first | rfl | omega | (simp; done) | (simp; omega)))) | assumption | refine Own.alloc ?_ _ | refine Own.drew ?_ | (refine Own.far ?_ ?_ _; rotate_left; (focus (first | rfl | omega | (simp; done) | (simp; omega)))))) hbx
    replace ofc := of.cell
    replace off := of.thaw
    replace ofz := of.lt
    replace hw : Below w.heap.size w w6 := Below.hop (by repeat' (first | exact Below.refl _ _ | assumption | (refine Below.alloc ?_ ?_ _; rotate_left; (focus (first | rfl | omega | (simp; done) | (simp; omega)))) | (refine Below.setCell ?_ ?_ _; rotate_left; (focus (first | rfl | omega | (simp; done) | (simp; omega)))) | refine Below.drew ?_)) hbx
    replace hz := hw.size
    clear hbx
    have ol : Own w6 g cs := hgo
    clear hgo hg1
    have olc := ol.cell
    have olf := ol.thaw
    have olz := ol.lt
    go_wp2
    refine region_late 6 [] (by kernel_rfl) (by kernel_rfl) (by rfl) ?_
    apply Exists.intro
    refine ⟨fun v hv hne => ?_, fun u6 hu => ?_⟩
    · simp only [List.take_succ_cons, List.take_zero]
      have doc := fun x => (oc.later (v := v) (T := []) (by first | (simp; done) | (simp; omega)) x).cell
      have dof := fun x => (of.later (v := v) (T := []) (by first | (simp; done) | (simp; omega)) x).cell
      have dol := fun x => (ol.later (v := v) (T := []) (by first | (simp; done) | (simp; omega)) x).cell
      repeat (go_big_quiet_step (fail))
      refine wpQuiet_nil ?_
      exact rfl
    · simp only [List.drop_succ_cons, List.drop_zero]
      replace oc := oc.below hu
      clear occ ocf ocz
      replace of := of.below hu
      clear ofc off ofz
      replace ol := ol.below hu
      clear olc olf olz
      have hkk := Keeps.of_below (T := []) hu
      replace hw := Below.hop hw hu
      clear hu
      refine late_mem (fun K hK => ?_)
      go_simp
      refine hK _ _ hkk (fun u6a hu2 => ?_)
      clear hK K
      replace hw := Below.hop hw hu2
      replace hkk := hkk.later hu2
      replace oc := oc.below hu2
      replace of := of.below hu2
      replace ol := ol.below hu2
      clear hu2
      refine late_mem (fun K hK => ?_)
      go_simp
      refine hK _ _ hkk (fun u6b hu2 => ?_)
      clear hK K
      replace hw := Below.hop hw hu2
      replace hkk := hkk.later hu2
      replace oc := oc.below hu2
      replace of := of.below hu2
      replace ol := ol.below hu2
      clear hu2
      replace hz := hw.size
      clear hkk
      refine late_nil ?_
      (try simp only [Act.put, List.setIfInBounds_toArray, List.set_cons_zero, List.set_cons_succ])
      have occ := oc.cell
      have ocf := oc.thaw
      have ocz := oc.lt
      have ofc := of.cell
      have off := of.thaw
      have ofz := of.lt
      have olc := ol.cell
      have olf := ol.thaw
      have olz := ol.lt
      go_wp2_with fail
      refine Calls.mono (callv (plane_Dot _ _ _ _ _ _ _) HU.out) ?_
      rintro e w7 ⟨rfl, hbx⟩
      replace oc : Own w7 (cb) #[.int .i64 c0, .int .i64 c1, .int .i64 c2, .int .i64 cn0, .int .i64 cn1, .int .i64 cn2, .int .i64 0, .int .i64 cd] := Own.below (by repeat' (first | ((refine Own.new ?_); (focus (first | rfl | omega | (simp; done) | (simp; omega)))) | assumption | refine Own.alloc ?_ _ | refine Own.drew ?_ | (refine Own.far ?_ ?_ _; rotate_left; (focus (first | rfl | omega | (simp; done) | (simp; omega)))))) hbx
      replace occ := oc.cell
      replace ocf := oc.thaw
      replace ocz := oc.lt
      replace of : Own w7 (w.heap.size) #[.int .i64 s0, .int .i64 s1, .int .i64 s2] := Own.below (by repeat' (first | ((refine Own.new ?_); (focus (first | rfl | omega | (simp; done) | (simp; omega)))) | assumption | refine Own.alloc ?_ _ | refine Own.drew ?_ | (refine Own.far ?_ ?_ _; rotate_left; (focus (first | rfl | omega | (simp; done) | (simp; omega)))))) hbx
      replace ofc := of.cell
      replace off := of.thaw
      replace ofz := of.lt
      replace ol : Own w7 (g) cs := Own.below (by repeat' (first | ((refine Own.new ?_); (focus (first | rfl | omega | (simp; done) | (simp; omega)))) | assumption | refine Own.alloc ?_ _ | refine Own.drew ?_ | (refine Own.far ?_ ?_ _; rotate_left; (focus (first | rfl | omega | (simp; done) | (simp; omega)))))) hbx
      replace olc := ol.cell
      replace olf := ol.thaw
      replace olz := ol.lt
      replace hw : Below w.heap.size w w7 := Below.hop (by repeat' (first | exact Below.refl _ _ | assumption | (refine Below.alloc ?_ ?_ _; rotate_left; (focus (first | rfl | omega | (simp; done) | (simp; omega)))) | (refine Below.setCell ?_ ?_ _; rotate_left; (focus (first | rfl | omega | (simp; done) | (simp; omega)))) | refine Below.drew ?_)) hbx
      replace hz := hw.size
      clear hbx
      go_wp2
      by_cases hup : 0 ≤ U
      · by_cases heq : (⟨s0, s1, s2⟩ : V3) = ⟨t0, t1, t2⟩
        · injection heq with h0 h1 h2
          subst h0
          subst h1
          subst h2
          have HB := Lib.hid (congrArg Value.bool (HFL.out.1 hup rfl))
          refine region_late 24 [] (by kernel_rfl) (by kernel_rfl) (by rfl) ?_
          apply Exists.intro
          refine ⟨fun v hv hne => ?_, fun u hu => ?_⟩
          · simp only [List.take_succ_cons, List.take_zero]
            have doc := fun x => (oc.later (v := v) (T := []) (by first | (simp; done) | (simp; omega)) x).cell
            have dof := fun x => (of.later (v := v) (T := []) (by first | (simp; done) | (simp; omega)) x).cell
            have dol := fun x => (ol.later (v := v) (T := []) (by first | (simp; done) | (simp; omega)) x).cell
            repeat (go_big_quiet_step ((first | (go_at_call 59; with_reducible exact lateB (callv (contact_Has _ _ _ _ _ _ _ _ _ _ _ _) HB.out)) | (go_at_call 64; with_reducible exact lateB (callv (law25_sum _ _ _ _ _ _ _ _) HT.out)))))
            refine wpQuiet_nil ?_
            exact rfl
          · simp only [List.drop_succ_cons, List.drop_zero]
            refine late_mem (fun K hK => ?_)
            go_simp
            refine hK _ _ (Keeps.of_below hu) (fun u2 hu2 => ?_)
            clear hK K
            replace oc := (oc.below hu).below hu2
            replace of := (of.below hu).below hu2
            replace ol := (ol.below hu).below hu2
            replace hw := Below.hop (Below.hop hw hu) hu2
            replace hz := hw.size
            clear hu hu2
            refine late_nil ?_
            (try simp only [Act.put, List.setIfInBounds_toArray, List.set_cons_zero, List.set_cons_succ])
            have occ := oc.cell
            have ocf := oc.thaw
            have ocz := oc.lt
            have ofc := of.cell
            have off := of.thaw
            have ofz := of.lt
            have olc := ol.cell
            have olf := ol.thaw
            have olz := ol.lt
            go_wp2
            go_ret
            exact ⟨rfl, hw⟩
        · skip
          have HB := Lib.hid (congrArg Value.bool (HFL.out.2.1 hup heq))
          have HD : Hid (¬ s0 = t0 ∨ ¬ s1 = t1 ∨ ¬ s2 = t2) := Lib.hid (by by_cases a : s0 = t0; by_cases b : s1 = t1; by_cases c : s2 = t2; exact absurd (by rw [a, b, c]) heq; exact .inr (.inr c); exact .inr (.inl b); exact .inl a)
          clear heq
          refine region_late 24 [] (by kernel_rfl) (by kernel_rfl) (by rfl) ?_
          apply Exists.intro
          refine ⟨fun v hv hne => ?_, fun u hu => ?_⟩
          · simp only [List.take_succ_cons, List.take_zero]
            have doc := fun x => (oc.later (v := v) (T := []) (by first | (simp; done) | (simp; omega)) x).cell
            have dof := fun x => (of.later (v := v) (T := []) (by first | (simp; done) | (simp; omega)) x).cell
            have dol := fun x => (ol.later (v := v) (T := []) (by first | (simp; done) | (simp; omega)) x).cell
            rcases HD.out with hd | hd | hd
            all_goals repeat (go_big_quiet_step ((first | (go_at_call 59; with_reducible exact lateB (callv (contact_Has _ _ _ _ _ _ _ _ _ _ _ _) HB.out)) | (go_at_call 64; with_reducible exact lateB (callv (law25_sum _ _ _ _ _ _ _ _) HT.out)))))
            all_goals refine wpQuiet_nil ?_
            all_goals exact rfl
          · simp only [List.drop_succ_cons, List.drop_zero]
            refine late_mem (fun K hK => ?_)
            go_simp
            refine hK _ _ (Keeps.of_below hu) (fun u2 hu2 => ?_)
            clear hK K
            replace oc := (oc.below hu).below hu2
            replace of := (of.below hu).below hu2
            replace ol := (ol.below hu).below hu2
            replace hw := Below.hop (Below.hop hw hu) hu2
            replace hz := hw.size
            clear hu hu2
            refine late_nil ?_
            (try simp only [Act.put, List.setIfInBounds_toArray, List.set_cons_zero, List.set_cons_succ])
            have occ := oc.cell
            have ocf := oc.thaw
            have ocz := oc.lt
            have ofc := of.cell
            have off := of.thaw
            have ofz := of.lt
            have olc := ol.cell
            have olf := ol.thaw
            have olz := ol.lt
            go_wp2
            go_ret
            exact ⟨rfl, hw⟩
      · skip
        have HB := Lib.hid (congrArg Value.bool (HFL.out.2.2 (by omega)))
        refine region_late 24 [] (by kernel_rfl) (by kernel_rfl) (by rfl) ?_
        apply Exists.intro
        refine ⟨fun v hv hne => ?_, fun u hu => ?_⟩
        · simp only [List.take_succ_cons, List.take_zero]
          have doc := fun x => (oc.later (v := v) (T := []) (by first | (simp; done) | (simp; omega)) x).cell
          have dof := fun x => (of.later (v := v) (T := []) (by first | (simp; done) | (simp; omega)) x).cell
          have dol := fun x => (ol.later (v := v) (T := []) (by first | (simp; done) | (simp; omega)) x).cell
          repeat (go_big_quiet_step ((first | (go_at_call 59; with_reducible exact lateB (callv (contact_Has _ _ _ _ _ _ _ _ _ _ _ _) HB.out)))))
          refine wpQuiet_nil ?_
          exact rfl
        · simp only [List.drop_succ_cons, List.drop_zero]
          refine late_mem (fun K hK => ?_)
          go_simp
          refine hK _ _ (Keeps.of_below hu) (fun u2 hu2 => ?_)
          clear hK K
          replace oc := (oc.below hu).below hu2
          replace of := (of.below hu).below hu2
          replace ol := (ol.below hu).below hu2
          replace hw := Below.hop (Below.hop hw hu) hu2
          replace hz := hw.size
          clear hu hu2
          refine late_nil ?_
          (try simp only [Act.put, List.setIfInBounds_toArray, List.set_cons_zero, List.set_cons_succ])
          have occ := oc.cell
          have ocf := oc.thaw
          have ocz := oc.lt
          have ofc := of.cell
          have off := of.thaw
          have ofz := of.lt
          have olc := ol.cell
          have olf := ol.thaw
          have olz := ol.lt
          go_wp2
          go_ret
          exact ⟨rfl, hw⟩
  · skip
    obtain ⟨⟨a0, a1, a2⟩, ⟨b0, b1, b2⟩, ⟨d0, d1, d2⟩, ⟨e0, e1, e2⟩, ⟨x0, x1, x2⟩, ⟨y0, y1, y2⟩, ⟨z0, z1, z2⟩, D0, D1, t, u, U, p, q, RS, P0, P1, P2, P3, hSp⟩ := splits_law Hhok.out hm HSB.out
    have HLL := Lib.hid hSp.cone
    have HG0 := Lib.hid (congrArg V3.v hSp.s0)
    have HG1 := Lib.hid (congrArg V3.v hSp.s1)
    have HD0 := Lib.hid (congrArg (Value.int IntKind.i64) hSp.d0)
    have HD1 := Lib.hid (congrArg (Value.int IntKind.i64) hSp.d1)
    have HUP := Lib.hid (congrArg (Value.int IntKind.i64) hSp.up)
    have hw2d : wrap64 (2 * cd) = 2 * cd := wr_id ⟨by have := Hhok.out.d1; simp only [] at this; omega, by have := Hhok.out.d2; simp only [] at this; omega⟩
    have hwh := hSp.whole
    simp only [] at hwh
    rw [hw2d] at hwh
    have HW := Lib.hid (congrArg V3.v hwh)
    clear hw2d hwh
    have HB := Lib.hid (congrArg Value.bool hSp.has)
    have HSP := Lib.hid hSp
    clear hSp
    have cm1 := Hhok.out.n1
    have cm2 := Hhok.out.n2
    have cd1 := Hhok.out.d1
    have cd2 := Hhok.out.d2
    simp only [] at cm1 cm2 cd1 cd2
    refine Calls.mono (contact_Cone ⟨⟨c0, c1, c2⟩, ⟨cn0, cn1, cn2⟩, cm, cd⟩ _) ?_
    rintro e w6 ⟨v, rfl, hs, hbx⟩
    rw [HLL.out] at hs
    have hr0 : _ := hs.1
    obtain ⟨g, gcap, rfl⟩ := ownsRow_pos hr0 (by simp)
    obtain ⟨hg1, hg2, hg3, cs, hgo, hgc⟩ := ownsRow_own hr0 (by simp)
    have hc0 : cs[0]? = some (.int .i64 a0) := hgc 0 (by simp)
    have hc1 : cs[1]? = some (.int .i64 a1) := hgc 1 (by simp)
    have hc2 : cs[2]? = some (.int .i64 a2) := hgc 2 (by simp)
    have hc3 : cs[3]? = some (.int .i64 b0) := hgc 3 (by simp)
    have hc4 : cs[4]? = some (.int .i64 b1) := hgc 4 (by simp)
    have hc5 : cs[5]? = some (.int .i64 b2) := hgc 5 (by simp)
    have hc6 : cs[6]? = some (.int .i64 d0) := hgc 6 (by simp)
    have hc7 : cs[7]? = some (.int .i64 d1) := hgc 7 (by simp)
    have hc8 : cs[8]? = some (.int .i64 d2) := hgc 8 (by simp)
    have hc9 : cs[9]? = some (.int .i64 e0) := hgc 9 (by simp)
    have hc10 : cs[10]? = some (.int .i64 e1) := hgc 10 (by simp)
    have hc11 : cs[11]? = some (.int .i64 e2) := hgc 11 (by simp)
    clear hgc hs hr0
    unfold maxLen at hg3
    simp only [List.length_cons, List.length_nil, Nat.zero_add, Nat.reduceAdd] at hg2
    replace oc : Own w6 (cb) #[.int .i64 c0, .int .i64 c1, .int .i64 c2, .int .i64 cn0, .int .i64 cn1, .int .i64 cn2, .int .i64 cm, .int .i64 cd] := Own.below (by repeat' (first | ((refine Own.new ?_); (focus (first | rfl | omega | (simp; done) | (simp; omega)))) | assumption | refine Own.alloc ?_ _ | refine Own.drew ?_ | (refine Own.far ?_ ?_ _; rotate_left; (focus (first | rfl | omega | (simp; done) | (simp; omega)))))) hbx
    replace occ := oc.cell
    replace ocf := oc.thaw
    replace ocz := oc.lt
    replace of : Own w6 (w.heap.size) #[.int .i64 s0, .int .i64 s1, .int .i64 s2] := Own.below (by repeat' (first | ((refine Own.new ?_); (focus (first | rfl | omega | (simp; done) | (simp; omega)))) | assumption | refine Own.alloc ?_ _ | refine Own.drew ?_ | (refine Own.far ?_ ?_ _; rotate_left; (focus (first | rfl | omega | (simp; done) | (simp; omega)))))) hbx
    replace ofc := of.cell
    replace off := of.thaw
    replace ofz := of.lt
    replace hw : Below w.heap.size w w6 := Below.hop (by repeat' (first | exact Below.refl _ _ | assumption | (refine Below.alloc ?_ ?_ _; rotate_left; (focus (first | rfl | omega | (simp; done) | (simp; omega)))) | (refine Below.setCell ?_ ?_ _; rotate_left; (focus (first | rfl | omega | (simp; done) | (simp; omega)))) | refine Below.drew ?_)) hbx
    replace hz := hw.size
    clear hbx
    have ol : Own w6 g cs := hgo
    clear hgo hg1
    have olc := ol.cell
    have olf := ol.thaw
    have olz := ol.lt
    go_wp2
    refine region_late 6 [] (by kernel_rfl) (by kernel_rfl) (by rfl) ?_
    apply Exists.intro
    refine ⟨fun v hv hne => ?_, fun u6 hu => ?_⟩
    · simp only [List.take_succ_cons, List.take_zero]
      have doc := fun x => (oc.later (v := v) (T := []) (by first | (simp; done) | (simp; omega)) x).cell
      have dof := fun x => (of.later (v := v) (T := []) (by first | (simp; done) | (simp; omega)) x).cell
      have dol := fun x => (ol.later (v := v) (T := []) (by first | (simp; done) | (simp; omega)) x).cell
      repeat (go_big_quiet_step (fail))
      refine wpQuiet_nil ?_
      exact rfl
    · simp only [List.drop_succ_cons, List.drop_zero]
      replace oc := oc.below hu
      clear occ ocf ocz
      replace of := of.below hu
      clear ofc off ofz
      replace ol := ol.below hu
      clear olc olf olz
      have hkk := Keeps.of_below (T := []) hu
      replace hw := Below.hop hw hu
      clear hu
      refine late_mem (fun K hK => ?_)
      go_simp
      refine hK _ _ hkk (fun u6a hu2 => ?_)
      clear hK K
      replace hw := Below.hop hw hu2
      replace hkk := hkk.later hu2
      replace oc := oc.below hu2
      replace of := of.below hu2
      replace ol := ol.below hu2
      clear hu2
      refine late_mem (fun K hK => ?_)
      go_simp
      refine hK _ _ hkk (fun u6b hu2 => ?_)
      clear hK K
      replace hw := Below.hop hw hu2
      replace hkk := hkk.later hu2
      replace oc := oc.below hu2
      replace of := of.below hu2
      replace ol := ol.below hu2
      clear hu2
      replace hz := hw.size
      clear hkk
      refine late_nil ?_
      (try simp only [Act.put, List.setIfInBounds_toArray, List.set_cons_zero, List.set_cons_succ])
      have occ := oc.cell
      have ocf := oc.thaw
      have ocz := oc.lt
      have ofc := of.cell
      have off := of.thaw
      have ofz := of.lt
      have olc := ol.cell
      have olf := ol.thaw
      have olz := ol.lt
      go_wp2
      have hq0 := HSP.out.q0
      have hq1 := HSP.out.q1
      have ht1 := HSP.out.t1
      have ht2 := HSP.out.t2
      have hu1 := HSP.out.u1
      have hu2 := HSP.out.u2
      simp only [] at hq0 hq1
      have hz2 : ¬ 2 * cm = 0 := by omega
      have hw2 : IntKind.i64.wrap (2 * cm) = 2 * cm := IntWalk.i64_in _ (by omega)
      have hwt : IntKind.i64.wrap t = t := IntWalk.i64_in _ (by omega)
      have hwu : IntKind.i64.wrap u = u := IntWalk.i64_in _ (by omega)
      refine region_late 24 [] (by kernel_rfl) (by kernel_rfl) (by rfl) ?_
      apply Exists.intro
      refine ⟨fun v hv hne => ?_, fun u7 hu => ?_⟩
      · simp only [List.take_succ_cons, List.take_zero]
        have doc := fun x => (oc.later (v := v) (T := []) (by first | (simp; done) | (simp; omega)) x).cell
        have dof := fun x => (of.later (v := v) (T := []) (by first | (simp; done) | (simp; omega)) x).cell
        have dol := fun x => (ol.later (v := v) (T := []) (by first | (simp; done) | (simp; omega)) x).cell
        repeat (go_big_quiet_step ((first | (go_at_call 28; with_reducible exact lateB (callv (plane_Sub _ _ _ _ _ _ _) HG0.out)) | (go_at_call 28; with_reducible exact lateB (callv (plane_Sub _ _ _ _ _ _ _) HG1.out)) | (go_at_call 29; with_reducible exact lateB (callv (plane_Dot _ _ _ _ _ _ _) HD0.out)) | (go_at_call 29; with_reducible exact lateB (callv (plane_Dot _ _ _ _ _ _ _) HD1.out)))))
        refine wpQuiet_nil ?_
        exact rfl
      · simp only [List.drop_succ_cons, List.drop_zero]
        replace oc := oc.below hu
        clear occ ocf ocz
        replace of := of.below hu
        clear ofc off ofz
        replace ol := ol.below hu
        clear olc olf olz
        have hkk := Keeps.of_below (T := []) hu
        replace hw := Below.hop hw hu
        clear hu
        refine late_mem (fun K hK => ?_)
        go_simp
        refine hK _ _ hkk (fun u7a hu2 => ?_)
        clear hK K
        replace hw := Below.hop hw hu2
        replace hkk := hkk.later hu2
        replace oc := oc.below hu2
        replace of := of.below hu2
        replace ol := ol.below hu2
        clear hu2
        refine late_mem (fun K hK => ?_)
        go_simp
        refine hK _ _ hkk (fun u7b hu2 => ?_)
        clear hK K
        replace hw := Below.hop hw hu2
        replace hkk := hkk.later hu2
        replace oc := oc.below hu2
        replace of := of.below hu2
        replace ol := ol.below hu2
        clear hu2
        replace hz := hw.size
        clear hkk
        refine late_nil ?_
        (try simp only [Act.put, List.setIfInBounds_toArray, List.set_cons_zero, List.set_cons_succ])
        have occ := oc.cell
        have ocf := oc.thaw
        have ocz := oc.lt
        have ofc := of.cell
        have off := of.thaw
        have ofz := of.lt
        have olc := ol.cell
        have olf := ol.thaw
        have olz := ol.lt
        clear hq0 hq1 hw2 hwt hwu hz2
        go_wp2_with fail
        refine Calls.mono (callv (plane_Dot _ _ _ _ _ _ _) HUP.out) ?_
        rintro e w8 ⟨rfl, hbx⟩
        replace oc : Own w8 (cb) #[.int .i64 c0, .int .i64 c1, .int .i64 c2, .int .i64 cn0, .int .i64 cn1, .int .i64 cn2, .int .i64 cm, .int .i64 cd] := Own.below (by repeat' (first | ((refine Own.new ?_); (focus (first | rfl | omega | (simp; done) | (simp; omega)))) | assumption | refine Own.alloc ?_ _ | refine Own.drew ?_ | (refine Own.far ?_ ?_ _; rotate_left; (focus (first | rfl | omega | (simp; done) | (simp; omega)))))) hbx
        replace occ := oc.cell
        replace ocf := oc.thaw
        replace ocz := oc.lt
        replace of : Own w8 (w.heap.size) #[.int .i64 s0, .int .i64 s1, .int .i64 s2] := Own.below (by repeat' (first | ((refine Own.new ?_); (focus (first | rfl | omega | (simp; done) | (simp; omega)))) | assumption | refine Own.alloc ?_ _ | refine Own.drew ?_ | (refine Own.far ?_ ?_ _; rotate_left; (focus (first | rfl | omega | (simp; done) | (simp; omega)))))) hbx
        replace ofc := of.cell
        replace off := of.thaw
        replace ofz := of.lt
        replace ol : Own w8 (g) cs := Own.below (by repeat' (first | ((refine Own.new ?_); (focus (first | rfl | omega | (simp; done) | (simp; omega)))) | assumption | refine Own.alloc ?_ _ | refine Own.drew ?_ | (refine Own.far ?_ ?_ _; rotate_left; (focus (first | rfl | omega | (simp; done) | (simp; omega)))))) hbx
        replace olc := ol.cell
        replace olf := ol.thaw
        replace olz := ol.lt
        replace hw : Below w.heap.size w w8 := Below.hop (by repeat' (first | exact Below.refl _ _ | assumption | (refine Below.alloc ?_ ?_ _; rotate_left; (focus (first | rfl | omega | (simp; done) | (simp; omega)))) | (refine Below.setCell ?_ ?_ _; rotate_left; (focus (first | rfl | omega | (simp; done) | (simp; omega)))) | refine Below.drew ?_)) hbx
        replace hz := hw.size
        clear hbx
        have hma := HSP.out.ma
        have hmb := HSP.out.mb
        have hp0 : 0 ≤ p := by rw [← hma]; split <;> omega
        have hp9 : p ≤ 999 := by rw [← hma]; split <;> omega
        have hq0 : 0 ≤ q := by rw [← hmb]; split <;> omega
        have hq9 : q ≤ 999 := by rw [← hmb]; split <;> omega
        have hrs := HSP.out.rs
        have hP0 := HSP.out.p0
        have hP1 := HSP.out.p1
        have hP2 := HSP.out.p2
        have hP3 := HSP.out.p3
        simp only [] at hrs hP0 hP1 hP2 hP3
        go_wp2
        clear hma hmb hrs hP0 hP1 hP2 hP3
        obtain ⟨cP, hcP⟩ : ∃ c : Array Value, c = #[.int .i64 P0, .int .i64 P1, .int .i64 P2, .int .i64 P3] := ⟨_, rfl⟩
        have hcs : ∀ k, k < 4 → ∃ x0 x1 x2 pk, cs[k * 3]? = some (.int .i64 x0) ∧ cs[k * 3 + 1]? = some (.int .i64 x1) ∧ cs[k * 3 + 2]? = some (.int .i64 x2) ∧ cP[k]? = some (.int .i64 pk) ∧ combP [⟨a0, a1, a2⟩, ⟨b0, b1, b2⟩, ⟨d0, d1, d2⟩, ⟨e0, e1, e2⟩] [P0, P1, P2, P3] (k + 1) = vSum (combP [⟨a0, a1, a2⟩, ⟨b0, b1, b2⟩, ⟨d0, d1, d2⟩, ⟨e0, e1, e2⟩] [P0, P1, P2, P3] k) pk ⟨x0, x1, x2⟩ := fun k hk => by
          rw [hcP]
          rcases (show k = 0 ∨ k = 1 ∨ k = 2 ∨ k = 3 by omega) with rfl | rfl | rfl | rfl
          · exact ⟨a0, a1, a2, P0, hc0, hc1, hc2, rfl, rfl⟩
          · exact ⟨b0, b1, b2, P1, hc3, hc4, hc5, rfl, rfl⟩
          · exact ⟨d0, d1, d2, P2, hc6, hc7, hc8, rfl, rfl⟩
          · exact ⟨e0, e1, e2, P3, hc9, hc10, hc11, rfl, rfl⟩
        obtain ⟨F0, hF0⟩ : ∃ F : Nat → V3, F = combP [⟨a0, a1, a2⟩, ⟨b0, b1, b2⟩, ⟨d0, d1, d2⟩, ⟨e0, e1, e2⟩] [P0, P1, P2, P3] := ⟨_, rfl⟩
        rw [← hF0] at hcs
        have HF4 : Hid (F0 4 = ⟨z0, z1, z2⟩) := Lib.hid (by rw [hF0]; exact HSP.out.tot)
        have HF0 : Hid (F0 0 = ⟨0, 0, 0⟩) := Lib.hid (by rw [hF0]; rfl)
        have HCS := Lib.hid hcs
        clear hcs hF0 hc0 hc1 hc2 hc3 hc4 hc5 hc6 hc7 hc8 hc9 hc10 hc11
        have qopoc : cb < w8.heap.size := ocz
        have qopof : w.heap.size < w8.heap.size := ofz
        have qopol : g < w8.heap.size := olz
        have w9s : (w8.alloc (.cells #[.int .i64 P0, .int .i64 P1, .int .i64 P2, .int .i64 P3] 87)).heap.size = w8.heap.size + 1 := by simp
        have w9e := Lib.hid w9s
        clear w9s
        have op : Own ((w8.alloc (.cells #[.int .i64 P0, .int .i64 P1, .int .i64 P2, .int .i64 P3] 87))) (w8.heap.size) #[.int .i64 P0, .int .i64 P1, .int .i64 P2, .int .i64 P3] := Own.new rfl
        replace oc : Own ((w8.alloc (.cells #[.int .i64 P0, .int .i64 P1, .int .i64 P2, .int .i64 P3] 87))) (cb) #[.int .i64 c0, .int .i64 c1, .int .i64 c2, .int .i64 cn0, .int .i64 cn1, .int .i64 cn2, .int .i64 cm, .int .i64 cd] := (by repeat' (first | ((refine Own.new ?_); (focus (first | rfl | omega | (simp; done) | (simp; omega)))) | assumption | refine Own.alloc ?_ _ | refine Own.drew ?_ | (refine Own.far ?_ ?_ _; rotate_left; (focus (first | rfl | omega | (simp; done) | (simp; omega))))))
        clear occ ocf ocz
        replace of : Own ((w8.alloc (.cells #[.int .i64 P0, .int .i64 P1, .int .i64 P2, .int .i64 P3] 87))) (w.heap.size) #[.int .i64 s0, .int .i64 s1, .int .i64 s2] := (by repeat' (first | ((refine Own.new ?_); (focus (first | rfl | omega | (simp; done) | (simp; omega)))) | assumption | refine Own.alloc ?_ _ | refine Own.drew ?_ | (refine Own.far ?_ ?_ _; rotate_left; (focus (first | rfl | omega | (simp; done) | (simp; omega))))))
        clear ofc off ofz
        replace ol : Own ((w8.alloc (.cells #[.int .i64 P0, .int .i64 P1, .int .i64 P2, .int .i64 P3] 87))) (g) cs := (by repeat' (first | ((refine Own.new ?_); (focus (first | rfl | omega | (simp; done) | (simp; omega)))) | assumption | refine Own.alloc ?_ _ | refine Own.drew ?_ | (refine Own.far ?_ ?_ _; rotate_left; (focus (first | rfl | omega | (simp; done) | (simp; omega))))))
        clear olc olf olz
        replace hw : Below w.heap.size w ((w8.alloc (.cells #[.int .i64 P0, .int .i64 P1, .int .i64 P2, .int .i64 P3] 87))) := (by repeat' (first | exact Below.refl _ _ | assumption | (refine Below.alloc ?_ ?_ _; rotate_left; (focus (first | rfl | omega | (simp; done) | (simp; omega)))) | (refine Below.setCell ?_ ?_ _; rotate_left; (focus (first | rfl | omega | (simp; done) | (simp; omega)))) | refine Below.drew ?_))
        generalize (w8.alloc (.cells #[.int .i64 P0, .int .i64 P1, .int .i64 P2, .int .i64 P3] 87)) = w9 at *
        have occ := oc.cell
        have ocf := oc.thaw
        have ocz := oc.lt
        have ofc := of.cell
        have off := of.thaw
        have ofz := of.lt
        have olc := ol.cell
        have olf := ol.thaw
        have olz := ol.lt
        have opc := op.cell
        have opf := op.thaw
        have opz := op.lt
        replace hz := hw.size
        generalize w8.heap.size = pb at *
        rw [← hcP] at op opc
        clear hcP
        have qotoc : cb < pb + 1 := by have := ocz; have := w9e.out; omega
        have qotof : w.heap.size < pb + 1 := by have := ofz; have := w9e.out; omega
        have qotol : g < pb + 1 := by have := olz; have := w9e.out; omega
        have qotop : pb < pb + 1 := by have := opz; have := w9e.out; omega
        have w10s : (w9.alloc (.cells #[.int .i64 0, .int .i64 0, .int .i64 0] 24)).heap.size = pb + 1 + 1 := by rw [World.size_alloc, w9e.out]
        have w10e := Lib.hid w10s
        clear w10s
        have ot : Own ((w9.alloc (.cells #[.int .i64 0, .int .i64 0, .int .i64 0] 24))) (pb + 1) #[.int .i64 0, .int .i64 0, .int .i64 0] := Own.new w9e.out.symm
        replace oc : Own ((w9.alloc (.cells #[.int .i64 0, .int .i64 0, .int .i64 0] 24))) (cb) #[.int .i64 c0, .int .i64 c1, .int .i64 c2, .int .i64 cn0, .int .i64 cn1, .int .i64 cn2, .int .i64 cm, .int .i64 cd] := (by repeat' (first | ((refine Own.new ?_); (focus (first | rfl | omega | (simp; done) | (simp; omega)))) | assumption | refine Own.alloc ?_ _ | refine Own.drew ?_ | (refine Own.far ?_ ?_ _; rotate_left; (focus (first | rfl | omega | (simp; done) | (simp; omega))))))
        clear occ ocf ocz
        replace of : Own ((w9.alloc (.cells #[.int .i64 0, .int .i64 0, .int .i64 0] 24))) (w.heap.size) #[.int .i64 s0, .int .i64 s1, .int .i64 s2] := (by repeat' (first | ((refine Own.new ?_); (focus (first | rfl | omega | (simp; done) | (simp; omega)))) | assumption | refine Own.alloc ?_ _ | refine Own.drew ?_ | (refine Own.far ?_ ?_ _; rotate_left; (focus (first | rfl | omega | (simp; done) | (simp; omega))))))
        clear ofc off ofz
        replace ol : Own ((w9.alloc (.cells #[.int .i64 0, .int .i64 0, .int .i64 0] 24))) (g) cs := (by repeat' (first | ((refine Own.new ?_); (focus (first | rfl | omega | (simp; done) | (simp; omega)))) | assumption | refine Own.alloc ?_ _ | refine Own.drew ?_ | (refine Own.far ?_ ?_ _; rotate_left; (focus (first | rfl | omega | (simp; done) | (simp; omega))))))
        clear olc olf olz
        replace op : Own ((w9.alloc (.cells #[.int .i64 0, .int .i64 0, .int .i64 0] 24))) (pb) cP := (by repeat' (first | ((refine Own.new ?_); (focus (first | rfl | omega | (simp; done) | (simp; omega)))) | assumption | refine Own.alloc ?_ _ | refine Own.drew ?_ | (refine Own.far ?_ ?_ _; rotate_left; (focus (first | rfl | omega | (simp; done) | (simp; omega))))))
        clear opc opf opz
        replace hw : Below w.heap.size w ((w9.alloc (.cells #[.int .i64 0, .int .i64 0, .int .i64 0] 24))) := (by repeat' (first | exact Below.refl _ _ | assumption | (refine Below.alloc ?_ ?_ _; rotate_left; (focus (first | rfl | omega | (simp; done) | (simp; omega)))) | (refine Below.setCell ?_ ?_ _; rotate_left; (focus (first | rfl | omega | (simp; done) | (simp; omega)))) | refine Below.drew ?_))
        generalize (w9.alloc (.cells #[.int .i64 0, .int .i64 0, .int .i64 0] 24)) = w10 at *
        have occ := oc.cell
        have ocf := oc.thaw
        have ocz := oc.lt
        have ofc := of.cell
        have off := of.thaw
        have ofz := of.lt
        have olc := ol.cell
        have olf := ol.thaw
        have olz := ol.lt
        have opc := op.cell
        have opf := op.thaw
        have opz := op.lt
        have otc := ot.cell
        have otf := ot.thaw
        have otz := ot.lt
        replace hz := hw.size
        have hFz : Own w10 (pb + 1) (#[.int .i64 (F0 0).x, .int .i64 (F0 0).y, .int .i64 (F0 0).z]) := by rw [HF0.out]; exact ot
        clear ot otc otf otz
        have ot := hFz
        clear hFz
        have otc := ot.cell
        have otf := ot.thaw
        have otz := ot.lt
        go_loopw [146] (fun i wr => ∃ k : Nat, k ≤ 4 ∧ i = .int .i64 k ∧ Below w.heap.size w wr ∧ Own wr (cb) #[.int .i64 c0, .int .i64 c1, .int .i64 c2, .int .i64 cn0, .int .i64 cn1, .int .i64 cn2, .int .i64 cm, .int .i64 cd] ∧ Own wr (w.heap.size) #[.int .i64 s0, .int .i64 s1, .int .i64 s2] ∧ Own wr (g) cs ∧ Own wr (pb) cP ∧ Own wr (pb + 1) #[.int .i64 (F0 k).x, .int .i64 (F0 k).y, .int .i64 (F0 k).z]) (fun i _ => 4 - (intOf i).toNat)
        case atStart => exact ⟨0, by omega, rfl, hw, oc, of, ol, op, ot⟩
        case round =>
          clear hw hz oc occ ocf ocz of ofc off ofz ol olc olf olz op opc opf opz ot otc otf otz
          obtain ⟨k, hk, rfl, hw, oc, of, ol, op, ot⟩ := hrel
          have hz := hw.size
          have occ := oc.cell
          have ocf := oc.thaw
          have ocz := oc.lt
          have ofc := of.cell
          have off := of.thaw
          have ofz := of.lt
          have olc := ol.cell
          have olf := ol.thaw
          have olz := ol.lt
          have opc := op.cell
          have opf := op.thaw
          have opz := op.lt
          have otc := ot.cell
          have otf := ot.thaw
          have otz := ot.lt
          by_cases hlt : k < 4
          · have hlt2 : (k : Int) < 4 := by omega
            obtain ⟨x0, x1, x2, pk, hx0, hx1, hx2, hpk, hst⟩ := HCS.out k hlt
            obtain ⟨⟨y0, y1, y2⟩, hY⟩ : ∃ Y, F0 (k + 1) = Y := ⟨_, rfl⟩
            have HFY := Lib.hid hY
            obtain ⟨⟨m0, m1, m2⟩, hf⟩ : ∃ f, F0 k = f := ⟨_, rfl⟩
            rw [hf] at ot otc
            simp only [] at ot otc
            rw [hY, hf] at hst
            have HS := Lib.hid (congrArg V3.v hst.symm)
            clear hst hY hf
            go_wp2
            have qfx : pb + 1 < wr.heap.size := otz
            have wqs : (wr.alloc (.cells #[.int .i64 x0, .int .i64 x1, .int .i64 x2] 24)).heap.size = wr.heap.size + 1 := by simp
            have wqe := Lib.hid wqs
            clear wqs
            have ox : Own ((wr.alloc (.cells #[.int .i64 x0, .int .i64 x1, .int .i64 x2] 24))) (wr.heap.size) #[.int .i64 x0, .int .i64 x1, .int .i64 x2] := Own.new rfl
            replace oc : Own ((wr.alloc (.cells #[.int .i64 x0, .int .i64 x1, .int .i64 x2] 24))) (cb) #[.int .i64 c0, .int .i64 c1, .int .i64 c2, .int .i64 cn0, .int .i64 cn1, .int .i64 cn2, .int .i64 cm, .int .i64 cd] := (by repeat' (first | ((refine Own.new ?_); (focus (first | rfl | omega | (simp; done) | (simp; omega)))) | assumption | refine Own.alloc ?_ _ | refine Own.drew ?_ | (refine Own.far ?_ ?_ _; rotate_left; (focus (first | rfl | omega | (simp; done) | (simp; omega))))))
            clear occ ocf ocz
            replace of : Own ((wr.alloc (.cells #[.int .i64 x0, .int .i64 x1, .int .i64 x2] 24))) (w.heap.size) #[.int .i64 s0, .int .i64 s1, .int .i64 s2] := (by repeat' (first | ((refine Own.new ?_); (focus (first | rfl | omega | (simp; done) | (simp; omega)))) | assumption | refine Own.alloc ?_ _ | refine Own.drew ?_ | (refine Own.far ?_ ?_ _; rotate_left; (focus (first | rfl | omega | (simp; done) | (simp; omega))))))
            clear ofc off ofz
            replace ol : Own ((wr.alloc (.cells #[.int .i64 x0, .int .i64 x1, .int .i64 x2] 24))) (g) cs := (by repeat' (first | ((refine Own.new ?_); (focus (first | rfl | omega | (simp; done) | (simp; omega)))) | assumption | refine Own.alloc ?_ _ | refine Own.drew ?_ | (refine Own.far ?_ ?_ _; rotate_left; (focus (first | rfl | omega | (simp; done) | (simp; omega))))))
            clear olc olf olz
            replace op : Own ((wr.alloc (.cells #[.int .i64 x0, .int .i64 x1, .int .i64 x2] 24))) (pb) cP := (by repeat' (first | ((refine Own.new ?_); (focus (first | rfl | omega | (simp; done) | (simp; omega)))) | assumption | refine Own.alloc ?_ _ | refine Own.drew ?_ | (refine Own.far ?_ ?_ _; rotate_left; (focus (first | rfl | omega | (simp; done) | (simp; omega))))))
            clear opc opf opz
            replace ot : Own ((wr.alloc (.cells #[.int .i64 x0, .int .i64 x1, .int .i64 x2] 24))) (pb + 1) #[.int .i64 m0, .int .i64 m1, .int .i64 m2] := (by repeat' (first | ((refine Own.new ?_); (focus (first | rfl | omega | (simp; done) | (simp; omega)))) | assumption | refine Own.alloc ?_ _ | refine Own.drew ?_ | (refine Own.far ?_ ?_ _; rotate_left; (focus (first | rfl | omega | (simp; done) | (simp; omega))))))
            clear otc otf otz
            replace hw : Below w.heap.size w ((wr.alloc (.cells #[.int .i64 x0, .int .i64 x1, .int .i64 x2] 24))) := (by repeat' (first | exact Below.refl _ _ | assumption | (refine Below.alloc ?_ ?_ _; rotate_left; (focus (first | rfl | omega | (simp; done) | (simp; omega)))) | (refine Below.setCell ?_ ?_ _; rotate_left; (focus (first | rfl | omega | (simp; done) | (simp; omega)))) | refine Below.drew ?_))
            generalize (wr.alloc (.cells #[.int .i64 x0, .int .i64 x1, .int .i64 x2] 24)) = wq at *
            have occ := oc.cell
            have ocf := oc.thaw
            have ocz := oc.lt
            have ofc := of.cell
            have off := of.thaw
            have ofz := of.lt
            have olc := ol.cell
            have olf := ol.thaw
            have olz := ol.lt
            have opc := op.cell
            have opf := op.thaw
            have opz := op.lt
            have otc := ot.cell
            have otf := ot.thaw
            have otz := ot.lt
            have oxc := ox.cell
            have oxf := ox.thaw
            have oxz := ox.lt
            replace hz := hw.size
            refine region_sink 6 [] (by kernel_rfl) (by kernel_rfl) (by rfl) ?_
            apply Exists.intro
            refine ⟨fun v hv hne => ?_, fun u8 hu => ?_⟩
            · simp only [List.take_succ_cons, List.take_zero]
              have doc := fun x => (oc.later (v := v) (T := []) (by first | (simp; done) | (simp; omega)) x).cell
              have dof := fun x => (of.later (v := v) (T := []) (by first | (simp; done) | (simp; omega)) x).cell
              have dol := fun x => (ol.later (v := v) (T := []) (by first | (simp; done) | (simp; omega)) x).cell
              have dop := fun x => (op.later (v := v) (T := []) (by first | (simp; done) | (simp; omega)) x).cell
              have dot := fun x => (ot.later (v := v) (T := []) (by first | (simp; done) | (simp; omega)) x).cell
              have dox := fun x => (ox.later (v := v) (T := []) (by first | (simp; done) | (simp; omega)) x).cell
              have dpk := fun x => (dop x k).trans hpk
              repeat (go_big_quiet_step ((first | (go_at_call 64; with_reducible exact lateB (callv (law25_sum _ _ _ _ _ _ _ _) HS.out)))))
              refine wpQuiet_nil ?_
              exact rfl
            · simp only [List.drop_succ_cons, List.drop_zero]
              replace oc := oc.below hu
              clear occ ocf ocz
              replace of := of.below hu
              clear ofc off ofz
              replace ol := ol.below hu
              clear olc olf olz
              replace op := op.below hu
              clear opc opf opz
              replace ot := ot.below hu
              clear otc otf otz
              replace ox := ox.below hu
              clear oxc oxf oxz
              replace hw := Below.hop hw hu
              replace hz := hw.size
              clear hu hx0 hx1 hx2 hpk
              have occ := oc.cell
              have ocf := oc.thaw
              have ocz := oc.lt
              have ofc := of.cell
              have off := of.thaw
              have ofz := of.lt
              have olc := ol.cell
              have olf := ol.thaw
              have olz := ol.lt
              have opc := op.cell
              have opf := op.thaw
              have opz := op.lt
              have otc := ot.cell
              have otf := ot.thaw
              have otz := ot.lt
              have oxc := ox.cell
              have oxf := ox.thaw
              have oxz := ox.lt
              refine sink_all (by kernel_rfl) (fun K hK => ?_)
              go_simp
              refine hK _ _ ?_
              clear hK K
              (try simp only [Act.put])
              have qcb : w.heap.size ≤ pb + 1 := by omega
              have tot : Own (((((((u8).setCell ⟨pb + 1, 0, none⟩ (.int .i64 y0))).setCell ⟨pb + 1, 1, none⟩ (.int .i64 y1))).setCell ⟨pb + 1, 2, none⟩ (.int .i64 y2))) (pb + 1) #[.int .i64 y0, .int .i64 y1, .int .i64 y2] := (((ot.set 0 _).set 1 _).set 2 _)
              clear otc otf otz ot
              replace oc : Own (((((((u8).setCell ⟨pb + 1, 0, none⟩ (.int .i64 y0))).setCell ⟨pb + 1, 1, none⟩ (.int .i64 y1))).setCell ⟨pb + 1, 2, none⟩ (.int .i64 y2))) (cb) #[.int .i64 c0, .int .i64 c1, .int .i64 c2, .int .i64 cn0, .int .i64 cn1, .int .i64 cn2, .int .i64 cm, .int .i64 cd] := (((oc.far (by first | (simp; done) | (simp; omega)) _).far (by first | (simp; done) | (simp; omega)) _).far (by first | (simp; done) | (simp; omega)) _)
              clear occ ocf ocz
              replace of : Own (((((((u8).setCell ⟨pb + 1, 0, none⟩ (.int .i64 y0))).setCell ⟨pb + 1, 1, none⟩ (.int .i64 y1))).setCell ⟨pb + 1, 2, none⟩ (.int .i64 y2))) (w.heap.size) #[.int .i64 s0, .int .i64 s1, .int .i64 s2] := (((of.far (by first | (simp; done) | (simp; omega)) _).far (by first | (simp; done) | (simp; omega)) _).far (by first | (simp; done) | (simp; omega)) _)
              clear ofc off ofz
              replace ol : Own (((((((u8).setCell ⟨pb + 1, 0, none⟩ (.int .i64 y0))).setCell ⟨pb + 1, 1, none⟩ (.int .i64 y1))).setCell ⟨pb + 1, 2, none⟩ (.int .i64 y2))) (g) cs := (((ol.far (by first | (simp; done) | (simp; omega)) _).far (by first | (simp; done) | (simp; omega)) _).far (by first | (simp; done) | (simp; omega)) _)
              clear olc olf olz
              replace op : Own (((((((u8).setCell ⟨pb + 1, 0, none⟩ (.int .i64 y0))).setCell ⟨pb + 1, 1, none⟩ (.int .i64 y1))).setCell ⟨pb + 1, 2, none⟩ (.int .i64 y2))) (pb) cP := (((op.far (by first | (simp; done) | (simp; omega)) _).far (by first | (simp; done) | (simp; omega)) _).far (by first | (simp; done) | (simp; omega)) _)
              clear opc opf opz
              replace ox : Own (((((((u8).setCell ⟨pb + 1, 0, none⟩ (.int .i64 y0))).setCell ⟨pb + 1, 1, none⟩ (.int .i64 y1))).setCell ⟨pb + 1, 2, none⟩ (.int .i64 y2))) (wr.heap.size) #[.int .i64 x0, .int .i64 x1, .int .i64 x2] := (((ox.far (by first | (simp; done) | (simp; omega)) _).far (by first | (simp; done) | (simp; omega)) _).far (by first | (simp; done) | (simp; omega)) _)
              clear oxc oxf oxz
              replace hw : Below w.heap.size w (((((((u8).setCell ⟨pb + 1, 0, none⟩ (.int .i64 y0))).setCell ⟨pb + 1, 1, none⟩ (.int .i64 y1))).setCell ⟨pb + 1, 2, none⟩ (.int .i64 y2))) := (((hw.setCell (by first | (simp; done) | (simp; omega)) _).setCell (by first | (simp; done) | (simp; omega)) _).setCell (by first | (simp; done) | (simp; omega)) _)
              have ot := tot
              clear tot
              have w11s : (((((((u8).setCell ⟨pb + 1, 0, none⟩ (.int .i64 y0))).setCell ⟨pb + 1, 1, none⟩ (.int .i64 y1))).setCell ⟨pb + 1, 2, none⟩ (.int .i64 y2))).heap.size = u8.heap.size := by simp
              generalize ((((((u8).setCell ⟨pb + 1, 0, none⟩ (.int .i64 y0))).setCell ⟨pb + 1, 1, none⟩ (.int .i64 y1))).setCell ⟨pb + 1, 2, none⟩ (.int .i64 y2)) = w11 at *
              have w11e := Lib.hid w11s
              clear w11s
              have occ := oc.cell
              have ocf := oc.thaw
              have ocz := oc.lt
              have ofc := of.cell
              have off := of.thaw
              have ofz := of.lt
              have olc := ol.cell
              have olf := ol.thaw
              have olz := ol.lt
              have opc := op.cell
              have opf := op.thaw
              have opz := op.lt
              have oxc := ox.cell
              have oxf := ox.thaw
              have oxz := ox.lt
              have otc := ot.cell
              have otf := ot.thaw
              have otz := ot.lt
              replace hz := hw.size
              refine sink_nil ?_
              (try simp only [Act.put, List.setIfInBounds_toArray, List.set_cons_zero, List.set_cons_succ])
              have ot2 : Own w11 (pb + 1) #[.int .i64 (F0 (k + 1)).x, .int .i64 (F0 (k + 1)).y, .int .i64 (F0 (k + 1)).z] := by rw [HFY.out]; exact ot
              replace ot := ot2
              clear otc otf otz ot2
              go_wp2
              go_roundw
              case rel => exact ⟨k + 1, by omega, by go_num, hw, oc, of, ol, op, ot⟩
              case measure => simp [intOf]; omega
          · obtain rfl : k = 4 := by omega
            rw [HF4.out] at ot otc
            simp only [] at ot otc
            by_cases hrs0 : 0 ≤ RS
            · have HB2 := Lib.hid (HB.out.trans (congrArg Value.bool (decide_eq_true hrs0)))
              have hrs := HSP.out.rs
              simp only [] at hrs
              go_wp2
              refine region_late 20 [] (by kernel_rfl) (by kernel_rfl) (by rfl) ?_
              apply Exists.intro
              refine ⟨fun v hv hne => ?_, fun u hu => ?_⟩
              · simp only [List.take_succ_cons, List.take_zero]
                have doc := fun x => (oc.later (v := v) (T := []) (by first | (simp; done) | (simp; omega)) x).cell
                have dof := fun x => (of.later (v := v) (T := []) (by first | (simp; done) | (simp; omega)) x).cell
                have dol := fun x => (ol.later (v := v) (T := []) (by first | (simp; done) | (simp; omega)) x).cell
                have dop := fun x => (op.later (v := v) (T := []) (by first | (simp; done) | (simp; omega)) x).cell
                have dot := fun x => (ot.later (v := v) (T := []) (by first | (simp; done) | (simp; omega)) x).cell
                repeat (go_big_quiet_step ((first | (go_at_call 64; with_reducible exact lateB (callv (law25_sum _ _ _ _ _ _ _ _) HW.out)) | (go_at_call 59; with_reducible exact lateB (callv (contact_Has _ _ _ _ _ _ _ _ _ _ _ _) HB2.out)))))
                refine wpQuiet_nil ?_
                exact rfl
              · simp only [List.drop_succ_cons, List.drop_zero]
                refine late_mem (fun K hK => ?_)
                go_simp
                refine hK _ _ (Keeps.of_below hu) (fun u2 hu2 => ?_)
                clear hK K
                replace oc := (oc.below hu).below hu2
                replace of := (of.below hu).below hu2
                replace ol := (ol.below hu).below hu2
                replace op := (op.below hu).below hu2
                replace ot := (ot.below hu).below hu2
                replace hw := Below.hop (Below.hop hw hu) hu2
                replace hz := hw.size
                clear hu hu2
                refine late_nil ?_
                (try simp only [Act.put, List.setIfInBounds_toArray, List.set_cons_zero, List.set_cons_succ])
                have occ := oc.cell
                have ocf := oc.thaw
                have ocz := oc.lt
                have ofc := of.cell
                have off := of.thaw
                have ofz := of.lt
                have olc := ol.cell
                have olf := ol.thaw
                have olz := ol.lt
                have opc := op.cell
                have opf := op.thaw
                have opz := op.lt
                have otc := ot.cell
                have otf := ot.thaw
                have otz := ot.lt
                go_wp2
                go_ret
                exact ⟨rfl, hw⟩
            · have HB2 := Lib.hid (HB.out.trans (congrArg Value.bool (decide_eq_false hrs0)))
              have hrs := HSP.out.rs
              simp only [] at hrs
              go_wp2
              refine region_late 20 [] (by kernel_rfl) (by kernel_rfl) (by rfl) ?_
              apply Exists.intro
              refine ⟨fun v hv hne => ?_, fun u hu => ?_⟩
              · simp only [List.take_succ_cons, List.take_zero]
                have doc := fun x => (oc.later (v := v) (T := []) (by first | (simp; done) | (simp; omega)) x).cell
                have dof := fun x => (of.later (v := v) (T := []) (by first | (simp; done) | (simp; omega)) x).cell
                have dol := fun x => (ol.later (v := v) (T := []) (by first | (simp; done) | (simp; omega)) x).cell
                have dop := fun x => (op.later (v := v) (T := []) (by first | (simp; done) | (simp; omega)) x).cell
                have dot := fun x => (ot.later (v := v) (T := []) (by first | (simp; done) | (simp; omega)) x).cell
                repeat (go_big_quiet_step ((first | (go_at_call 64; with_reducible exact lateB (callv (law25_sum _ _ _ _ _ _ _ _) HW.out)) | (go_at_call 59; with_reducible exact lateB (callv (contact_Has _ _ _ _ _ _ _ _ _ _ _ _) HB2.out)))))
                refine wpQuiet_nil ?_
                exact rfl
              · simp only [List.drop_succ_cons, List.drop_zero]
                refine late_mem (fun K hK => ?_)
                go_simp
                refine hK _ _ (Keeps.of_below hu) (fun u2 hu2 => ?_)
                clear hK K
                replace oc := (oc.below hu).below hu2
                replace of := (of.below hu).below hu2
                replace ol := (ol.below hu).below hu2
                replace op := (op.below hu).below hu2
                replace ot := (ot.below hu).below hu2
                replace hw := Below.hop (Below.hop hw hu) hu2
                replace hz := hw.size
                clear hu hu2
                refine late_nil ?_
                (try simp only [Act.put, List.setIfInBounds_toArray, List.set_cons_zero, List.set_cons_succ])
                have occ := oc.cell
                have ocf := oc.thaw
                have ocz := oc.lt
                have ofc := of.cell
                have off := of.thaw
                have ofz := of.lt
                have olc := ol.cell
                have olf := ol.thaw
                have olz := ol.lt
                have opc := op.cell
                have opf := op.thaw
                have opz := op.lt
                have otc := ot.cell
                have otf := ot.thaw
                have otz := ot.lt
                go_wp2
                go_ret
                refine ⟨?_, hw⟩
                rw [show decide (0 ≤ RS) = false from decide_eq_false (by omega)]
                rfl
end Go.Proofs.Ythijnggeoinlfaa
