/- Package hull and its reference: Box. -/
import Derived.Test.YtccnlnkgoaelpaaSink
import Derived.Test.YtccnlnkgoaelpaaMem
import Derived.Test.YtccnlnkgoaelpaaHullR3
namespace Go.Proofs.Ytccnlnkgoaelpaa
open Go.RowKit Go.Shelf

def loV (a b : V3) : V3 := ⟨min a.x b.x, min a.y b.y, min a.z b.z⟩
def hiV (a b : V3) : V3 := ⟨max a.x b.x, max a.y b.y, max a.z b.z⟩
/-- The least and the greatest coordinates of the first k vectors (and of the first one). -/
def boxLo (L : List V3) : Nat → V3
  | 0 => vAt L 0
  | k + 1 => loV (boxLo L k) (vAt L k)
def boxHi (L : List V3) : Nat → V3
  | 0 => vAt L 0
  | k + 1 => hiV (boxHi L k) (vAt L k)
def hBoxLo (L : List V3) : V3 := if L.length = 0 then ⟨0, 0, 0⟩ else boxLo L L.length
def hBoxHi (L : List V3) : V3 := if L.length = 0 then ⟨0, 0, 0⟩ else boxHi L L.length
theorem boxLo_step {L : List V3} {k : Nat} {l0 l1 l2 x y z : Int} (h : boxLo L k = ⟨l0, l1, l2⟩) (hv : vAt L k = ⟨x, y, z⟩) : boxLo L (k + 1) = ⟨min l0 x, min l1 y, min l2 z⟩ := by
  rw [boxLo, h, hv]; rfl
theorem boxHi_step {L : List V3} {k : Nat} {l0 l1 l2 x y z : Int} (h : boxHi L k = ⟨l0, l1, l2⟩) (hv : vAt L k = ⟨x, y, z⟩) : boxHi L (k + 1) = ⟨max l0 x, max l1 y, max l2 z⟩ := by
  rw [boxHi, h, hv]; rfl
/-- The end of a function with two results in blocks of its own. -/
theorem retC2 {P : Program} {fn : Func} {R : Ending → World → Prop} {a : Act} {w : World} {v : Value} {b d : Nat} {cs ds : Array Value} (ho : Own w b cs) (hp : Own w d ds)
    (hr : ∀ w' : World, (∀ i, w'.cell? ⟨b, i, none⟩ = cs[i]?) → (∀ i, w'.cell? ⟨d, i, none⟩ = ds[i]?) → (results fn a.tmps).run P w' = .ok v w') (hd : a.defers = []) (hR : R (.returned v) w) : bodyPost P fn R .ret a w :=
  bodyPost_ret (hr w ho.cell hp.cell) hd hR
set_option maxRecDepth 100000 in
set_option maxHeartbeats 4000000 in
theorem hull_Box {w : World} {A : Option Addr} {n : Nat} {L : List V3} (c : Nat) (hv : VecsAt w A n L) :
    Calls Try.prog 25 #[.slice A n c] w fun e w' => e = .returned (.tuple #[vV (hBoxLo L).x (hBoxLo L).y (hBoxLo L).z, vV (hBoxHi L).x (hBoxHi L).y (hBoxHi L).z, .bool (decide (0 < n))]) ∧ Below w.heap.size w w' := by
  have hl := hv.len
  have hmax := hv.max
  obtain ⟨⟨r0, r1, r2⟩, hlo⟩ : ∃ r, hBoxLo L = r := ⟨_, rfl⟩
  obtain ⟨⟨s0, s1, s2⟩, hhi⟩ : ∃ r, hBoxHi L = r := ⟨_, rfl⟩
  rw [hlo, hhi]
  have HLO := Lib.hid hlo
  have HHI := Lib.hid hhi
  have HV := Lib.hid hv
  have HL := Lib.hid hl
  clear hv hl hlo hhi
  have hmi : (n : Int) ≤ 9223372036854775807 := by omega
  go_enter Try.func25, Try.ntmps25
  rcases Nat.eq_zero_or_pos n with h0 | h0
  · obtain rfl := h0
    have e1 := HLO.out
    have e2 := HHI.out
    unfold hBoxLo at e1
    unfold hBoxHi at e2
    rw [if_pos HL.out] at e1 e2
    injection e1 with a0 a1 a2
    injection e2 with b0 b1 b2
    subst a0 a1 a2 b0 b1 b2
    clear HLO HHI HV HL
    go_wp2
    refine retC2 (b := w.heap.size) (d := w.heap.size + 1) (v := .tuple #[vV 0 0 0, vV 0 0 0, .bool false]) (by repeat' (first | (with_reducible assumption) | ((with_reducible apply Own.new); (focus (first | rfl | omega | (simp; done) | (simp; omega)))) | (with_reducible apply Own.set) | (with_reducible apply Own.alloc) | (with_reducible apply Own.drew) | ((with_reducible apply Own.far); case hp => (focus (first | rfl | omega | (simp; done) | (simp; omega)))))) (by repeat' (first | (with_reducible assumption) | ((with_reducible apply Own.new); (focus (first | rfl | omega | (simp; done) | (simp; omega)))) | (with_reducible apply Own.set) | (with_reducible apply Own.alloc) | (with_reducible apply Own.drew) | ((with_reducible apply Own.far); case hp => (focus (first | rfl | omega | (simp; done) | (simp; omega)))))) (fun w' hw' hw2 => by simp [results, Try.results25, go_sem, hw', hw2]) rfl ⟨rfl, (by repeat' (first | exact Below.refl _ _ | assumption | (refine Below.alloc ?_ ?_ _; rotate_left; (focus (first | rfl | omega | (simp; done) | (simp; omega)))) | (refine Below.setCell ?_ ?_ _; rotate_left; (focus (first | rfl | omega | (simp; done) | (simp; omega)))) | refine Below.drew ?_))⟩
  · have hz0 : (0 : Int) < (n : Int) := by omega
    have hrl : boxLo L n = ⟨r0, r1, r2⟩ := by
      have q := HLO.out
      unfold hBoxLo at q
      rw [if_neg (by rw [HL.out]; omega), HL.out] at q
      exact q
    have hrh : boxHi L n = ⟨s0, s1, s2⟩ := by
      have q := HHI.out
      unfold hBoxHi at q
      rw [if_neg (by rw [HL.out]; omega), HL.out] at q
      exact q
    have HRL := Lib.hid hrl
    have HRH := Lib.hid hrh
    clear hrl hrh HLO HHI
    have hdec : decide (0 < n) = true := by simpa using h0
    rw [hdec]
    clear hdec
    obtain ⟨⟨x, y, z⟩, hX⟩ : ∃ X, vAt L 0 = X := ⟨_, rfl⟩
    obtain ⟨b, off, hA, hb, a1, a2, a3⟩ := HV.out.cells h0 hX
    subst hA
    simp only [Nat.zero_mul, Nat.add_zero] at a1 a2 a3
    have HX := Lib.hid hX
    clear hX
    go_wp2
    have q1 : Own ((w.alloc (.cells #[.int .i64 0, .int .i64 0, .int .i64 0] 31)).alloc (.cells #[.int .i64 0, .int .i64 0, .int .i64 0] 31)) w.heap.size #[.int .i64 0, .int .i64 0, .int .i64 0] := (Own.new rfl).alloc _
    have q2 : Own ((w.alloc (.cells #[.int .i64 0, .int .i64 0, .int .i64 0] 31)).alloc (.cells #[.int .i64 0, .int .i64 0, .int .i64 0] 31)) (w.heap.size + 1) #[.int .i64 0, .int .i64 0, .int .i64 0] := Own.new (by simp)
    have hw : Below w.heap.size w ((w.alloc (.cells #[.int .i64 0, .int .i64 0, .int .i64 0] 31)).alloc (.cells #[.int .i64 0, .int .i64 0, .int .i64 0] 31)) := ((Below.refl _ _).alloc (Nat.le_refl _) _).alloc (by simp) _
    replace a1 := (hw.cell (p := ⟨b, _, none⟩) hb).trans a1
    replace a2 := (hw.cell (p := ⟨b, _, none⟩) hb).trans a2
    replace a3 := (hw.cell (p := ⟨b, _, none⟩) hb).trans a3
    generalize ((w.alloc (.cells #[.int .i64 0, .int .i64 0, .int .i64 0] 31)).alloc (.cells #[.int .i64 0, .int .i64 0, .int .i64 0] 31)) = w1 at *
    have hz := hw.size
    have q1c := q1.cell
    have q1f := q1.thaw
    have q1z := q1.lt
    have q2c := q2.cell
    have q2f := q2.thaw
    have q2z := q2.lt
    have hb1 : b < w1.heap.size := by omega
    have da1 := fun v => later_cell (v := v) (T := []) hb1 (by simp) a1
    have da2 := fun v => later_cell (v := v) (T := []) hb1 (by simp) a2
    have da3 := fun v => later_cell (v := v) (T := []) hb1 (by simp) a3
    have hw1z : w.heap.size + 1 < w1.heap.size := q2z
    refine region_mem 6 2 0 [] (by kernel_rfl) (by kernel_rfl) (by rfl) [(.cells #[.int .i64 0, .int .i64 0, .int .i64 0] 31, fun p => .pointer (some ⟨p, 0, none⟩)), (.cells #[.int .i64 0, .int .i64 0, .int .i64 0] 31, fun p => .pointer (some ⟨p, 0, none⟩))] ?_
    apply Exists.intro
    refine ⟨fun v hv hne => ?_, ⟨fun u => by go_simp, fun u => by go_simp, trivial⟩, fun u u1 hu hu1 => ?_⟩
    · simp only [List.take_succ_cons, List.take_zero, List.drop_succ_cons, List.drop_zero, Nat.reduceAdd, List.append_nil]
      have dq1 := fun x => (q1.later (v := v) (T := []) (by first | (simp; done) | (simp; omega)) x).cell
      have dq2 := fun x => (q2.later (v := v) (T := []) (by first | (simp; done) | (simp; omega)) x).cell
      repeat (go_big_quiet_step (fail))
      refine wpQuiet_nil ?_
      exact rfl
    · simp only [List.take_succ_cons, List.take_zero, List.drop_succ_cons, List.drop_zero, Nat.reduceAdd, memK]
      intro lob lo1 lo2 lo3 hib hi1 hi2 hi3
      have hk : Keeps [] w1 u1 := Keeps.of_below (Below.hop hu hu1)
      replace hw := Below.hop (Below.hop hw hu) hu1
      have hwz := hw.size
      have huz := hu.size
      have loy : w.heap.size ≤ lob := by have := w.heap.size; omega
      have log : w1.heap.size ≤ lob := by omega
      have lo : Own u1 lob #[.int .i64 0, .int .i64 0, .int .i64 0] := ⟨_, lo3⟩
      have loc := lo.cell
      have lof := lo.thaw
      have hiy : w.heap.size ≤ hib := by have := w.heap.size; omega
      have hig : w1.heap.size ≤ hib := by omega
      have hi : Own u1 hib #[.int .i64 0, .int .i64 0, .int .i64 0] := ⟨_, hi3⟩
      have hic := hi.cell
      have hif := hi.thaw
      have nhilo : hib ≠ lob := fun e => hi2 (by simp [e])
      have nlohi : lob ≠ hib := fun e => hi2 (by simp [e])
      clear lo2 lo3 hi2 hi3
      refine chain_mem (fun K hK => ?_)
      go_simp
      refine hK _ _ (((hk.new log _).new log _).new log _) (fun u2 hun => ?_)
      clear hK K
      replace hk : Keeps [] w1 u2 := (((hk.new log _).new log _).new log _).later hun
      replace lo : Own u2 lob #[.int .i64 x, .int .i64 y, .int .i64 z] := (((lo.set 0 _).set 1 _).set 2 _).below hun
      replace hi := (((hi.far nhilo _).far nhilo _).far nhilo _).below hun
      replace hw := Below.hop (((hw.setCell loy _).setCell loy _).setCell loy _) hun
      clear hun
      replace loc := lo.cell
      replace lof := lo.thaw
      replace hic := hi.cell
      replace hif := hi.thaw
      refine chain_mem (fun K hK => ?_)
      go_simp
      refine hK _ _ (((hk.new hig _).new hig _).new hig _) (fun u3 hun => ?_)
      clear hK K
      replace hk : Keeps [] w1 u3 := (((hk.new hig _).new hig _).new hig _).later hun
      replace hi : Own u3 hib #[.int .i64 x, .int .i64 y, .int .i64 z] := (((hi.set 0 _).set 1 _).set 2 _).below hun
      replace lo := (((lo.far nlohi _).far nlohi _).far nlohi _).below hun
      replace hw := Below.hop (((hw.setCell hiy _).setCell hiy _).setCell hiy _) hun
      clear hun
      replace loc := lo.cell
      replace lof := lo.thaw
      replace hic := hi.cell
      replace hif := hi.thaw
      replace q1 : Own u3 (w.heap.size) #[.int .i64 0, .int .i64 0, .int .i64 0] := q1.keeps hk (by simp)
      replace q2 : Own u3 (w.heap.size + 1) #[.int .i64 0, .int .i64 0, .int .i64 0] := q2.keeps hk (by simp)
      refine chain_nil ?_
      (try simp only [Act.put, List.setIfInBounds_toArray, List.set_cons_zero, List.set_cons_succ])
      clear hk hu hu1 hwz huz
      replace hz := hw.size
      replace q1c := q1.cell
      replace q1f := q1.thaw
      replace q1z := q1.lt
      replace q2c := q2.cell
      replace q2f := q2.thaw
      replace q2z := q2.lt
      replace loc := lo.cell
      replace lof := lo.thaw
      replace loz := lo.lt
      replace hic := hi.cell
      replace hif := hi.thaw
      replace hiz := hi.lt
      clear a1 a2 a3 da1 da2 da3
      have hlo1 : w.heap.size + 1 < lob := by omega
      have hhi1 : w.heap.size + 1 < hib := by omega
      have hblo : b ≠ lob := by omega
      clear hb1 hb
      go_wp2
      go_loopw [22] (fun i wr => ∃ k : Nat, k ≤ n ∧ i = .int .i64 k ∧ Below w.heap.size w wr ∧ Own wr w.heap.size #[.int .i64 0, .int .i64 0, .int .i64 0] ∧ Own wr (w.heap.size + 1) #[.int .i64 0, .int .i64 0, .int .i64 0] ∧ Own wr lob #[.int .i64 (boxLo L k).x, .int .i64 (boxLo L k).y, .int .i64 (boxLo L k).z] ∧ Own wr hib #[.int .i64 (boxHi L k).x, .int .i64 (boxHi L k).y, .int .i64 (boxHi L k).z]) (fun i _ => n - (intOf i).toNat)
      case atStart => exact ⟨0, by omega, rfl, hw, q1, q2, by rw [boxLo, HX.out]; exact lo, by rw [boxHi, HX.out]; exact hi⟩
      case round =>
        clear hw hz lo loc lof loz hi hic hif hiz q1 q1c q1f q1z q2 q2c q2f q2z
        obtain ⟨k, hk, rfl, hw, q1, q2, lo, hi⟩ := hrel
        obtain ⟨⟨l0, l1, l2⟩, hl⟩ : ∃ X, boxLo L k = X := ⟨_, rfl⟩
        obtain ⟨⟨g0, g1, g2⟩, hg⟩ : ∃ X, boxHi L k = X := ⟨_, rfl⟩
        rw [hl] at lo
        rw [hg] at hi
        simp only [] at lo hi
        have HLK := Lib.hid hl
        have HGK := Lib.hid hg
        clear hl hg
        have hz := hw.size
        have q1c := q1.cell
        have q1f := q1.thaw
        have q1z := q1.lt
        have q2c := q2.cell
        have q2f := q2.thaw
        have q2z := q2.lt
        have loc := lo.cell
        have lof := lo.thaw
        have loz := lo.lt
        have hic := hi.cell
        have hif := hi.thaw
        have hiz := hi.lt
        by_cases hlt : k < n
        · have hlt2 : (k : Int) < (n : Int) := by omega
          obtain ⟨⟨x, y, z⟩, hX⟩ : ∃ X, vAt L k = X := ⟨_, rfl⟩
          obtain ⟨b', off', he, hb, a1, a2, a3⟩ := (HV.out.below hw).cells hlt hX
          cases he
          have HXK := Lib.hid hX
          clear hX
          have HM := Lib.hid (boxLo_step HLK.out HXK.out)
          have HN := Lib.hid (boxHi_step HGK.out HXK.out)
          go_wp2
          clear a1 a2 a3 hb
          go_roundw
          case rel => exact ⟨k + 1, by omega, by go_num, (((((((hw.setCell loy _).setCell loy _).setCell loy _).setCell hiy _).setCell hiy _).setCell hiy _).alloc (by simp; omega) _), (((((((q1.far (by simp; omega) _).far (by simp; omega) _).far (by simp; omega) _).far (by simp; omega) _).far (by simp; omega) _).far (by simp; omega) _).alloc _), (((((((q2.far (by simp; omega) _).far (by simp; omega) _).far (by simp; omega) _).far (by simp; omega) _).far (by simp; omega) _).far (by simp; omega) _).alloc _), by rw [HM.out]; exact (((((((lo.set 0 _).set 1 _).set 2 _).far nlohi _).far nlohi _).far nlohi _).alloc _), by rw [HN.out]; exact (((((((hi.far nhilo _).far nhilo _).far nhilo _).set 0 _).set 1 _).set 2 _).alloc _)⟩
          case measure => simp [intOf]; omega
        · obtain rfl : k = n := by omega
          obtain ⟨rfl, rfl, rfl⟩ : l0 = r0 ∧ l1 = r1 ∧ l2 = r2 := by have q := HLK.out.symm.trans HRL.out; injection q with q0 q1 q2; exact ⟨q0, q1, q2⟩
          obtain ⟨rfl, rfl, rfl⟩ : g0 = s0 ∧ g1 = s1 ∧ g2 = s2 := by have q := HGK.out.symm.trans HRH.out; injection q with q0 q1 q2; exact ⟨q0, q1, q2⟩
          go_wp2
          refine region_late 2 [w.heap.size, w.heap.size + 1] (by kernel_rfl) (by kernel_rfl) (by rfl) ?_
          apply Exists.intro
          refine ⟨fun v hv hne => ?_, fun u hu => ?_⟩
          · simp only [List.take_succ_cons, List.take_zero]
            have dlo := fun x => (lo.later (v := v) (T := [w.heap.size, w.heap.size + 1]) (by simp; omega) x).cell
            have dhi := fun x => (hi.later (v := v) (T := [w.heap.size, w.heap.size + 1]) (by simp; omega) x).cell
            repeat (go_big_quiet_step (fail))
            refine wpQuiet_nil ?_
            exact rfl
          · simp only [List.drop_succ_cons, List.drop_zero]
            replace hw := Below.hop hw hu
            replace q1 := q1.below hu
            replace q2 := q2.below hu
            clear q1c q1f q1z q2c q2f q2z loc lof loz hic hif hiz lo hi
            have q1c := q1.cell
            have q1f := q1.thaw
            have q2c := q2.cell
            have q2f := q2.thaw
            refine late_mem (fun K hK => ?_)
            go_simp
            refine hK _ _ ((((Keeps.of_below hu).set (by simp) _).set (by simp) _).set (by simp) _) (fun u2 hu2 => ?_)
            clear hK K
            have hk2 : Keeps [w.heap.size, w.heap.size + 1] wr u2 := Keeps.later ((((Keeps.of_below hu).set (by simp) _).set (by simp) _).set (by simp) _) hu2
            replace q1 : Own u2 w.heap.size #[.int .i64 l0, .int .i64 l1, .int .i64 l2] := Own.below (((q1.set 0 _).set 1 _).set 2 _) hu2
            replace q2 := Own.below (((q2.far (by simp) _).far (by simp) _).far (by simp) _) hu2
            replace hw := Below.hop (((hw.setCell (Nat.le_refl _) _).setCell (Nat.le_refl _) _).setCell (Nat.le_refl _) _) hu2
            clear q1c q1f q2c q2f hu2
            have q2c := q2.cell
            have q2f := q2.thaw
            refine late_mem (fun K hK => ?_)
            go_simp
            refine hK _ _ (((hk2.set (by simp) _).set (by simp) _).set (by simp) _) (fun u3 hu3 => ?_)
            clear hK K
            have hk3 : Keeps [w.heap.size, w.heap.size + 1] wr u3 := Keeps.later (((hk2.set (by simp) _).set (by simp) _).set (by simp) _) hu3
            replace q1 := Own.below (((q1.far (by simp) _).far (by simp) _).far (by simp) _) hu3
            replace q2 : Own u3 (w.heap.size + 1) #[.int .i64 g0, .int .i64 g1, .int .i64 g2] := Own.below (((q2.set 0 _).set 1 _).set 2 _) hu3
            replace hw := Below.hop (((hw.setCell (Nat.le_succ _) _).setCell (Nat.le_succ _) _).setCell (Nat.le_succ _) _) hu3
            clear q2c q2f hu3 hk2
            refine late_mem (fun K hK => ?_)
            go_simp
            refine hK _ _ hk3 (fun u4 hu4 => ?_)
            clear hK K
            replace q1 := q1.below hu4
            replace q2 := q2.below hu4
            replace hw := Below.hop hw hu4
            clear hu4 hk3 hu
            refine late_nil ?_
            (try simp only [Act.put, List.setIfInBounds_toArray, List.set_cons_zero, List.set_cons_succ])
            go_wp2
            refine retC2 (b := w.heap.size) (d := w.heap.size + 1) (v := .tuple #[vV l0 l1 l2, vV g0 g1 g2, .bool true]) q1 q2 (fun w' hw' hw2 => by simp [results, Try.results25, go_sem, hw', hw2]) rfl ⟨rfl, hw⟩
end Go.Proofs.Ytccnlnkgoaelpaa
