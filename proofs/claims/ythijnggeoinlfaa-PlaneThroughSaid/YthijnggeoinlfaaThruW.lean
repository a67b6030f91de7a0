/- The law PlaneThrough returns true. The slice reads as int64 numbers. -/
import Derived.Test.YthijnggeoinlfaaSan7
import Derived.Test.YthijnggeoinlfaaPlaneU
import Derived.Test.YthijnggeoinlfaaDraw
namespace Go.Proofs.Ythijnggeoinlfaa
open Go.RowKit

theorem SliceI.cut {w : World} {A : Option Addr} {n : Nat} {l : List Int} (h : SliceI w A n l) (m : Nat) : SliceI w A (min n m) (l.take m) := by
  refine ⟨by rw [List.length_take, h.len]; omega, by have := h.max; omega, fun hne => ?_⟩
  have h1 : l ≠ [] := by rintro rfl; simp at hne
  obtain ⟨b, off, e, hlt, hc⟩ := h.row h1
  refine ⟨b, off, e, hlt, fun i hi => ?_⟩
  have hi2 : i < m ∧ i < l.length := by rw [List.length_take] at hi; omega
  rw [hc i hi2.2]
  simp [List.getElem?_take_of_lt hi2.1]
def isI : Value → Bool
  | .int .i64 _ => true
  | _ => false
theorem isI_of {v : Value} (h : isI v = true) : ∃ m, v = .int .i64 m := by
  cases v <;> (try (simp [isI] at h; done))
  rename_i k n
  cases k <;> simp [isI] at h
  exact ⟨n, rfl⟩
/-- All cells of a row are ints. -/
theorem allI_cell {w : World} {b : Nat} {cs : Array Value} (ho : Own w b cs) (ha : cs.all isI = true) (i : Nat) (hi : i < cs.size) : ∃ m, w.cell? ⟨b, i, none⟩ = some (.int .i64 m) := by
  rw [Array.all_eq_true] at ha
  obtain ⟨m, hm⟩ := isI_of (ha i hi)
  exact ⟨m, (ho.cell i).trans (by rw [Array.getElem?_eq_getElem hi, hm])⟩
theorem pts_int {w : World} {B : Nat} {l : List Int} {many g cap : Nat} (h : PtsAt w B l many g cap) (i : Nat) (hi : i < many * 3) : ∃ m, w.cell? ⟨g, i, none⟩ = some (.int .i64 m) := by
  rw [h.2.2.2.2 i hi]
  have hlen : (ptCells l many).length = many * 3 := by
    unfold ptCells
    rw [List.length_flatMap]
    clear h hi
    induction many with
    | zero => rfl
    | succ k ih => rw [List.range_succ, List.map_append, List.sum_append, ih]; simp; omega
  have hall : ∀ v ∈ ptCells l many, ∃ m, v = .int .i64 m := by
    intro v hv
    unfold ptCells at hv
    rw [List.mem_flatMap] at hv
    obtain ⟨j, _, hv⟩ := hv
    simp at hv
    rcases hv with rfl | rfl | rfl <;> exact ⟨_, rfl⟩
  have hi' : i < (ptCells l many).length := by omega
  obtain ⟨m, hm⟩ := hall _ (List.getElem_mem hi')
  exact ⟨m, by rw [List.getElem?_eq_getElem hi', hm]⟩

set_option maxRecDepth 100000 in
set_option maxHeartbeats 4000000 in
theorem law7_Through_walk (A : Option Addr) (n cap : Nat) (l : List Int) (r0 r1 r2 r3 r4 r5 r6 r7 r8 : Int) (w : World) (hl : SliceI w A n l) (hcap : n ≤ cap) (hcap2 : cap ≤ 9223372036854775807) :
    Calls Try.prog 3 #[.slice A n cap, .agg #[.int .i64 r0, .int .i64 r1, .int .i64 r2, .int .i64 r3, .int .i64 r4, .int .i64 r5, .int .i64 r6, .int .i64 r7, .int .i64 r8]] w fun r w' => r = .returned (.bool true) ∧ Below w.heap.size w w' := by
  have hl2 := hl.cut 12
  have HL := Lib.hid hl2
  clear hl hl2
  have hn0 : 0 ≤ (n : Int) := by omega
  have hn1 : (n : Int) ≤ (cap : Int) := by omega
  have hn2 : (cap : Int) ≤ 9223372036854775807 := by omega
  go_enter Try.func3, Try.ntmps3
  go_wp2_with fail
  refine Calls.mono (law7_sanity _) ?_
  rintro e w1 ⟨rfl, hb1⟩
  have o1 : Own w1 (w.heap.size) #[.int .i64 r0, .int .i64 r1, .int .i64 r2, .int .i64 r3, .int .i64 r4, .int .i64 r5, .int .i64 r6, .int .i64 r7, .int .i64 r8] := Own.below (by repeat' (first | ((refine Own.new ?_); (focus (first | rfl | omega | (simp; done) | (simp; omega)))) | assumption | refine Own.alloc ?_ _ | refine Own.drew ?_ | (refine Own.far ?_ ?_ _; rotate_left; (focus (first | rfl | omega | (simp; done) | (simp; omega)))))) hb1
  have o1c := o1.cell
  have o1f := o1.thaw
  have o1z := o1.lt
  have hs1 := hb1.size
  (try simp at hs1)
  have hw1 : Below w.heap.size w w1 := Below.hop (by repeat' (first | exact Below.refl _ _ | assumption | (refine Below.alloc ?_ ?_ _; rotate_left; (focus (first | rfl | omega | (simp; done) | (simp; omega)))) | (refine Below.setCell ?_ ?_ _; rotate_left; (focus (first | rfl | omega | (simp; done) | (simp; omega)))) | refine Below.drew ?_)) hb1
  have hz1 := hw1.size
  clear hb1
  go_wp2_with fail
  all_goals
    have hl3 := HL.out.below hw1
    first
      | rw [show min n 12 = 12 by omega] at hl3
      | rw [show min n 12 = n by omega] at hl3
    refine Calls.mono (ref7_Points A _ cap _ 3 (by omega) (by omega) _ hl3) ?_
    rintro e w2 ⟨g, c, rfl, hb2, hpt⟩
    have p1 : Own w2 (w.heap.size) #[.int .i64 r0, .int .i64 r1, .int .i64 r2, .int .i64 r3, .int .i64 r4, .int .i64 r5, .int .i64 r6, .int .i64 r7, .int .i64 r8] := Own.below (by repeat' (first | ((refine Own.new ?_); (focus (first | rfl | omega | (simp; done) | (simp; omega)))) | assumption | refine Own.alloc ?_ _ | refine Own.drew ?_ | (refine Own.far ?_ ?_ _; rotate_left; (focus (first | rfl | omega | (simp; done) | (simp; omega)))))) hb2
    have p1c := p1.cell
    have p1f := p1.thaw
    have p1z := p1.lt
    clear o1c o1f
    have hs2 := hb2.size
    (try simp at hs2)
    have hw2 : Below w.heap.size w w2 := Below.hop (by repeat' (first | exact Below.refl _ _ | assumption | (refine Below.alloc ?_ ?_ _; rotate_left; (focus (first | rfl | omega | (simp; done) | (simp; omega)))) | (refine Below.setCell ?_ ?_ _; rotate_left; (focus (first | rfl | omega | (simp; done) | (simp; omega)))) | refine Below.drew ?_)) hb2
    have hz2 := hw2.size
    clear hb2
    have hgz := hpt.2.1
    have hg0 := hpt.1
    have hc3 := hpt.2.2.1
    obtain ⟨m0, hm0⟩ := pts_int hpt 0 (by omega)
    obtain ⟨m1, hm1⟩ := pts_int hpt 1 (by omega)
    obtain ⟨m2, hm2⟩ := pts_int hpt 2 (by omega)
    obtain ⟨m3, hm3⟩ := pts_int hpt 3 (by omega)
    obtain ⟨m4, hm4⟩ := pts_int hpt 4 (by omega)
    obtain ⟨m5, hm5⟩ := pts_int hpt 5 (by omega)
    obtain ⟨m6, hm6⟩ := pts_int hpt 6 (by omega)
    obtain ⟨m7, hm7⟩ := pts_int hpt 7 (by omega)
    obtain ⟨m8, hm8⟩ := pts_int hpt 8 (by omega)
    clear hpt hl3 HL hw1 hz1 hs1 hs2
    go_wp2
    refine region_mid 48 2 [] (by kernel_rfl) (by kernel_rfl) (by rfl) ?_
    apply Exists.intro
    refine ⟨fun v hv hne => ?_, fun u hu => ?_⟩
    · simp only [List.take_succ_cons, List.take_zero, List.drop_succ_cons, List.drop_zero, Nat.reduceAdd, List.cons_append, List.nil_append]
      have dp := fun x => (p1.later (v := v) (T := []) (by simp) x).cell
      have d0 := fun x : Later [] w2 v => (x.cell g 0 hgz (by simp)).trans hm0
      have d1 := fun x : Later [] w2 v => (x.cell g 1 hgz (by simp)).trans hm1
      have d2 := fun x : Later [] w2 v => (x.cell g 2 hgz (by simp)).trans hm2
      have d3 := fun x : Later [] w2 v => (x.cell g 3 hgz (by simp)).trans hm3
      have d4 := fun x : Later [] w2 v => (x.cell g 4 hgz (by simp)).trans hm4
      have d5 := fun x : Later [] w2 v => (x.cell g 5 hgz (by simp)).trans hm5
      have d6 := fun x : Later [] w2 v => (x.cell g 6 hgz (by simp)).trans hm6
      have d7 := fun x : Later [] w2 v => (x.cell g 7 hgz (by simp)).trans hm7
      have d8 := fun x : Later [] w2 v => (x.cell g 8 hgz (by simp)).trans hm8
      repeat (go_big_quiet_step ((first | (go_at_call 19; with_reducible exact lateB (ref7_Add _ _ _ _ _ _ _)) | (go_at_call 18; with_reducible exact lateB (ref7_Sub _ _ _ _ _ _ _)))))
      refine wpQuiet_nil ?_
      exact rfl
    · simp only [List.take_succ_cons, List.take_zero, List.drop_succ_cons, List.drop_zero]
      clear hm0 hm1 hm2 hm3 hm4 hm5 hm6 hm7 hm8 p1c p1f p1 p1z o1z hgz hg0 hc3
      refine late_mem (fun K hK => ?_)
      go_simp
      refine hK _ _ ((Keeps.of_below hu).alloc _) (fun u2 hu2 => ?_)
      clear hK K
      obtain ⟨cs, hcs, hsz, hal⟩ : ∃ cs : Array Value, Own u2 u.heap.size cs ∧ cs.size = 45 ∧ cs.all isI = true := ⟨_, Own.below (Own.new rfl) hu2, rfl, by simp [isI]⟩
      have kp := ((Keeps.of_below (T := []) hu).alloc _).later hu2
      have hw3 : Below w.heap.size w u2 := Below.hop ((Below.hop hw2 hu).alloc (by have := hw2.size; have := hu.size; omega) _) hu2
      clear hw2 hz2 hu hu2
      refine late_mem (fun K hK => ?_)
      go_simp
      refine hK _ _ kp (fun u3 hu3 => ?_)
      clear hK K kp
      have HCS := Lib.hid (hcs.below hu3)
      have HW := Lib.hid (Below.hop hw3 hu3)
      generalize u.heap.size = B5 at *
      have HSZ := Lib.hid hsz
      have HAL := Lib.hid hal
      clear hcs hw3 hu3 hsz hal
      refine late_nil ?_
      (try simp only [Act.put, List.setIfInBounds_toArray, List.set_cons_zero, List.set_cons_succ])
      go_wp2
      go_loopw [70] (fun i wr => ∃ k : Nat, k ≤ 5 ∧ i = .int .i64 k ∧ Below w.heap.size w wr ∧ Own wr B5 cs) (fun i _ => 5 - (intOf i).toNat)
      case atStart => exact ⟨0, by omega, rfl, HW.out, HCS.out⟩
      case round =>
        obtain ⟨k, hk, rfl, hbel, hown⟩ := hrel
        have HB := Lib.hid hbel
        have HO := Lib.hid hown
        have hz := hown.lt
        have hzb := hbel.size
        by_cases hlt : k < 5
        · have hk5 : (k : Int) < 5 := by omega
          obtain ⟨n0, q0⟩ := allI_cell hown HAL.out (k * 9) (by rw [HSZ.out]; omega)
          obtain ⟨n1, q1⟩ := allI_cell hown HAL.out (k * 9 + 1) (by rw [HSZ.out]; omega)
          obtain ⟨n2, q2⟩ := allI_cell hown HAL.out (k * 9 + 2) (by rw [HSZ.out]; omega)
          obtain ⟨n3, q3⟩ := allI_cell hown HAL.out (k * 9 + 3) (by rw [HSZ.out]; omega)
          obtain ⟨n4, q4⟩ := allI_cell hown HAL.out (k * 9 + 4) (by rw [HSZ.out]; omega)
          obtain ⟨n5, q5⟩ := allI_cell hown HAL.out (k * 9 + 5) (by rw [HSZ.out]; omega)
          obtain ⟨n6, q6⟩ := allI_cell hown HAL.out (k * 9 + 6) (by rw [HSZ.out]; omega)
          obtain ⟨n7, q7⟩ := allI_cell hown HAL.out (k * 9 + 7) (by rw [HSZ.out]; omega)
          obtain ⟨n8, q8⟩ := allI_cell hown HAL.out (k * 9 + 8) (by rw [HSZ.out]; omega)
          clear hown hbel
          have c1 := plane_Through n0 n1 n2 n3 n4 n5 n6 n7 n8
          have c2 := ref7_Through n0 n1 n2 n3 n4 n5 n6 n7 n8
          generalize pThrough ⟨n0, n1, n2⟩ ⟨n3, n4, n5⟩ ⟨n6, n7, n8⟩ = PT at c1 c2
          generalize okThrough ⟨n0, n1, n2⟩ ⟨n3, n4, n5⟩ ⟨n6, n7, n8⟩ = OT at c1 c2
          have C1 := Lib.hid c1
          have C2 := Lib.hid c2
          clear c1 c2
          go_wp2_with fail
          refine Calls.mono (C1.out _) ?_
          rintro e w5 ⟨rfl, hb5⟩
          have x1 : Own w5 (wr.heap.size) #[.int .i64 n0, .int .i64 n1, .int .i64 n2, .int .i64 n3, .int .i64 n4, .int .i64 n5, .int .i64 n6, .int .i64 n7, .int .i64 n8] := Own.below (by repeat' (first | ((refine Own.new ?_); (focus (first | rfl | omega | (simp; done) | (simp; omega)))) | assumption | refine Own.alloc ?_ _ | refine Own.drew ?_ | (refine Own.far ?_ ?_ _; rotate_left; (focus (first | rfl | omega | (simp; done) | (simp; omega)))))) hb5
          have x1c := x1.cell
          have x1f := x1.thaw
          have x1z := x1.lt
          have HO5 := Lib.hid (show Own w5 B5 cs from Own.below (Own.alloc HO.out _) hb5)
          have HB5 := Lib.hid (show Below w.heap.size w w5 from Below.hop (HB.out.alloc (by omega) _) hb5)
          have hs5 := hb5.size
          simp at hs5
          clear hb5 q0 q1 q2 q3 q4 q5 q6 q7 q8
          go_wp2_with fail
          refine Calls.mono (C2.out _) ?_
          rintro e w6 ⟨rfl, hb6⟩
          have y1 : Own w6 (w5.heap.size) #[.int .i64 PT.n.x, .int .i64 PT.n.y, .int .i64 PT.n.z, .int .i64 PT.b] := Own.below (by repeat' (first | ((refine Own.new ?_); (focus (first | rfl | omega | (simp; done) | (simp; omega)))) | assumption | refine Own.alloc ?_ _ | refine Own.drew ?_ | (refine Own.far ?_ ?_ _; rotate_left; (focus (first | rfl | omega | (simp; done) | (simp; omega)))))) hb6
          have y1c := y1.cell
          have y1f := y1.thaw
          have y1z := y1.lt
          have HO6 := Lib.hid (show Own w6 B5 cs from Own.below (Own.alloc HO5.out _) hb6)
          have HB6 := Lib.hid (show Below w.heap.size w w6 from Below.hop (HB5.out.alloc (by omega) _) hb6)
          have hs6 := hb6.size
          simp at hs6
          clear hb6 x1c x1f x1
          go_wp2
          go_roundw
          case rel => exact ⟨k + 1, by omega, by go_num, HB6.out.alloc (by omega) _, HO6.out.alloc _⟩
          case measure => simp [intOf]; omega
        · have hk5 : k = 5 := by omega
          subst hk5
          go_wp2
          go_ret
          exact ⟨rfl, hbel⟩
end Go.Proofs.Ythijnggeoinlfaa
