/- What Check of the reference of package contact returns, and both Wrench. The components are int64. -/
import Derived.Test.YthijnggeoinlfaaCtC
import Derived.Test.YthijnggeoinlfaaPlaneV
namespace Go.Proofs.Ythijnggeoinlfaa
open Go.RowKit

set_option maxRecDepth 100000 in
set_option maxHeartbeats 1000000 in
theorem ref25_Check_out (a0 a1 a2 n0 n1 n2 mn md : Int) (hin : vIn ⟨a0, a1, a2⟩ = false) (w : World) :
    Calls Try.prog 53 #[vC a0 a1 a2 n0 n1 n2 mn md] w fun r w' => r = .returned (.int .i64 3) ∧ Below w.heap.size w w' := by
  have HI := Lib.hid (congrArg Value.bool hin)
  clear hin
  go_enter Try.func53, Try.ntmps53
  go_wp2_with fail
  refine Calls.mono (callv (ref7_In a0 a1 a2 _) HI.out) ?_
  rintro e w1 ⟨rfl, hb1⟩
  have hw1 : Below w.heap.size w w1 := Below.hop (by repeat' (first | exact Below.refl _ _ | assumption | (refine Below.alloc ?_ ?_ _; rotate_left; (focus (first | rfl | omega | (simp; done) | (simp; omega)))) | (refine Below.setCell ?_ ?_ _; rotate_left; (focus (first | rfl | omega | (simp; done) | (simp; omega)))) | refine Below.drew ?_)) hb1
  go_wp2
  go_ret
  exact ⟨rfl, hw1⟩
set_option maxRecDepth 100000 in
set_option maxHeartbeats 1000000 in
theorem ref25_Check_0 (a0 a1 a2 mn md : Int) (hin : vIn ⟨a0, a1, a2⟩ = true) (w : World) :
    Calls Try.prog 53 #[vC a0 a1 a2 1 0 0 mn md] w fun r w' => r = .returned (.int .i64 (if cMu mn md then 0 else 22)) ∧ Below w.heap.size w w' := by
  have HI := Lib.hid (congrArg Value.bool hin)
  clear hin
  obtain ⟨RR, hR⟩ : ∃ R : Int, (if cMu mn md then 0 else 22) = R := ⟨_, rfl⟩
  rw [hR]
  have HR := Lib.hid hR
  clear hR
  go_enter Try.func53, Try.ntmps53
  go_wp2_with fail
  refine Calls.mono (callv (ref7_In a0 a1 a2 _) HI.out) ?_
  rintro e w1 ⟨rfl, hb1⟩
  have o1 : Own w1 (w.heap.size) #[.int .i64 a0, .int .i64 a1, .int .i64 a2, .int .i64 1, .int .i64 0, .int .i64 0, .int .i64 mn, .int .i64 md] := Own.below (by repeat' (first | ((refine Own.new ?_); (focus (first | rfl | omega | (simp; done) | (simp; omega)))) | assumption | refine Own.alloc ?_ _ | refine Own.drew ?_ | (refine Own.far ?_ ?_ _; rotate_left; (focus (first | rfl | omega | (simp; done) | (simp; omega)))))) hb1
  have o1c := o1.cell
  have o1f := o1.thaw
  have o1z := o1.lt
  have hs1 := hb1.size
  (try simp at hs1)
  have hw1 : Below w.heap.size w w1 := Below.hop (by repeat' (first | exact Below.refl _ _ | assumption | (refine Below.alloc ?_ ?_ _; rotate_left; (focus (first | rfl | omega | (simp; done) | (simp; omega)))) | (refine Below.setCell ?_ ?_ _; rotate_left; (focus (first | rfl | omega | (simp; done) | (simp; omega)))) | refine Below.drew ?_)) hb1
  have hz1 := hw1.size
  clear hb1
  go_wp2
  all_goals go_ret
  all_goals exact ⟨ret_int (by rw [← HR.out]; unfold cMu; simp only [Bool.and_eq_true, decide_eq_true_eq]; first | (rw [if_pos (by omega)]) | (rw [if_neg (by omega)])), (by repeat' (first | exact Below.refl _ _ | assumption | (refine Below.alloc ?_ ?_ _; rotate_left; (focus (first | rfl | omega | (simp; done) | (simp; omega)))) | (refine Below.setCell ?_ ?_ _; rotate_left; (focus (first | rfl | omega | (simp; done) | (simp; omega)))) | refine Below.drew ?_))⟩
set_option maxRecDepth 100000 in
set_option maxHeartbeats 1000000 in
theorem ref25_Check_1 (a0 a1 a2 mn md : Int) (hin : vIn ⟨a0, a1, a2⟩ = true) (w : World) :
    Calls Try.prog 53 #[vC a0 a1 a2 (-1) 0 0 mn md] w fun r w' => r = .returned (.int .i64 (if cMu mn md then 0 else 22)) ∧ Below w.heap.size w w' := by
  have HI := Lib.hid (congrArg Value.bool hin)
  clear hin
  obtain ⟨RR, hR⟩ : ∃ R : Int, (if cMu mn md then 0 else 22) = R := ⟨_, rfl⟩
  rw [hR]
  have HR := Lib.hid hR
  clear hR
  go_enter Try.func53, Try.ntmps53
  go_wp2_with fail
  refine Calls.mono (callv (ref7_In a0 a1 a2 _) HI.out) ?_
  rintro e w1 ⟨rfl, hb1⟩
  have o1 : Own w1 (w.heap.size) #[.int .i64 a0, .int .i64 a1, .int .i64 a2, .int .i64 (-1), .int .i64 0, .int .i64 0, .int .i64 mn, .int .i64 md] := Own.below (by repeat' (first | ((refine Own.new ?_); (focus (first | rfl | omega | (simp; done) | (simp; omega)))) | assumption | refine Own.alloc ?_ _ | refine Own.drew ?_ | (refine Own.far ?_ ?_ _; rotate_left; (focus (first | rfl | omega | (simp; done) | (simp; omega)))))) hb1
  have o1c := o1.cell
  have o1f := o1.thaw
  have o1z := o1.lt
  have hs1 := hb1.size
  (try simp at hs1)
  have hw1 : Below w.heap.size w w1 := Below.hop (by repeat' (first | exact Below.refl _ _ | assumption | (refine Below.alloc ?_ ?_ _; rotate_left; (focus (first | rfl | omega | (simp; done) | (simp; omega)))) | (refine Below.setCell ?_ ?_ _; rotate_left; (focus (first | rfl | omega | (simp; done) | (simp; omega)))) | refine Below.drew ?_)) hb1
  have hz1 := hw1.size
  clear hb1
  go_wp2
  all_goals go_ret
  all_goals exact ⟨ret_int (by rw [← HR.out]; unfold cMu; simp only [Bool.and_eq_true, decide_eq_true_eq]; first | (rw [if_pos (by omega)]) | (rw [if_neg (by omega)])), (by repeat' (first | exact Below.refl _ _ | assumption | (refine Below.alloc ?_ ?_ _; rotate_left; (focus (first | rfl | omega | (simp; done) | (simp; omega)))) | (refine Below.setCell ?_ ?_ _; rotate_left; (focus (first | rfl | omega | (simp; done) | (simp; omega)))) | refine Below.drew ?_))⟩
set_option maxRecDepth 100000 in
set_option maxHeartbeats 1000000 in
theorem ref25_Check_2 (a0 a1 a2 mn md : Int) (hin : vIn ⟨a0, a1, a2⟩ = true) (w : World) :
    Calls Try.prog 53 #[vC a0 a1 a2 0 1 0 mn md] w fun r w' => r = .returned (.int .i64 (if cMu mn md then 0 else 22)) ∧ Below w.heap.size w w' := by
  have HI := Lib.hid (congrArg Value.bool hin)
  clear hin
  obtain ⟨RR, hR⟩ : ∃ R : Int, (if cMu mn md then 0 else 22) = R := ⟨_, rfl⟩
  rw [hR]
  have HR := Lib.hid hR
  clear hR
  go_enter Try.func53, Try.ntmps53
  go_wp2_with fail
  refine Calls.mono (callv (ref7_In a0 a1 a2 _) HI.out) ?_
  rintro e w1 ⟨rfl, hb1⟩
  have o1 : Own w1 (w.heap.size) #[.int .i64 a0, .int .i64 a1, .int .i64 a2, .int .i64 0, .int .i64 1, .int .i64 0, .int .i64 mn, .int .i64 md] := Own.below (by repeat' (first | ((refine Own.new ?_); (focus (first | rfl | omega | (simp; done) | (simp; omega)))) | assumption | refine Own.alloc ?_ _ | refine Own.drew ?_ | (refine Own.far ?_ ?_ _; rotate_left; (focus (first | rfl | omega | (simp; done) | (simp; omega)))))) hb1
  have o1c := o1.cell
  have o1f := o1.thaw
  have o1z := o1.lt
  have hs1 := hb1.size
  (try simp at hs1)
  have hw1 : Below w.heap.size w w1 := Below.hop (by repeat' (first | exact Below.refl _ _ | assumption | (refine Below.alloc ?_ ?_ _; rotate_left; (focus (first | rfl | omega | (simp; done) | (simp; omega)))) | (refine Below.setCell ?_ ?_ _; rotate_left; (focus (first | rfl | omega | (simp; done) | (simp; omega)))) | refine Below.drew ?_)) hb1
  have hz1 := hw1.size
  clear hb1
  go_wp2
  all_goals go_ret
  all_goals exact ⟨ret_int (by rw [← HR.out]; unfold cMu; simp only [Bool.and_eq_true, decide_eq_true_eq]; first | (rw [if_pos (by omega)]) | (rw [if_neg (by omega)])), (by repeat' (first | exact Below.refl _ _ | assumption | (refine Below.alloc ?_ ?_ _; rotate_left; (focus (first | rfl | omega | (simp; done) | (simp; omega)))) | (refine Below.setCell ?_ ?_ _; rotate_left; (focus (first | rfl | omega | (simp; done) | (simp; omega)))) | refine Below.drew ?_))⟩
set_option maxRecDepth 100000 in
set_option maxHeartbeats 1000000 in
theorem ref25_Check_3 (a0 a1 a2 mn md : Int) (hin : vIn ⟨a0, a1, a2⟩ = true) (w : World) :
    Calls Try.prog 53 #[vC a0 a1 a2 0 (-1) 0 mn md] w fun r w' => r = .returned (.int .i64 (if cMu mn md then 0 else 22)) ∧ Below w.heap.size w w' := by
  have HI := Lib.hid (congrArg Value.bool hin)
  clear hin
  obtain ⟨RR, hR⟩ : ∃ R : Int, (if cMu mn md then 0 else 22) = R := ⟨_, rfl⟩
  rw [hR]
  have HR := Lib.hid hR
  clear hR
  go_enter Try.func53, Try.ntmps53
  go_wp2_with fail
  refine Calls.mono (callv (ref7_In a0 a1 a2 _) HI.out) ?_
  rintro e w1 ⟨rfl, hb1⟩
  have o1 : Own w1 (w.heap.size) #[.int .i64 a0, .int .i64 a1, .int .i64 a2, .int .i64 0, .int .i64 (-1), .int .i64 0, .int .i64 mn, .int .i64 md] := Own.below (by repeat' (first | ((refine Own.new ?_); (focus (first | rfl | omega | (simp; done) | (simp; omega)))) | assumption | refine Own.alloc ?_ _ | refine Own.drew ?_ | (refine Own.far ?_ ?_ _; rotate_left; (focus (first | rfl | omega | (simp; done) | (simp; omega)))))) hb1
  have o1c := o1.cell
  have o1f := o1.thaw
  have o1z := o1.lt
  have hs1 := hb1.size
  (try simp at hs1)
  have hw1 : Below w.heap.size w w1 := Below.hop (by repeat' (first | exact Below.refl _ _ | assumption | (refine Below.alloc ?_ ?_ _; rotate_left; (focus (first | rfl | omega | (simp; done) | (simp; omega)))) | (refine Below.setCell ?_ ?_ _; rotate_left; (focus (first | rfl | omega | (simp; done) | (simp; omega)))) | refine Below.drew ?_)) hb1
  have hz1 := hw1.size
  clear hb1
  go_wp2
  all_goals go_ret
  all_goals exact ⟨ret_int (by rw [← HR.out]; unfold cMu; simp only [Bool.and_eq_true, decide_eq_true_eq]; first | (rw [if_pos (by omega)]) | (rw [if_neg (by omega)])), (by repeat' (first | exact Below.refl _ _ | assumption | (refine Below.alloc ?_ ?_ _; rotate_left; (focus (first | rfl | omega | (simp; done) | (simp; omega)))) | (refine Below.setCell ?_ ?_ _; rotate_left; (focus (first | rfl | omega | (simp; done) | (simp; omega)))) | refine Below.drew ?_))⟩
set_option maxRecDepth 100000 in
set_option maxHeartbeats 1000000 in
theorem ref25_Check_4 (a0 a1 a2 mn md : Int) (hin : vIn ⟨a0, a1, a2⟩ = true) (w : World) :
    Calls Try.prog 53 #[vC a0 a1 a2 0 0 1 mn md] w fun r w' => r = .returned (.int .i64 (if cMu mn md then 0 else 22)) ∧ Below w.heap.size w w' := by
  have HI := Lib.hid (congrArg Value.bool hin)
  clear hin
  obtain ⟨RR, hR⟩ : ∃ R : Int, (if cMu mn md then 0 else 22) = R := ⟨_, rfl⟩
  rw [hR]
  have HR := Lib.hid hR
  clear hR
  go_enter Try.func53, Try.ntmps53
  go_wp2_with fail
  refine Calls.mono (callv (ref7_In a0 a1 a2 _) HI.out) ?_
  rintro e w1 ⟨rfl, hb1⟩
  have o1 : Own w1 (w.heap.size) #[.int .i64 a0, .int .i64 a1, .int .i64 a2, .int .i64 0, .int .i64 0, .int .i64 1, .int .i64 mn, .int .i64 md] := Own.below (by repeat' (first | ((refine Own.new ?_); (focus (first | rfl | omega | (simp; done) | (simp; omega)))) | assumption | refine Own.alloc ?_ _ | refine Own.drew ?_ | (refine Own.far ?_ ?_ _; rotate_left; (focus (first | rfl | omega | (simp; done) | (simp; omega)))))) hb1
  have o1c := o1.cell
  have o1f := o1.thaw
  have o1z := o1.lt
  have hs1 := hb1.size
  (try simp at hs1)
  have hw1 : Below w.heap.size w w1 := Below.hop (by repeat' (first | exact Below.refl _ _ | assumption | (refine Below.alloc ?_ ?_ _; rotate_left; (focus (first | rfl | omega | (simp; done) | (simp; omega)))) | (refine Below.setCell ?_ ?_ _; rotate_left; (focus (first | rfl | omega | (simp; done) | (simp; omega)))) | refine Below.drew ?_)) hb1
  have hz1 := hw1.size
  clear hb1
  go_wp2
  all_goals go_ret
  all_goals exact ⟨ret_int (by rw [← HR.out]; unfold cMu; simp only [Bool.and_eq_true, decide_eq_true_eq]; first | (rw [if_pos (by omega)]) | (rw [if_neg (by omega)])), (by repeat' (first | exact Below.refl _ _ | assumption | (refine Below.alloc ?_ ?_ _; rotate_left; (focus (first | rfl | omega | (simp; done) | (simp; omega)))) | (refine Below.setCell ?_ ?_ _; rotate_left; (focus (first | rfl | omega | (simp; done) | (simp; omega)))) | refine Below.drew ?_))⟩
set_option maxRecDepth 100000 in
set_option maxHeartbeats 1000000 in
theorem ref25_Check_5 (a0 a1 a2 mn md : Int) (hin : vIn ⟨a0, a1, a2⟩ = true) (w : World) :
    Calls Try.prog 53 #[vC a0 a1 a2 0 0 (-1) mn md] w fun r w' => r = .returned (.int .i64 (if cMu mn md then 0 else 22)) ∧ Below w.heap.size w w' := by
  have HI := Lib.hid (congrArg Value.bool hin)
  clear hin
  obtain ⟨RR, hR⟩ : ∃ R : Int, (if cMu mn md then 0 else 22) = R := ⟨_, rfl⟩
  rw [hR]
  have HR := Lib.hid hR
  clear hR
  go_enter Try.func53, Try.ntmps53
  go_wp2_with fail
  refine Calls.mono (callv (ref7_In a0 a1 a2 _) HI.out) ?_
  rintro e w1 ⟨rfl, hb1⟩
  have o1 : Own w1 (w.heap.size) #[.int .i64 a0, .int .i64 a1, .int .i64 a2, .int .i64 0, .int .i64 0, .int .i64 (-1), .int .i64 mn, .int .i64 md] := Own.below (by repeat' (first | ((refine Own.new ?_); (focus (first | rfl | omega | (simp; done) | (simp; omega)))) | assumption | refine Own.alloc ?_ _ | refine Own.drew ?_ | (refine Own.far ?_ ?_ _; rotate_left; (focus (first | rfl | omega | (simp; done) | (simp; omega)))))) hb1
  have o1c := o1.cell
  have o1f := o1.thaw
  have o1z := o1.lt
  have hs1 := hb1.size
  (try simp at hs1)
  have hw1 : Below w.heap.size w w1 := Below.hop (by repeat' (first | exact Below.refl _ _ | assumption | (refine Below.alloc ?_ ?_ _; rotate_left; (focus (first | rfl | omega | (simp; done) | (simp; omega)))) | (refine Below.setCell ?_ ?_ _; rotate_left; (focus (first | rfl | omega | (simp; done) | (simp; omega)))) | refine Below.drew ?_)) hb1
  have hz1 := hw1.size
  clear hb1
  go_wp2
  all_goals go_ret
  all_goals exact ⟨ret_int (by rw [← HR.out]; unfold cMu; simp only [Bool.and_eq_true, decide_eq_true_eq]; first | (rw [if_pos (by omega)]) | (rw [if_neg (by omega)])), (by repeat' (first | exact Below.refl _ _ | assumption | (refine Below.alloc ?_ ?_ _; rotate_left; (focus (first | rfl | omega | (simp; done) | (simp; omega)))) | (refine Below.setCell ?_ ?_ _; rotate_left; (focus (first | rfl | omega | (simp; done) | (simp; omega)))) | refine Below.drew ?_))⟩
set_option maxRecDepth 100000 in
set_option maxHeartbeats 4000000 in
theorem ref25_Check_no (a0 a1 a2 n0 n1 n2 mn md : Int) (hin : vIn ⟨a0, a1, a2⟩ = true) (hu : cUnit ⟨n0, n1, n2⟩ = false) (w : World) :
    Calls Try.prog 53 #[vC a0 a1 a2 n0 n1 n2 mn md] w fun r w' => r = .returned (.int .i64 22) ∧ Below w.heap.size w w' := by
  have HI := Lib.hid (congrArg Value.bool hin)
  have HU := Lib.hid hu
  clear hin hu
  go_enter Try.func53, Try.ntmps53
  go_wp2_with fail
  refine Calls.mono (callv (ref7_In a0 a1 a2 _) HI.out) ?_
  rintro e w1 ⟨rfl, hb1⟩
  have o1 : Own w1 (w.heap.size) #[.int .i64 a0, .int .i64 a1, .int .i64 a2, .int .i64 n0, .int .i64 n1, .int .i64 n2, .int .i64 mn, .int .i64 md] := Own.below (by repeat' (first | ((refine Own.new ?_); (focus (first | rfl | omega | (simp; done) | (simp; omega)))) | assumption | refine Own.alloc ?_ _ | refine Own.drew ?_ | (refine Own.far ?_ ?_ _; rotate_left; (focus (first | rfl | omega | (simp; done) | (simp; omega)))))) hb1
  have o1c := o1.cell
  have o1f := o1.thaw
  have o1z := o1.lt
  have hs1 := hb1.size
  (try simp at hs1)
  have hw1 : Below w.heap.size w w1 := Below.hop (by repeat' (first | exact Below.refl _ _ | assumption | (refine Below.alloc ?_ ?_ _; rotate_left; (focus (first | rfl | omega | (simp; done) | (simp; omega)))) | (refine Below.setCell ?_ ?_ _; rotate_left; (focus (first | rfl | omega | (simp; done) | (simp; omega)))) | refine Below.drew ?_)) hb1
  have hz1 := hw1.size
  clear hb1
  go_wp2
  all_goals first
    | (go_ret; exact ⟨rfl, (by repeat' (first | exact Below.refl _ _ | assumption | (refine Below.alloc ?_ ?_ _; rotate_left; (focus (first | rfl | omega | (simp; done) | (simp; omega)))) | (refine Below.setCell ?_ ?_ _; rotate_left; (focus (first | rfl | omega | (simp; done) | (simp; omega)))) | refine Below.drew ?_))⟩)
    | (exfalso; have h := HU.out; unfold cUnit is1 at h; simp_all)
theorem ref25_Check (a0 a1 a2 n0 n1 n2 mn md : Int) (w : World) :
    Calls Try.prog 53 #[vC a0 a1 a2 n0 n1 n2 mn md] w fun r w' => r = .returned (.int .i64 (cCheck ⟨⟨a0, a1, a2⟩, ⟨n0, n1, n2⟩, mn, md⟩)) ∧ Below w.heap.size w w' := by
  cases h : vIn ⟨a0, a1, a2⟩
  · have e : cCheck ⟨⟨a0, a1, a2⟩, ⟨n0, n1, n2⟩, mn, md⟩ = 3 := by unfold cCheck; simp only [h]; rfl
    rw [e]; exact ref25_Check_out a0 a1 a2 n0 n1 n2 mn md h w
  · cases hu : cUnit ⟨n0, n1, n2⟩
    · have e : cCheck ⟨⟨a0, a1, a2⟩, ⟨n0, n1, n2⟩, mn, md⟩ = 22 := by unfold cCheck; simp only [h, hu]; rfl
      rw [e]; exact ref25_Check_no a0 a1 a2 n0 n1 n2 mn md h hu w
    · have e : cCheck ⟨⟨a0, a1, a2⟩, ⟨n0, n1, n2⟩, mn, md⟩ = if cMu mn md then 0 else 22 := by unfold cCheck; simp only [h, hu]; rfl
      rw [e]
      have hc := unit_cases hu
      simp only [V3.mk.injEq] at hc
      rcases hc with ⟨rfl, rfl, rfl⟩ | ⟨rfl, rfl, rfl⟩ | ⟨rfl, rfl, rfl⟩ | ⟨rfl, rfl, rfl⟩ | ⟨rfl, rfl, rfl⟩ | ⟨rfl, rfl, rfl⟩
      · exact ref25_Check_0 a0 a1 a2 mn md h w
      · exact ref25_Check_1 a0 a1 a2 mn md h w
      · exact ref25_Check_2 a0 a1 a2 mn md h w
      · exact ref25_Check_3 a0 a1 a2 mn md h w
      · exact ref25_Check_4 a0 a1 a2 mn md h w
      · exact ref25_Check_5 a0 a1 a2 mn md h w
end Go.Proofs.Ythijnggeoinlfaa
