/- What numbers, vector, Check and Wrench of package contact return. The components are int64. -/
import Derived.Test.YthijnggeoinlfaaPlaneC
import Derived.Test.YthijnggeoinlfaaTriples
namespace Go.Proofs.Ythijnggeoinlfaa
open Go.RowKit

structure Ct where
  at_ : V3
  n : V3
  mn : Int
  md : Int
@[reducible] def vC (a0 a1 a2 n0 n1 n2 mn md : Int) : Value := .agg #[.int .i64 a0, .int .i64 a1, .int .i64 a2, .int .i64 n0, .int .i64 n1, .int .i64 n2, .int .i64 mn, .int .i64 md]
@[reducible] def Ct.v (c : Ct) : Value := vC c.at_.x c.at_.y c.at_.z c.n.x c.n.y c.n.z c.mn c.md

/-- A number of a unit vector along an axis. -/
def cell1 (e : Int) : Prop := e = 0 ∨ e = 1 ∨ e = -1
def cnt1 (e : Int) : Nat := if e = 0 then 0 else 1
def is1 (x y z : Int) : Bool := (x == 1 || x == -1) && (y == 0 && z == 0)
def cUnit (n : V3) : Bool := is1 n.x n.y n.z || (is1 n.y n.x n.z || is1 n.z n.x n.y)
def cMu (mn md : Int) : Bool := decide (0 ≤ mn) && (decide (mn ≤ md) && (decide (1 ≤ md) && decide (md ≤ 10)))
def cCheck (c : Ct) : Int := if vIn c.at_ then (if cUnit c.n && cMu c.mn c.md then 0 else 22) else 3

def cntK (k : Nat) (x y z : Int) : Nat :=
  match k with
  | 0 => 0
  | 1 => cnt1 x
  | 2 => cnt1 x + cnt1 y
  | _ => cnt1 x + cnt1 y + cnt1 z
theorem cnt1_le (e : Int) : cnt1 e ≤ 1 := by unfold cnt1; split <;> omega
theorem cntK_le (k : Nat) (x y z : Int) : cntK k x y z ≤ 3 := by
  have := cnt1_le x
  have := cnt1_le y
  have := cnt1_le z
  unfold cntK; split <;> omega
theorem cUnit_cnt {x y z : Int} (hx : cell1 x) (hy : cell1 y) (hz : cell1 z) : cUnit ⟨x, y, z⟩ = (cnt1 x + cnt1 y + cnt1 z == 1) := by
  rcases hx with rfl | rfl | rfl <;> rcases hy with rfl | rfl | rfl <;> rcases hz with rfl | rfl | rfl <;> decide
theorem cUnit_no {x y z : Int} (h : ¬ cell1 x ∨ ¬ cell1 y ∨ ¬ cell1 z) : cUnit ⟨x, y, z⟩ = false := by
  cases hu : cUnit ⟨x, y, z⟩
  · rfl
  · exfalso
    unfold cUnit is1 at hu
    simp only [Bool.or_eq_true, Bool.and_eq_true, beq_iff_eq] at hu
    unfold cell1 at h
    omega

set_option maxHeartbeats 400000 in
theorem contact_numbers (x y z : Int) (w : World) :
    Calls Try.prog 76 #[vV x y z] w fun r w' => r = .returned (vV x y z) ∧ Below w.heap.size w w' := by
  go_enter Try.func76, Try.ntmps76
  go_wp2
  refine bodyPost_ret (v := vV x y z) (by simp [results, Try.results76, go_sem]) rfl ⟨rfl, (by repeat' (first | exact Below.refl _ _ | assumption | (refine Below.alloc ?_ ?_ _; rotate_left; (focus (first | rfl | omega | (simp; done) | (simp; omega)))) | (refine Below.setCell ?_ ?_ _; rotate_left; (focus (first | rfl | omega | (simp; done) | (simp; omega)))) | refine Below.drew ?_))⟩
set_option maxHeartbeats 400000 in
theorem contact_vector (x y z : Int) (w : World) :
    Calls Try.prog 83 #[vV x y z] w fun r w' => r = .returned (vV x y z) ∧ Below w.heap.size w w' := by
  go_enter Try.func83, Try.ntmps83
  go_wp2
  refine bodyPost_ret (v := vV x y z) (by simp [results, Try.results83, go_sem]) rfl ⟨rfl, (by repeat' (first | exact Below.refl _ _ | assumption | (refine Below.alloc ?_ ?_ _; rotate_left; (focus (first | rfl | omega | (simp; done) | (simp; omega)))) | (refine Below.setCell ?_ ?_ _; rotate_left; (focus (first | rfl | omega | (simp; done) | (simp; omega)))) | refine Below.drew ?_))⟩

set_option maxRecDepth 100000 in
set_option maxHeartbeats 4000000 in
theorem contact_Check_in (a0 a1 a2 n0 n1 n2 mn md : Int) (hin : vIn ⟨a0, a1, a2⟩ = true) (w : World) :
    Calls Try.prog 52 #[vC a0 a1 a2 n0 n1 n2 mn md] w fun r w' => r = .returned (.int .i64 (if cUnit ⟨n0, n1, n2⟩ && cMu mn md then 0 else 22)) ∧ Below w.heap.size w w' := by
  have HI := Lib.hid (congrArg Value.bool hin)
  clear hin
  obtain ⟨RR, hR⟩ : ∃ R : Int, (if cUnit ⟨n0, n1, n2⟩ && cMu mn md then 0 else 22) = R := ⟨_, rfl⟩
  rw [hR]
  have HR := Lib.hid hR
  clear hR
  go_enter Try.func52, Try.ntmps52
  go_wp2_with fail
  refine Calls.mono (callv (plane_In a0 a1 a2 _) HI.out) ?_
  rintro e w1 ⟨rfl, hb1⟩
  have o1 : Own w1 (w.heap.size) #[.int .i64 a0, .int .i64 a1, .int .i64 a2, .int .i64 n0, .int .i64 n1, .int .i64 n2, .int .i64 mn, .int .i64 md] := Own.below (by repeat' (first | ((refine Own.new ?_); (focus (first | rfl | omega | (simp; done) | (simp; omega)))) | assumption | refine Own.alloc ?_ _ | refine Own.drew ?_ | (refine Own.far ?_ ?_ _; rotate_left; (focus (first | rfl | omega | (simp; done) | (simp; omega)))))) hb1
  have o1c := o1.cell
  have o1f := o1.thaw
  have o1z := o1.lt
  have hs1 := hb1.size
  (try simp at hs1)
  have hw1 : Below w.heap.size w w1 := Below.hop (by repeat' (first | exact Below.refl _ _ | assumption | (refine Below.alloc ?_ ?_ _; rotate_left; (focus (first | rfl | omega | (simp; done) | (simp; omega)))) | (refine Below.setCell ?_ ?_ _; rotate_left; (focus (first | rfl | omega | (simp; done) | (simp; omega)))) | refine Below.drew ?_)) hb1
  have hz1 := hw1.size
  clear hb1
  go_wp2_with fail
  refine Calls.mono (contact_numbers n0 n1 n2 _) ?_
  rintro e w2 ⟨rfl, hb2⟩
  have o2 : Own w2 (w.heap.size) #[.int .i64 a0, .int .i64 a1, .int .i64 a2, .int .i64 n0, .int .i64 n1, .int .i64 n2, .int .i64 mn, .int .i64 md] := Own.below (by repeat' (first | ((refine Own.new ?_); (focus (first | rfl | omega | (simp; done) | (simp; omega)))) | assumption | refine Own.alloc ?_ _ | refine Own.drew ?_ | (refine Own.far ?_ ?_ _; rotate_left; (focus (first | rfl | omega | (simp; done) | (simp; omega)))))) hb2
  have o2c := o2.cell
  have o2f := o2.thaw
  have o2z := o2.lt
  clear o1c o1f
  replace hw1 : Below w.heap.size w w2 := Below.hop hw1 hb2
  clear hb2 hs1 hz1
  go_wp2
  go_loop [3, 5, 13] (fun c _ i => ∃ k m : Nat, k ≤ 3 ∧ i = .int .i64 k ∧ c = .int .i64 m ∧ (1 ≤ k → cell1 n0) ∧ (2 ≤ k → cell1 n1) ∧ (3 ≤ k → cell1 n2) ∧ m = cntK k n0 n1 n2) (fun _ _ i => 3 - (intOf i).toNat)
  case atStart => exact ⟨0, 0, by omega, rfl, rfl, by omega, by omega, by omega, rfl⟩
  case round =>
    obtain ⟨k, m, hk, rfl, rfl, h1, h2, h3, hm⟩ := hrel
    have H1 := Lib.hid h1
    have H2 := Lib.hid h2
    have H3 := Lib.hid h3
    have HM := Lib.hid hm
    have hm3 : (m : Int) ≤ 3 := by have := cntK_le k n0 n1 n2; omega
    have hm0 : (0 : Int) ≤ (m : Int) := by omega
    clear h1 h2 h3 hm
    rcases (show k = 0 ∨ k = 1 ∨ k = 2 ∨ k = 3 by omega) with rfl | rfl | rfl | rfl
    · have ix : ∀ w, (Instr.index 47 (.agg #[.int .i64 n0, .int .i64 n1, .int .i64 n2]) (.int .i64 0)).run Try.prog w = .ok (.int .i64 n0) w := fun _ => by kernel_rfl
      by_cases e0 : n0 = 0
      · have c0 : cnt1 n0 = 0 := by unfold cnt1; rw [if_pos e0]
        have C0 := Lib.hid c0
        clear c0
        subst e0
        go_wp2
        go_round
        case rel => exact ⟨1, m, by omega, by go_num, by go_num, fun _ => .inl rfl, fun h => by omega, fun h => by omega, by have h1 := HM.out; have h2 := C0.out; simp only [cntK] at h1 ⊢; omega⟩
        case measure => simp [intOf]
      · by_cases e1 : n0 = 1
        · have C0 := Lib.hid (show cnt1 n0 = 1 by unfold cnt1; rw [if_neg e0])
          subst e1
          go_wp2
          go_round
          case rel => exact ⟨1, m + 1, by omega, by go_num, by go_num, fun _ => .inr (.inl rfl), fun h => by omega, fun h => by omega, by have h1 := HM.out; have h2 := C0.out; simp only [cntK] at h1 ⊢; omega⟩
          case measure => simp [intOf]
        · by_cases e1 : n0 = -1
          · have C0 := Lib.hid (show cnt1 n0 = 1 by unfold cnt1; rw [if_neg e0])
            subst e1
            go_wp2
            go_round
            case rel => exact ⟨1, m + 1, by omega, by go_num, by go_num, fun _ => .inr (.inr rfl), fun h => by omega, fun h => by omega, by have h1 := HM.out; have h2 := C0.out; simp only [cntK] at h1 ⊢; omega⟩
            case measure => simp [intOf]
          · have HU := Lib.hid (show cUnit ⟨n0, n1, n2⟩ = false from cUnit_no (by unfold cell1; omega))
            go_wp2
            go_ret
            exact ⟨ret_int (by rw [← HR.out, HU.out]; rfl), (by repeat' (first | exact Below.refl _ _ | assumption | (refine Below.alloc ?_ ?_ _; rotate_left; (focus (first | rfl | omega | (simp; done) | (simp; omega)))) | (refine Below.setCell ?_ ?_ _; rotate_left; (focus (first | rfl | omega | (simp; done) | (simp; omega)))) | refine Below.drew ?_))⟩
    · have ix : ∀ w, (Instr.index 47 (.agg #[.int .i64 n0, .int .i64 n1, .int .i64 n2]) (.int .i64 1)).run Try.prog w = .ok (.int .i64 n1) w := fun _ => by kernel_rfl
      by_cases e0 : n1 = 0
      · have c0 : cnt1 n1 = 0 := by unfold cnt1; rw [if_pos e0]
        have C0 := Lib.hid c0
        clear c0
        subst e0
        go_wp2
        go_round
        case rel => exact ⟨2, m, by omega, by go_num, by go_num, fun h => H1.out (by omega), fun _ => .inl rfl, fun h => by omega, by have h1 := HM.out; have h2 := C0.out; simp only [cntK] at h1 ⊢; omega⟩
        case measure => simp [intOf]
      · by_cases e1 : n1 = 1
        · have C0 := Lib.hid (show cnt1 n1 = 1 by unfold cnt1; rw [if_neg e0])
          subst e1
          go_wp2
          go_round
          case rel => exact ⟨2, m + 1, by omega, by go_num, by go_num, fun h => H1.out (by omega), fun _ => .inr (.inl rfl), fun h => by omega, by have h1 := HM.out; have h2 := C0.out; simp only [cntK] at h1 ⊢; omega⟩
          case measure => simp [intOf]
        · by_cases e1 : n1 = -1
          · have C0 := Lib.hid (show cnt1 n1 = 1 by unfold cnt1; rw [if_neg e0])
            subst e1
            go_wp2
            go_round
            case rel => exact ⟨2, m + 1, by omega, by go_num, by go_num, fun h => H1.out (by omega), fun _ => .inr (.inr rfl), fun h => by omega, by have h1 := HM.out; have h2 := C0.out; simp only [cntK] at h1 ⊢; omega⟩
            case measure => simp [intOf]
          · have HU := Lib.hid (show cUnit ⟨n0, n1, n2⟩ = false from cUnit_no (by unfold cell1; omega))
            go_wp2
            go_ret
            exact ⟨ret_int (by rw [← HR.out, HU.out]; rfl), (by repeat' (first | exact Below.refl _ _ | assumption | (refine Below.alloc ?_ ?_ _; rotate_left; (focus (first | rfl | omega | (simp; done) | (simp; omega)))) | (refine Below.setCell ?_ ?_ _; rotate_left; (focus (first | rfl | omega | (simp; done) | (simp; omega)))) | refine Below.drew ?_))⟩
    · have ix : ∀ w, (Instr.index 47 (.agg #[.int .i64 n0, .int .i64 n1, .int .i64 n2]) (.int .i64 2)).run Try.prog w = .ok (.int .i64 n2) w := fun _ => by kernel_rfl
      by_cases e0 : n2 = 0
      · have c0 : cnt1 n2 = 0 := by unfold cnt1; rw [if_pos e0]
        have C0 := Lib.hid c0
        clear c0
        subst e0
        go_wp2
        go_round
        case rel => exact ⟨3, m, by omega, by go_num, by go_num, fun h => H1.out (by omega), fun h => H2.out (by omega), fun _ => .inl rfl, by have h1 := HM.out; have h2 := C0.out; simp only [cntK] at h1 ⊢; omega⟩
        case measure => simp [intOf]
      · by_cases e1 : n2 = 1
        · have C0 := Lib.hid (show cnt1 n2 = 1 by unfold cnt1; rw [if_neg e0])
          subst e1
          go_wp2
          go_round
          case rel => exact ⟨3, m + 1, by omega, by go_num, by go_num, fun h => H1.out (by omega), fun h => H2.out (by omega), fun _ => .inr (.inl rfl), by have h1 := HM.out; have h2 := C0.out; simp only [cntK] at h1 ⊢; omega⟩
          case measure => simp [intOf]
        · by_cases e1 : n2 = -1
          · have C0 := Lib.hid (show cnt1 n2 = 1 by unfold cnt1; rw [if_neg e0])
            subst e1
            go_wp2
            go_round
            case rel => exact ⟨3, m + 1, by omega, by go_num, by go_num, fun h => H1.out (by omega), fun h => H2.out (by omega), fun _ => .inr (.inr rfl), by have h1 := HM.out; have h2 := C0.out; simp only [cntK] at h1 ⊢; omega⟩
            case measure => simp [intOf]
          · have HU := Lib.hid (show cUnit ⟨n0, n1, n2⟩ = false from cUnit_no (by unfold cell1; omega))
            go_wp2
            go_ret
            exact ⟨ret_int (by rw [← HR.out, HU.out]; rfl), (by repeat' (first | exact Below.refl _ _ | assumption | (refine Below.alloc ?_ ?_ _; rotate_left; (focus (first | rfl | omega | (simp; done) | (simp; omega)))) | (refine Below.setCell ?_ ?_ _; rotate_left; (focus (first | rfl | omega | (simp; done) | (simp; omega)))) | refine Below.drew ?_))⟩
    · have HU := Lib.hid (show cUnit ⟨n0, n1, n2⟩ = (m == 1) by rw [cUnit_cnt (H1.out (by omega)) (H2.out (by omega)) (H3.out (by omega)), HM.out]; rfl)
      clear H1 H2 H3 HM
      go_wp2
      all_goals go_ret
      all_goals exact ⟨ret_int (by rw [← HR.out, HU.out]; unfold cMu; simp only [Bool.and_eq_true, beq_iff_eq, decide_eq_true_eq]; first | (rw [if_pos (by omega)]) | (rw [if_neg (by omega)])), (by repeat' (first | exact Below.refl _ _ | assumption | (refine Below.alloc ?_ ?_ _; rotate_left; (focus (first | rfl | omega | (simp; done) | (simp; omega)))) | (refine Below.setCell ?_ ?_ _; rotate_left; (focus (first | rfl | omega | (simp; done) | (simp; omega)))) | refine Below.drew ?_))⟩
theorem contact_Check_out (a0 a1 a2 n0 n1 n2 mn md : Int) (hin : vIn ⟨a0, a1, a2⟩ = false) (w : World) :
    Calls Try.prog 52 #[vC a0 a1 a2 n0 n1 n2 mn md] w fun r w' => r = .returned (.int .i64 3) ∧ Below w.heap.size w w' := by
  have HI := Lib.hid (congrArg Value.bool hin)
  clear hin
  go_enter Try.func52, Try.ntmps52
  go_wp2_with fail
  refine Calls.mono (callv (plane_In a0 a1 a2 _) HI.out) ?_
  rintro e w1 ⟨rfl, hb1⟩
  have hw1 : Below w.heap.size w w1 := Below.hop (by repeat' (first | exact Below.refl _ _ | assumption | (refine Below.alloc ?_ ?_ _; rotate_left; (focus (first | rfl | omega | (simp; done) | (simp; omega)))) | (refine Below.setCell ?_ ?_ _; rotate_left; (focus (first | rfl | omega | (simp; done) | (simp; omega)))) | refine Below.drew ?_)) hb1
  go_wp2
  go_ret
  exact ⟨rfl, hw1⟩
theorem contact_Check (a0 a1 a2 n0 n1 n2 mn md : Int) (w : World) :
    Calls Try.prog 52 #[vC a0 a1 a2 n0 n1 n2 mn md] w fun r w' => r = .returned (.int .i64 (cCheck ⟨⟨a0, a1, a2⟩, ⟨n0, n1, n2⟩, mn, md⟩)) ∧ Below w.heap.size w w' := by
  cases h : vIn ⟨a0, a1, a2⟩
  · have e : cCheck ⟨⟨a0, a1, a2⟩, ⟨n0, n1, n2⟩, mn, md⟩ = 3 := by unfold cCheck; simp only [h]; rfl
    rw [e]; exact contact_Check_out a0 a1 a2 n0 n1 n2 mn md h w
  · have e : cCheck ⟨⟨a0, a1, a2⟩, ⟨n0, n1, n2⟩, mn, md⟩ = if cUnit ⟨n0, n1, n2⟩ && cMu mn md then 0 else 22 := by unfold cCheck; simp only [h]; rfl
    rw [e]; exact contact_Check_in a0 a1 a2 n0 n1 n2 mn md h w
end Go.Proofs.Ythijnggeoinlfaa
