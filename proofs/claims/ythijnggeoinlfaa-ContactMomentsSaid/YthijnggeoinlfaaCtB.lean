/- What Has of package contact returns. The components are int64. -/
import Derived.Test.YthijnggeoinlfaaCtA
namespace Go.Proofs.Ythijnggeoinlfaa
open Go.RowKit

def ng (n : Int) : Bool := decide (-2147483648 ≤ n) && decide (n ≤ 2147483648)
def sd1 (n f : Int) : Int := if n = 0 then (if f < -f then -f else f) else 0
def sideK (k : Nat) (n f : V3) : Int :=
  match k with
  | 0 => 0
  | 1 => sd1 n.x f.x
  | 2 => sd1 n.x f.x + sd1 n.y f.y
  | _ => sd1 n.x f.x + sd1 n.y f.y + sd1 n.z f.z
/-- How far a force lies sideways. -/
def cSide (n f : V3) : Int := sideK 3 n f
def cHas (c : Ct) (f : V3) : Bool :=
  (cCheck c == 0) && ((ng f.x && (ng f.y && ng f.z)) && (decide (0 ≤ vDot f c.n) && decide (c.md * cSide c.n f ≤ c.mn * vDot f c.n)))

structure CtOk (c : Ct) : Prop where
  at_ : vIn c.at_ = true
  u : cUnit c.n = true
  n1 : 0 ≤ c.mn
  n2 : c.mn ≤ c.md
  d1 : 1 ≤ c.md
  d2 : c.md ≤ 10
theorem ctOk {c : Ct} (h : cCheck c = 0) : CtOk c := by
  unfold cCheck at h
  split at h
  · rename_i h1
    split at h
    · rename_i h2
      rw [Bool.and_eq_true] at h2
      have h3 := h2.2
      unfold cMu at h3
      simp only [Bool.and_eq_true, decide_eq_true_eq] at h3
      exact ⟨h1, h2.1, h3.1, h3.2.1, h3.2.2.1, h3.2.2.2⟩
    · omega
  · omega
theorem CtOk.check {c : Ct} (h : CtOk c) : cCheck c = 0 := by
  obtain ⟨h1, h2, h3, h4, h5, h6⟩ := h
  unfold cCheck cMu
  rw [if_pos h1, h2, if_pos]
  simp; omega
theorem unit_cases {n : V3} (h : cUnit n = true) : n = ⟨1, 0, 0⟩ ∨ n = ⟨-1, 0, 0⟩ ∨ n = ⟨0, 1, 0⟩ ∨ n = ⟨0, -1, 0⟩ ∨ n = ⟨0, 0, 1⟩ ∨ n = ⟨0, 0, -1⟩ := by
  obtain ⟨x, y, z⟩ := n
  unfold cUnit is1 at h
  simp only [Bool.or_eq_true, Bool.and_eq_true, beq_iff_eq] at h
  simp only [V3.mk.injEq]
  omega
theorem sd1_bd {n f : Int} (h1 : -2147483648 ≤ f) (h2 : f ≤ 2147483648) : 0 ≤ sd1 n f ∧ sd1 n f ≤ 2147483648 := by
  unfold sd1; repeat' split <;> omega
theorem dot_unit {n f : V3} (hu : cUnit n = true) (h : (ng f.x && (ng f.y && ng f.z)) = true) : vDot f n = f.x * n.x + f.y * n.y + f.z * n.z ∧ -2147483648 ≤ vDot f n ∧ vDot f n ≤ 2147483648 := by
  unfold ng at h
  simp only [Bool.and_eq_true, decide_eq_true_eq] at h
  have key : vDot f n = f.x * n.x + f.y * n.y + f.z * n.z := by
    simp only [vDot, wr_addl, wr_addr]
    rcases unit_cases hu with rfl | rfl | rfl | rfl | rfl | rfl <;> simp only [Int.mul_zero, Int.mul_one, Int.mul_neg, Int.add_zero, Int.zero_add] <;> exact wr_id ⟨by omega, by omega⟩
  rw [key]
  refine ⟨rfl, ?_⟩
  rcases unit_cases hu with rfl | rfl | rfl | rfl | rfl | rfl <;> simp only [Int.mul_zero, Int.mul_one, Int.mul_neg, Int.add_zero, Int.zero_add] <;> omega
theorem small_mul {d s m : Int} (h1 : 0 ≤ d) (h2 : d ≤ 10) (h3 : -m ≤ s) (h4 : s ≤ m) (hm : 0 ≤ m) : -(10 * m) ≤ d * s ∧ d * s ≤ 10 * m := by
  have p1 := Int.mul_nonneg h1 (show 0 ≤ m - s by omega)
  have p2 := Int.mul_nonneg h1 (show 0 ≤ m + s by omega)
  have p3 := Int.mul_nonneg (show 0 ≤ 10 - d by omega) hm
  rw [Int.mul_sub] at p1
  rw [Int.mul_add] at p2
  rw [Int.sub_mul] at p3
  omega

set_option maxRecDepth 100000 in
set_option maxHeartbeats 400000 in
theorem contact_Has_no (a0 a1 a2 n0 n1 n2 mn md f0 f1 f2 : Int) (h : ¬ cCheck ⟨⟨a0, a1, a2⟩, ⟨n0, n1, n2⟩, mn, md⟩ = 0) (w : World) :
    Calls Try.prog 59 #[vC a0 a1 a2 n0 n1 n2 mn md, vV f0 f1 f2] w fun r w' => r = .returned (.bool (cHas ⟨⟨a0, a1, a2⟩, ⟨n0, n1, n2⟩, mn, md⟩ ⟨f0, f1, f2⟩)) ∧ Below w.heap.size w w' := by
  have e : cHas ⟨⟨a0, a1, a2⟩, ⟨n0, n1, n2⟩, mn, md⟩ ⟨f0, f1, f2⟩ = false := by unfold cHas; simp [h]
  rw [e]
  obtain ⟨c, hc⟩ : ∃ c, cCheck ⟨⟨a0, a1, a2⟩, ⟨n0, n1, n2⟩, mn, md⟩ = c := ⟨_, rfl⟩
  rw [hc] at h
  have HC := Lib.hid (congrArg (Value.int IntKind.i64) hc)
  clear hc e
  go_enter Try.func59, Try.ntmps59
  go_wp2_with fail
  refine Calls.mono (callv (contact_Check a0 a1 a2 n0 n1 n2 mn md _) HC.out) ?_
  rintro e w1 ⟨rfl, hb1⟩
  have hw1 : Below w.heap.size w w1 := Below.hop (by repeat' (first | exact Below.refl _ _ | assumption | (refine Below.alloc ?_ ?_ _; rotate_left; (focus (first | rfl | omega | (simp; done) | (simp; omega)))) | (refine Below.setCell ?_ ?_ _; rotate_left; (focus (first | rfl | omega | (simp; done) | (simp; omega)))) | refine Below.drew ?_)) hb1
  go_wp2
  go_ret
  exact ⟨rfl, hw1⟩

set_option maxRecDepth 100000 in
set_option maxHeartbeats 4000000 in
theorem contact_Has_ok (a0 a1 a2 n0 n1 n2 mn md f0 f1 f2 : Int) (h : cCheck ⟨⟨a0, a1, a2⟩, ⟨n0, n1, n2⟩, mn, md⟩ = 0) (w : World) :
    Calls Try.prog 59 #[vC a0 a1 a2 n0 n1 n2 mn md, vV f0 f1 f2] w fun r w' => r = .returned (.bool (cHas ⟨⟨a0, a1, a2⟩, ⟨n0, n1, n2⟩, mn, md⟩ ⟨f0, f1, f2⟩)) ∧ Below w.heap.size w w' := by
  have hok := ctOk h
  obtain ⟨RR, hR⟩ : ∃ R, cHas ⟨⟨a0, a1, a2⟩, ⟨n0, n1, n2⟩, mn, md⟩ ⟨f0, f1, f2⟩ = R := ⟨_, rfl⟩
  rw [hR]
  have HR := Lib.hid (show RR = ((ng f0 && (ng f1 && ng f2)) && (decide (0 ≤ vDot ⟨f0, f1, f2⟩ ⟨n0, n1, n2⟩) && decide (md * cSide ⟨n0, n1, n2⟩ ⟨f0, f1, f2⟩ ≤ mn * vDot ⟨f0, f1, f2⟩ ⟨n0, n1, n2⟩))) by rw [← hR]; unfold cHas; rw [h]; rfl)
  have HC := Lib.hid (congrArg (Value.int IntKind.i64) h)
  have HU := Lib.hid hok.u
  have hmn0 : 0 ≤ mn := hok.n1
  have hmn1 : mn ≤ 10 := by have h1 := hok.n2; have h2 := hok.d2; simp only [] at h1 h2; omega
  have hmd0 : 0 ≤ md := by have h1 := hok.d1; simp only [] at h1; omega
  have hmd1 : md ≤ 10 := hok.d2
  clear h hR hok
  go_enter Try.func59, Try.ntmps59
  go_wp2_with fail
  refine Calls.mono (callv (contact_Check a0 a1 a2 n0 n1 n2 mn md _) HC.out) ?_
  rintro e w1 ⟨rfl, hb1⟩
  have o1 : Own w1 (w.heap.size) #[.int .i64 a0, .int .i64 a1, .int .i64 a2, .int .i64 n0, .int .i64 n1, .int .i64 n2, .int .i64 mn, .int .i64 md] := Own.below (by repeat' (first | ((refine Own.new ?_); (focus (first | rfl | omega | (simp; done) | (simp; omega)))) | assumption | refine Own.alloc ?_ _ | refine Own.drew ?_ | (refine Own.far ?_ ?_ _; rotate_left; (focus (first | rfl | omega | (simp; done) | (simp; omega)))))) hb1
  have o1c := o1.cell
  have o1f := o1.thaw
  have o1z := o1.lt
  have p1 : Own w1 (w.heap.size + 1) #[.int .i64 f0, .int .i64 f1, .int .i64 f2] := Own.below (by repeat' (first | ((refine Own.new ?_); (focus (first | rfl | omega | (simp; done) | (simp; omega)))) | assumption | refine Own.alloc ?_ _ | refine Own.drew ?_ | (refine Own.far ?_ ?_ _; rotate_left; (focus (first | rfl | omega | (simp; done) | (simp; omega)))))) hb1
  have p1c := p1.cell
  have p1f := p1.thaw
  have p1z := p1.lt
  have hs1 := hb1.size
  (try simp at hs1)
  have hw1 : Below w.heap.size w w1 := Below.hop (by repeat' (first | exact Below.refl _ _ | assumption | (refine Below.alloc ?_ ?_ _; rotate_left; (focus (first | rfl | omega | (simp; done) | (simp; omega)))) | (refine Below.setCell ?_ ?_ _; rotate_left; (focus (first | rfl | omega | (simp; done) | (simp; omega)))) | refine Below.drew ?_)) hb1
  have hz1 := hw1.size
  clear hb1
  go_wp2_with fail
  refine Calls.mono (contact_numbers n0 n1 n2 _) ?_
  rintro e w2 ⟨rfl, hb2⟩
  have o2 : Own w2 (w.heap.size) #[.int .i64 a0, .int .i64 a1, .int .i64 a2, .int .i64 n0, .int .i64 n1, .int .i64 n2, .int .i64 mn, .int .i64 md] := Own.below (by repeat' (first | ((refine Own.new ?_); (focus (first | rfl | omega | (simp; done) | (simp; omega)))) | assumption | refine Own.alloc ?_ _ | refine Own.drew ?_ | (refine Own.far ?_ ?_ _; rotate_left; (focus (first | rfl | omega | (simp; done) | (simp; omega)))))) hb2
  have o2c := o2.cell
  have o2f := o2.thaw
  have o2z := o2.lt
  have p2 : Own w2 (w.heap.size + 1) #[.int .i64 f0, .int .i64 f1, .int .i64 f2] := Own.below (by repeat' (first | ((refine Own.new ?_); (focus (first | rfl | omega | (simp; done) | (simp; omega)))) | assumption | refine Own.alloc ?_ _ | refine Own.drew ?_ | (refine Own.far ?_ ?_ _; rotate_left; (focus (first | rfl | omega | (simp; done) | (simp; omega)))))) hb2
  have p2c := p2.cell
  have p2f := p2.thaw
  have p2z := p2.lt
  clear o1c o1f p1c p1f
  replace hw1 : Below w.heap.size w w2 := Below.hop hw1 hb2
  replace hz1 := hw1.size
  clear hb2 hs1
  go_wp2_with fail
  refine Calls.mono (contact_numbers f0 f1 f2 _) ?_
  rintro e w3 ⟨rfl, hb3⟩
  have o3 : Own w3 (w.heap.size) #[.int .i64 a0, .int .i64 a1, .int .i64 a2, .int .i64 n0, .int .i64 n1, .int .i64 n2, .int .i64 mn, .int .i64 md] := Own.below (by repeat' (first | ((refine Own.new ?_); (focus (first | rfl | omega | (simp; done) | (simp; omega)))) | assumption | refine Own.alloc ?_ _ | refine Own.drew ?_ | (refine Own.far ?_ ?_ _; rotate_left; (focus (first | rfl | omega | (simp; done) | (simp; omega)))))) hb3
  have o3c := o3.cell
  have o3f := o3.thaw
  have o3z := o3.lt
  have p3 : Own w3 (w.heap.size + 1) #[.int .i64 f0, .int .i64 f1, .int .i64 f2] := Own.below (by repeat' (first | ((refine Own.new ?_); (focus (first | rfl | omega | (simp; done) | (simp; omega)))) | assumption | refine Own.alloc ?_ _ | refine Own.drew ?_ | (refine Own.far ?_ ?_ _; rotate_left; (focus (first | rfl | omega | (simp; done) | (simp; omega)))))) hb3
  have p3c := p3.cell
  have p3f := p3.thaw
  have p3z := p3.lt
  have q3 : Own w3 (w2.heap.size) #[.int .i64 n0, .int .i64 n1, .int .i64 n2] := Own.below (by repeat' (first | ((refine Own.new ?_); (focus (first | rfl | omega | (simp; done) | (simp; omega)))) | assumption | refine Own.alloc ?_ _ | refine Own.drew ?_ | (refine Own.far ?_ ?_ _; rotate_left; (focus (first | rfl | omega | (simp; done) | (simp; omega)))))) hb3
  have q3c := q3.cell
  have q3f := q3.thaw
  have q3z := q3.lt
  replace hw1 : Below w.heap.size w w3 := Below.hop (hw1.alloc (by omega) _) hb3
  clear hb3 hz1 o2c o2f o2 p2c p2f p2
  go_wp2
  go_loop [5, 18] (fun s i => ∃ (k : Nat) (S : Int), k ≤ 3 ∧ i = .int .i64 k ∧ s = .int .i64 S ∧ (1 ≤ k → ng f0 = true) ∧ (2 ≤ k → ng f1 = true) ∧ (3 ≤ k → ng f2 = true) ∧ S = sideK k ⟨n0, n1, n2⟩ ⟨f0, f1, f2⟩ ∧ 0 ≤ S ∧ S ≤ 2147483648 * k) (fun _ i => 3 - (intOf i).toNat)
  case atStart => exact ⟨0, 0, by omega, rfl, rfl, by omega, by omega, by omega, rfl, by omega, by omega⟩
  case round =>
    obtain ⟨k, S, hk, rfl, rfl, h1, h2, h3, hS, s0, s1⟩ := hrel
    have H1 := Lib.hid h1
    have H2 := Lib.hid h2
    have H3 := Lib.hid h3
    have HS := Lib.hid hS
    have s2 : S ≤ 6442450944 := by omega
    clear h1 h2 h3 hS
    rcases (show k = 0 ∨ k = 1 ∨ k = 2 ∨ k = 3 by omega) with rfl | rfl | rfl | rfl
    · have ix : ∀ w, (Instr.index 47 (.agg #[.int .i64 f0, .int .i64 f1, .int .i64 f2]) (.int .i64 0)).run Try.prog w = .ok (.int .i64 f0) w := fun _ => by kernel_rfl
      by_cases hlo : f0 < -2147483648
      · have HF := Lib.hid (show RR = false by rw [HR.out, show ng f0 = false by unfold ng; simp; omega]; simp)
        go_wp2
        go_ret
        exact ⟨ret_bool HF.out.symm, (by repeat' (first | exact Below.refl _ _ | assumption | (refine Below.alloc ?_ ?_ _; rotate_left; (focus (first | rfl | omega | (simp; done) | (simp; omega)))) | (refine Below.setCell ?_ ?_ _; rotate_left; (focus (first | rfl | omega | (simp; done) | (simp; omega)))) | refine Below.drew ?_))⟩
      · by_cases hhi : 2147483648 < f0
        · have HF := Lib.hid (show RR = false by rw [HR.out, show ng f0 = false by unfold ng; simp; omega]; simp)
          go_wp2
          go_ret
          exact ⟨ret_bool HF.out.symm, (by repeat' (first | exact Below.refl _ _ | assumption | (refine Below.alloc ?_ ?_ _; rotate_left; (focus (first | rfl | omega | (simp; done) | (simp; omega)))) | (refine Below.setCell ?_ ?_ _; rotate_left; (focus (first | rfl | omega | (simp; done) | (simp; omega)))) | refine Below.drew ?_))⟩
        · have hg : ng f0 = true := by unfold ng; simp; omega
          have b1 : -2147483648 ≤ f0 := by omega
          have b2 : f0 ≤ 2147483648 := by omega
          obtain ⟨M, hM⟩ : ∃ M, (if f0 < -f0 then -f0 else f0) = M := ⟨_, rfl⟩
          have m0 : 0 ≤ M := by rw [← hM]; split <;> omega
          have m1 : M ≤ 2147483648 := by rw [← hM]; split <;> omega
          have HG := Lib.hid hg
          clear hg
          by_cases hn : n0 = 0
          · have HD := Lib.hid (show sd1 n0 f0 = M by unfold sd1; rw [if_pos hn, hM])
            have HN := Lib.hid hn
            have hnb : (n0 == 0) = true := by simpa using hn
            clear hn
            go_wp2
            go_round
            case rel => exact ⟨1, S + M, by omega, by go_num, by go_num, fun _ => HG.out, fun h => by omega, fun h => by omega, by have h1 := HS.out; have h2 := HD.out; simp only [sideK] at h1 ⊢; omega, by omega, by omega⟩
            case measure => simp [intOf]
          · have HD := Lib.hid (show sd1 n0 f0 = 0 by unfold sd1; rw [if_neg hn])
            go_wp2
            go_round
            case rel => exact ⟨1, S, by omega, by go_num, by go_num, fun _ => HG.out, fun h => by omega, fun h => by omega, by have h1 := HS.out; have h2 := HD.out; simp only [sideK] at h1 ⊢; omega, by omega, by omega⟩
            case measure => simp [intOf]
    · have ix : ∀ w, (Instr.index 47 (.agg #[.int .i64 f0, .int .i64 f1, .int .i64 f2]) (.int .i64 1)).run Try.prog w = .ok (.int .i64 f1) w := fun _ => by kernel_rfl
      by_cases hlo : f1 < -2147483648
      · have HF := Lib.hid (show RR = false by rw [HR.out, show ng f1 = false by unfold ng; simp; omega]; simp)
        go_wp2
        go_ret
        exact ⟨ret_bool HF.out.symm, (by repeat' (first | exact Below.refl _ _ | assumption | (refine Below.alloc ?_ ?_ _; rotate_left; (focus (first | rfl | omega | (simp; done) | (simp; omega)))) | (refine Below.setCell ?_ ?_ _; rotate_left; (focus (first | rfl | omega | (simp; done) | (simp; omega)))) | refine Below.drew ?_))⟩
      · by_cases hhi : 2147483648 < f1
        · have HF := Lib.hid (show RR = false by rw [HR.out, show ng f1 = false by unfold ng; simp; omega]; simp)
          go_wp2
          go_ret
          exact ⟨ret_bool HF.out.symm, (by repeat' (first | exact Below.refl _ _ | assumption | (refine Below.alloc ?_ ?_ _; rotate_left; (focus (first | rfl | omega | (simp; done) | (simp; omega)))) | (refine Below.setCell ?_ ?_ _; rotate_left; (focus (first | rfl | omega | (simp; done) | (simp; omega)))) | refine Below.drew ?_))⟩
        · have hg : ng f1 = true := by unfold ng; simp; omega
          have b1 : -2147483648 ≤ f1 := by omega
          have b2 : f1 ≤ 2147483648 := by omega
          obtain ⟨M, hM⟩ : ∃ M, (if f1 < -f1 then -f1 else f1) = M := ⟨_, rfl⟩
          have m0 : 0 ≤ M := by rw [← hM]; split <;> omega
          have m1 : M ≤ 2147483648 := by rw [← hM]; split <;> omega
          have HG := Lib.hid hg
          clear hg
          by_cases hn : n1 = 0
          · have HD := Lib.hid (show sd1 n1 f1 = M by unfold sd1; rw [if_pos hn, hM])
            have HN := Lib.hid hn
            have hnb : (n1 == 0) = true := by simpa using hn
            clear hn
            go_wp2
            go_round
            case rel => exact ⟨2, S + M, by omega, by go_num, by go_num, fun h => H1.out (by omega), fun _ => HG.out, fun h => by omega, by have h1 := HS.out; have h2 := HD.out; simp only [sideK] at h1 ⊢; omega, by omega, by omega⟩
            case measure => simp [intOf]
          · have HD := Lib.hid (show sd1 n1 f1 = 0 by unfold sd1; rw [if_neg hn])
            go_wp2
            go_round
            case rel => exact ⟨2, S, by omega, by go_num, by go_num, fun h => H1.out (by omega), fun _ => HG.out, fun h => by omega, by have h1 := HS.out; have h2 := HD.out; simp only [sideK] at h1 ⊢; omega, by omega, by omega⟩
            case measure => simp [intOf]
    · have ix : ∀ w, (Instr.index 47 (.agg #[.int .i64 f0, .int .i64 f1, .int .i64 f2]) (.int .i64 2)).run Try.prog w = .ok (.int .i64 f2) w := fun _ => by kernel_rfl
      by_cases hlo : f2 < -2147483648
      · have HF := Lib.hid (show RR = false by rw [HR.out, show ng f2 = false by unfold ng; simp; omega]; simp)
        go_wp2
        go_ret
        exact ⟨ret_bool HF.out.symm, (by repeat' (first | exact Below.refl _ _ | assumption | (refine Below.alloc ?_ ?_ _; rotate_left; (focus (first | rfl | omega | (simp; done) | (simp; omega)))) | (refine Below.setCell ?_ ?_ _; rotate_left; (focus (first | rfl | omega | (simp; done) | (simp; omega)))) | refine Below.drew ?_))⟩
      · by_cases hhi : 2147483648 < f2
        · have HF := Lib.hid (show RR = false by rw [HR.out, show ng f2 = false by unfold ng; simp; omega]; simp)
          go_wp2
          go_ret
          exact ⟨ret_bool HF.out.symm, (by repeat' (first | exact Below.refl _ _ | assumption | (refine Below.alloc ?_ ?_ _; rotate_left; (focus (first | rfl | omega | (simp; done) | (simp; omega)))) | (refine Below.setCell ?_ ?_ _; rotate_left; (focus (first | rfl | omega | (simp; done) | (simp; omega)))) | refine Below.drew ?_))⟩
        · have hg : ng f2 = true := by unfold ng; simp; omega
          have b1 : -2147483648 ≤ f2 := by omega
          have b2 : f2 ≤ 2147483648 := by omega
          obtain ⟨M, hM⟩ : ∃ M, (if f2 < -f2 then -f2 else f2) = M := ⟨_, rfl⟩
          have m0 : 0 ≤ M := by rw [← hM]; split <;> omega
          have m1 : M ≤ 2147483648 := by rw [← hM]; split <;> omega
          have HG := Lib.hid hg
          clear hg
          by_cases hn : n2 = 0
          · have HD := Lib.hid (show sd1 n2 f2 = M by unfold sd1; rw [if_pos hn, hM])
            have HN := Lib.hid hn
            have hnb : (n2 == 0) = true := by simpa using hn
            clear hn
            go_wp2
            go_round
            case rel => exact ⟨3, S + M, by omega, by go_num, by go_num, fun h => H1.out (by omega), fun h => H2.out (by omega), fun _ => HG.out, by have h1 := HS.out; have h2 := HD.out; simp only [sideK] at h1 ⊢; omega, by omega, by omega⟩
            case measure => simp [intOf]
          · have HD := Lib.hid (show sd1 n2 f2 = 0 by unfold sd1; rw [if_neg hn])
            go_wp2
            go_round
            case rel => exact ⟨3, S, by omega, by go_num, by go_num, fun h => H1.out (by omega), fun h => H2.out (by omega), fun _ => HG.out, by have h1 := HS.out; have h2 := HD.out; simp only [sideK] at h1 ⊢; omega, by omega, by omega⟩
            case measure => simp [intOf]
    · have hng : (ng f0 && (ng f1 && ng f2)) = true := by rw [H1.out (by omega), H2.out (by omega), H3.out (by omega)]; rfl
      have hd := dot_unit (f := ⟨f0, f1, f2⟩) HU.out hng
      obtain ⟨U, hU⟩ : ∃ U, vDot ⟨f0, f1, f2⟩ ⟨n0, n1, n2⟩ = U := ⟨_, rfl⟩
      have u1 : -2147483648 ≤ U := by rw [← hU]; exact hd.2.1
      have u2 : U ≤ 2147483648 := by rw [← hU]; exact hd.2.2
      have HDU := Lib.hid (congrArg (Value.int IntKind.i64) hU)
      have m1 := small_mul hmd0 hmd1 (show -6442450944 ≤ S by omega) s2 (by omega)
      have m2 := small_mul hmn0 hmn1 (show -2147483648 ≤ U by omega) u2 (by omega)
      obtain ⟨PS, hPS⟩ : ∃ p, md * S = p := ⟨_, rfl⟩
      obtain ⟨PU, hPU⟩ : ∃ p, mn * U = p := ⟨_, rfl⟩
      rw [hPS] at m1
      rw [hPU] at m2
      have HF := Lib.hid (show RR = (decide (0 ≤ U) && decide (PS ≤ PU)) by rw [HR.out, hng, hU, hPU, ← hPS, HS.out]; rfl)
      obtain ⟨p1, p2⟩ := m1
      obtain ⟨p3, p4⟩ := m2
      clear H1 H2 H3 HS HR HU hd hU hng
      go_wp2_with fail
      refine Calls.mono (callv (plane_Dot f0 f1 f2 n0 n1 n2 _) HDU.out) ?_
      rintro e w4 ⟨rfl, hb4⟩
      have o4 : Own w4 (w.heap.size) #[.int .i64 a0, .int .i64 a1, .int .i64 a2, .int .i64 n0, .int .i64 n1, .int .i64 n2, .int .i64 mn, .int .i64 md] := Own.below (by repeat' (first | ((refine Own.new ?_); (focus (first | rfl | omega | (simp; done) | (simp; omega)))) | assumption | refine Own.alloc ?_ _ | refine Own.drew ?_ | (refine Own.far ?_ ?_ _; rotate_left; (focus (first | rfl | omega | (simp; done) | (simp; omega)))))) hb4
      have o4c := o4.cell
      have o4f := o4.thaw
      have o4z := o4.lt
      have p4 : Own w4 (w.heap.size + 1) #[.int .i64 f0, .int .i64 f1, .int .i64 f2] := Own.below (by repeat' (first | ((refine Own.new ?_); (focus (first | rfl | omega | (simp; done) | (simp; omega)))) | assumption | refine Own.alloc ?_ _ | refine Own.drew ?_ | (refine Own.far ?_ ?_ _; rotate_left; (focus (first | rfl | omega | (simp; done) | (simp; omega)))))) hb4
      have p4c := p4.cell
      have p4f := p4.thaw
      have p4z := p4.lt
      clear o3c o3f p3c p3f
      replace hw1 : Below w.heap.size w w4 := Below.hop hw1 hb4
      clear hb4
      go_wp2
      all_goals go_ret
      all_goals exact ⟨ret_bool (by rw [HF.out]; simp; try omega), hw1⟩
theorem contact_Has (a0 a1 a2 n0 n1 n2 mn md f0 f1 f2 : Int) (w : World) :
    Calls Try.prog 59 #[vC a0 a1 a2 n0 n1 n2 mn md, vV f0 f1 f2] w fun r w' => r = .returned (.bool (cHas ⟨⟨a0, a1, a2⟩, ⟨n0, n1, n2⟩, mn, md⟩ ⟨f0, f1, f2⟩)) ∧ Below w.heap.size w w' := by
  by_cases h : cCheck ⟨⟨a0, a1, a2⟩, ⟨n0, n1, n2⟩, mn, md⟩ = 0
  · exact contact_Has_ok a0 a1 a2 n0 n1 n2 mn md f0 f1 f2 h w
  · exact contact_Has_no a0 a1 a2 n0 n1 n2 mn md f0 f1 f2 h w
end Go.Proofs.Ythijnggeoinlfaa
