/- What Compare in package plane and in its reference returns. No condition. -/
import Derived.Test.YtccnlnkgoaelpaaPlaneV
namespace Go.Proofs.Ytccnlnkgoaelpaa
open Go.RowKit

theorem cmp_step {L : List (Int × Int)} {k : Nat} (h : k < L.length) : cmpL (L.drop k) = if L[k].1 = L[k].2 then cmpL (L.drop (k + 1)) else ordI L[k].1 L[k].2 := by
  rw [List.drop_eq_getElem_cons h]; rfl
theorem cmp_lt {L : List (Int × Int)} {k : Nat} (h : k < L.length) (hc : L[k].1 < L[k].2) : cmpL (L.drop k) = -1 := by
  rw [cmp_step h, if_neg (by omega)]; unfold ordI; rw [if_pos hc]
theorem cmp_gt {L : List (Int × Int)} {k : Nat} (h : k < L.length) (hc : L[k].2 < L[k].1) : cmpL (L.drop k) = 1 := by
  rw [cmp_step h, if_neg (by omega)]; unfold ordI; rw [if_neg (by omega), if_pos hc]
theorem cmp_eq {L : List (Int × Int)} {k : Nat} (h : k < L.length) (hc : L[k].1 = L[k].2) : cmpL (L.drop k) = cmpL (L.drop (k + 1)) := by
  rw [cmp_step h, if_pos hc]
theorem row4 {a b c d : Int} {L : List Int} (hL : L = [a, b, c, d]) {k : Nat} (h : k < L.length) : #[Value.int .i64 a, Value.int .i64 b, Value.int .i64 c, Value.int .i64 d][k]? = some (.int .i64 L[k]) := by
  subst hL
  match k, h with
  | 0, _ => rfl
  | 1, _ => rfl
  | 2, _ => rfl
  | 3, _ => rfl

theorem ordI_zero {a b : Int} : ordI a b = 0 ↔ a = b := by
  unfold ordI; split
  · omega
  · split <;> omega

set_option maxRecDepth 100000 in
set_option maxHeartbeats 1000000 in
theorem plane_Compare (x y z b x' y' z' b' : Int) (w : World) :
    Calls Try.prog 10 #[vP x y z b, vP x' y' z' b'] w fun r w' => r = .returned (.int .i64 (pCompare ⟨⟨x, y, z⟩, b⟩ ⟨⟨x', y', z'⟩, b'⟩)) ∧ Below w.heap.size w w' := by
  obtain ⟨L, hL⟩ : ∃ L, [(x, x'), (y, y'), (z, z'), (b, b')] = L := ⟨_, rfl⟩
  have hcmp := Lib.hid (show pCompare ⟨⟨x, y, z⟩, b⟩ ⟨⟨x', y', z'⟩, b'⟩ = cmpL (L.drop 0) by rw [← hL]; rfl)
  have hlen : L.length = 4 := by rw [← hL]; rfl
  have hat : ∀ k (h : k < L.length), #[Value.int .i64 x, .int .i64 x', .int .i64 y, .int .i64 y', .int .i64 z, .int .i64 z', .int .i64 b, .int .i64 b'][k * 2]? = some (.int .i64 L[k].1) ∧
      #[Value.int .i64 x, .int .i64 x', .int .i64 y, .int .i64 y', .int .i64 z, .int .i64 z', .int .i64 b, .int .i64 b'][k * 2 + 1]? = some (.int .i64 L[k].2) := by
    intro k h
    subst hL
    match k, h with
    | 0, _ => exact ⟨rfl, rfl⟩
    | 1, _ => exact ⟨rfl, rfl⟩
    | 2, _ => exact ⟨rfl, rfl⟩
    | 3, _ => exact ⟨rfl, rfl⟩
  have HAT := Lib.hid hat
  have HN := Lib.hid hlen
  clear hL hlen hat
  go_enter Try.func10, Try.ntmps10
  go_wp2
  go_step3
  go_wp2
  go_step3
  go_wp2
  have p1 : Own ((((w.alloc (.cells #[.int .i64 x, .int .i64 y, .int .i64 z, .int .i64 b] 33)).alloc (.cells #[.int .i64 x', .int .i64 y', .int .i64 z', .int .i64 b'] 33))).alloc (.cells #[.int .i64 x, .int .i64 x', .int .i64 y, .int .i64 y', .int .i64 z, .int .i64 z', .int .i64 b, .int .i64 b'] 66)) (w.heap.size + 1 + 1) #[.int .i64 x, .int .i64 x', .int .i64 y, .int .i64 y', .int .i64 z, .int .i64 z', .int .i64 b, .int .i64 b'] := (by repeat' (first | ((refine Own.new ?_); (focus (first | rfl | omega | (simp; done) | (simp; omega)))) | assumption | refine Own.alloc ?_ _ | refine Own.drew ?_ | (refine Own.far ?_ ?_ _; rotate_left; (focus (first | rfl | omega | (simp; done) | (simp; omega))))))
  have hw2 : Below w.heap.size w ((((w.alloc (.cells #[.int .i64 x, .int .i64 y, .int .i64 z, .int .i64 b] 33)).alloc (.cells #[.int .i64 x', .int .i64 y', .int .i64 z', .int .i64 b'] 33))).alloc (.cells #[.int .i64 x, .int .i64 x', .int .i64 y, .int .i64 y', .int .i64 z, .int .i64 z', .int .i64 b, .int .i64 b'] 66)) := (by repeat' (first | exact Below.refl _ _ | assumption | (refine Below.alloc ?_ ?_ _; rotate_left; (focus (first | rfl | omega | (simp; done) | (simp; omega)))) | (refine Below.setCell ?_ ?_ _; rotate_left; (focus (first | rfl | omega | (simp; done) | (simp; omega)))) | refine Below.drew ?_))
  generalize (((w.alloc (.cells #[.int .i64 x, .int .i64 y, .int .i64 z, .int .i64 b] 33)).alloc (.cells #[.int .i64 x', .int .i64 y', .int .i64 z', .int .i64 b'] 33))).alloc (.cells #[.int .i64 x, .int .i64 x', .int .i64 y, .int .i64 y', .int .i64 z, .int .i64 z', .int .i64 b, .int .i64 b'] 66) = w2 at *
  have P1 := Lib.hid p1
  have HW := Lib.hid hw2
  clear p1 hw2
  go_loopw [5, 36] (fun out i wr => ∃ k : Nat, k ≤ 4 ∧ i = .int .i64 k ∧ out = .int .i64 0 ∧ Below w.heap.size w wr ∧ Own wr (w.heap.size + 1 + 1) #[.int .i64 x, .int .i64 x', .int .i64 y, .int .i64 y', .int .i64 z, .int .i64 z', .int .i64 b, .int .i64 b'] ∧ cmpL (L.drop k) = cmpL (L.drop 0)) (fun _ i _ => 4 - (intOf i).toNat)
  case atStart => exact ⟨0, by omega, rfl, rfl, HW.out, P1.out, rfl⟩
  case round =>
    obtain ⟨k, hk, rfl, rfl, hbel, hown, hcm⟩ := hrel
    have HC := Lib.hid hcm
    have HB := Lib.hid hbel
    have HO := Lib.hid hown
    have hz := hown.lt
    have hs := hbel.size
    clear hcm hbel
    by_cases hlt : k < 4
    · have hlt2 : k < L.length := by rw [HN.out]; exact hlt
      have hk4 : (k : Int) < 4 := by omega
      have c1 : wr.cell? ⟨w.heap.size + 1 + 1, k * 2, none⟩ = some (.int .i64 L[k].1) := (hown.cell _).trans (HAT.out k hlt2).1
      have c2 : wr.cell? ⟨w.heap.size + 1 + 1, k * 2 + 1, none⟩ = some (.int .i64 L[k].2) := (hown.cell _).trans (HAT.out k hlt2).2
      clear hown
      by_cases a1 : L[k].1 = L[k].2
      · have H1 := Lib.hid (cmp_eq hlt2 a1)
        have H0 := Lib.hid (ordI_zero.2 a1)
        clear a1
        go_wp2_with (go_at_call 34; refine (callv (plane_order _ _ _) (congrArg (Value.int IntKind.i64) H0.out)).mono ?_; rintro e w' ⟨rfl, rfl⟩)
        go_roundw
        case rel => exact ⟨k + 1, by omega, by go_num, rfl, HB.out.alloc (by omega) _, HO.out.alloc _, H1.out.symm.trans HC.out⟩
        case measure => simp [intOf]; omega
      · have H1 := Lib.hid ((cmp_step hlt2).trans (if_neg a1))
        have H0 : (ordI L[k].1 L[k].2 == 0) = false := by simpa using fun h => a1 (ordI_zero.1 h)
        clear a1
        go_wp2_with (go_at_call 34; refine (plane_order _ _ _).mono ?_; rintro e w' ⟨rfl, rfl⟩)
        rw [Exit.noGoto_ret]
        go_ret
        exact ⟨ret_int (by rw [hcmp.out, ← HC.out, H1.out]), HB.out.alloc (by omega) _⟩
    · have hk4 : k = 4 := by omega
      subst hk4
      go_wp2
      rw [Exit.noGoto_ret]
      go_ret
      exact ⟨ret_int (by rw [hcmp.out, ← HC.out, List.drop_eq_nil_of_le (by rw [HN.out]; omega)]; rfl), HB.out⟩
end Go.Proofs.Ytccnlnkgoaelpaa
