/- What Points of the reference returns: a slice that lies at the head of a block of its own. The numbers lie in a slice of ints. -/
import Derived.Test.YtccnlnkgoaelpaaDraw
namespace Go.Proofs.Ytccnlnkgoaelpaa
open Go.RowKit

theorem SliceI.cutTo {w : World} {A : Option Addr} {n : Nat} {l : List Int} (h : SliceI w A n l) (m : Nat) : SliceI w A (min n m) (l.take m) := by
  refine ⟨by rw [List.length_take, h.len]; omega, by have := h.max; omega, fun hne => ?_⟩
  have h1 : l ≠ [] := by rintro rfl; simp at hne
  obtain ⟨b, off, e, hlt, hc⟩ := h.row h1
  refine ⟨b, off, e, hlt, fun i hi => ?_⟩
  have hi2 : i < m ∧ i < l.length := by rw [List.length_take] at hi; omega
  rw [hc i hi2.2]
  simp [List.getElem?_take_of_lt hi2.1]

theorem ownsRow_own {w : World} {base : Nat} {e : TypeId} {size : Nat} {g n cap : Nat} {xs : List Value} (h : w.ownsRow base e size (.slice (some ⟨g, 0, none⟩) n cap) n xs) (hn : 0 < n) :
    base ≤ g ∧ n ≤ cap ∧ cap ≤ maxLen ∧ ∃ cs : Array Value, Own w g cs ∧ ∀ i, i < n * size → cs[i]? = xs[i]? := by
  rcases h.2 with ⟨e1, e2⟩ | ⟨g', cap', cur, e1, e2, e3, e4, e5, e6, e7⟩
  · omega
  · injection e1 with a1 a2 a3
    injection a1 with a1; injection a1 with a1
    subst a1; subst a3
    refine ⟨e2, e4, e5, cur, ⟨e, e3⟩, fun i hi => ?_⟩
    rw [← e7, List.getElem?_take_of_lt hi, Array.getElem?_toList]

theorem vecV_bd (l : List Int) (m : Int) (hm : 0 ≤ m) : -m ≤ (vecV l m).x ∧ (vecV l m).x ≤ m ∧ -m ≤ (vecV l m).y ∧ (vecV l m).y ≤ m ∧ -m ≤ (vecV l m).z ∧ (vecV l m).z ≤ m := by
  unfold vecV
  have n1 := nextV_bd l (2 * m + 1) (by omega)
  have n2 := nextV_bd l.tail (2 * m + 1) (by omega)
  have n3 := nextV_bd l.tail.tail (2 * m + 1) (by omega)
  simp only []
  omega
theorem mostV_bd (n : Int) : 0 ≤ mostV n ∧ mostV n ≤ 24 := by
  unfold mostV; repeat' split <;> omega
theorem ptAt_bd (l : List Int) (k : Nat) : -24 ≤ (ptAt l k).x ∧ (ptAt l k).x ≤ 24 ∧ -24 ≤ (ptAt l k).y ∧ (ptAt l k).y ≤ 24 ∧ -24 ≤ (ptAt l k).z ∧ (ptAt l k).z ≤ 24 := by
  have h1 := mostV_bd (nextV (l.drop (4 * k)) 4)
  have h2 := vecV_bd (l.drop (4 * k + 1)) (mostV (nextV (l.drop (4 * k)) 4)) h1.1
  unfold ptAt
  omega
/-- The cells of point k. -/
theorem ptCells_at (l : List Int) (many k : Nat) (h : k < many) : (ptCells l many)[k * 3]? = some (.int .i64 (ptAt l k).x) ∧ (ptCells l many)[k * 3 + 1]? = some (.int .i64 (ptAt l k).y) ∧ (ptCells l many)[k * 3 + 2]? = some (.int .i64 (ptAt l k).z) := by
  induction many with
  | zero => omega
  | succ n ih =>
    have e : ptCells l (n + 1) = ptCells l n ++ [Value.int .i64 (ptAt l n).x, .int .i64 (ptAt l n).y, .int .i64 (ptAt l n).z] := by
      unfold ptCells; rw [List.range_succ, List.flatMap_append]; simp
    have hlen : (ptCells l n).length = n * 3 := by
      clear ih h e
      unfold ptCells
      rw [List.length_flatMap]
      induction n with
      | zero => rfl
      | succ k ih => rw [List.range_succ, List.map_append, List.sum_append, ih]; simp; omega
    rw [e]
    by_cases hk : k < n
    · rw [List.getElem?_append_left (by omega), List.getElem?_append_left (by omega), List.getElem?_append_left (by omega)]
      exact ih hk
    · obtain rfl : k = n := by omega
      rw [List.getElem?_append_right (by omega), List.getElem?_append_right (by omega), List.getElem?_append_right (by omega), hlen]
      rw [show k * 3 - k * 3 = 0 by omega, show k * 3 + 1 - k * 3 = 1 by omega, show k * 3 + 2 - k * 3 = 2 by omega]
      exact ⟨rfl, rfl, rfl⟩

end Go.Proofs.Ytccnlnkgoaelpaa
