/- An argument that is an array of two slices of ints. No condition. -/
import Derived.Test.YthijnggeoinlfaaFrame2
namespace Go.Proofs.Ythijnggeoinlfaa
open Go.ChangeShapes Go.WideShapes Go.ChangeAt Go.RowKit

section
variable {H : Type} {enc : TypeId × Value → H} {P : Program} {w : World} {base : Nat} {held : Bool}
theorem slice_in {e i : TypeId} {fuel : Nat} {cs : List Value} {x : DataW H × List MemPlace} (he : P.underlying e = some (.slice i)) (hi : P.underlying i = some (.int .i64)) (hc : P.cellsOf i = 1)
    (h : DataW.trod enc P w base (fun _ => true) held fuel e cs = some x) :
    ∃ a n c z, cs = [.slice a n c] ∧ SliceI w a n z ∧ n ≤ c ∧ c ≤ 9223372036854775807 := by
  rcases open_ints he hi hc h with ⟨rfl, _⟩ | ⟨x, l, c, zs, rfl, _, hl, hm, hz, _, hcell, hwz⟩
  · exact ⟨_, _, _, _, rfl, sliceI_of (zs := []) (.inl ⟨rfl, rfl, rfl, rfl⟩)⟩
  · exact ⟨_, _, _, _, rfl, sliceI_of (zs := zs) (.inr ⟨_, rfl, hl, hm, by simpa using hz, hcell, hwz⟩)⟩
theorem open_two {t e i : TypeId} {v : Value} {cs : Array Value} {d : DataW H} {p : List MemPlace} (ht : P.underlying t = some (.array 2 e)) (hm : P.cellsOf e = 1) (hct : P.cellsOf t = 2) (he : P.underlying e = some (.slice i)) (hi : P.underlying i = some (.int .i64)) (hc : P.cellsOf i = 1)
    (hv : v = .agg cs) (h : DataW.Trod enc P w base (fun _ => true) held t v d p) :
    ∃ a0 n0 c0 z0 a1 n1 c1 z1, v = .agg #[.slice a0 n0 c0, .slice a1 n1 c1] ∧ (SliceI w a0 n0 z0 ∧ n0 ≤ c0 ∧ c0 ≤ 9223372036854775807) ∧ (SliceI w a1 n1 z1 ∧ n1 ≤ c1 ∧ c1 ≤ 9223372036854775807) := by
  obtain ⟨fuel, h⟩ := h
  subst hv
  obtain ⟨xs, f, _, _, hlen, hxs, hat⟩ := DataW.trod_array ht h
  have hl2 : cs.toList.length = 2 := hlen.trans hct
  have key : ∀ j, j < 2 → ∃ a n c z, (cs.toList.drop j).take 1 = [.slice a n c] ∧ SliceI w a n z ∧ n ≤ c ∧ c ≤ 9223372036854775807 := by
    intro j hj
    have h1 := hat j hj
    rw [hm] at h1
    have hx : xs[j]? = some (xs[j]'(by omega)) := List.getElem?_eq_getElem (by omega)
    rw [hx] at h1
    have := slice_in he hi hc h1
    simpa [Value.cells] using this
  match hcs : cs.toList, hl2 with
  | [x, y], _ =>
    obtain ⟨a0, n0, c0, z0, e0, s0⟩ := key 0 (by omega)
    obtain ⟨a1, n1, c1, z1, e1, s1⟩ := key 1 (by omega)
    rw [hcs] at e0 e1
    simp at e0 e1
    refine ⟨a0, n0, c0, z0, a1, n1, c1, z1, ?_, s0, s1⟩
    rw [← e0, ← e1]
    have : cs = #[x, y] := by rw [← Array.toList_inj]; exact hcs
    rw [this]
end
end Go.Proofs.Ythijnggeoinlfaa
