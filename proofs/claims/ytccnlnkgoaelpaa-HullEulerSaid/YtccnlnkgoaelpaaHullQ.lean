/- The reference of package hull: corner. -/
import Derived.Test.YtccnlnkgoaelpaaHullY
namespace Go.Proofs.Ytccnlnkgoaelpaa
open Go.RowKit Go.Shelf

theorem infoVe : (Try.prog.info? 31).map (fun i => (i.zero, i.size, i.bytes)) = some (some (.agg #[.int .i64 0, .int .i64 0, .int .i64 0]), 3, 24) := by kernel_rfl
/-- An owned row of vectors, as a list of vectors in memory. -/
theorem vecs_of_row {W : World} {base : Nat} {v : Value} {G : List V3} (h : W.ownsRow base 31 3 v G.length (G.flatMap encV)) :
    ∃ A c, v = .slice A G.length c ∧ G.length ≤ c ∧ c ≤ 9223372036854775807 ∧ VecsAt W A G.length G ∧ ∀ b off, A = some ⟨b, off, none⟩ → base ≤ b := by
  rcases Nat.eq_zero_or_pos G.length with h0 | h0
  · obtain rfl : G = [] := List.eq_nil_of_length_eq_zero h0
    rcases h.2 with ⟨rfl, _⟩ | ⟨g, cap, cur, rfl, h1, h2, h3, h4, h5, h6⟩
    · exact ⟨none, 0, rfl, by simp, by omega, ⟨rfl, by simp, fun h => by simp at h⟩, fun _ _ e => by cases e⟩
    · exact ⟨_, cap, rfl, by simp, by unfold maxLen at *; omega, ⟨rfl, by simp, fun h => by simp at h⟩, fun _ _ e => by cases e; exact h1⟩
  · obtain ⟨g, cap, rfl⟩ := ownsRow_pos' h h0
    obtain ⟨hg1, hg2, hg3, cs, hgo, hgc⟩ := ownsRow_own h h0
    have hq : RowO W g G := ⟨cs, hgo, fun i hi => by
      have q := fun k (hk : k < 3) => (hgc (i * 3 + k) (by omega)).trans (flat_at G i k hi hk)
      exact ⟨q 0 (by omega), q 1 (by omega), q 2 (by omega)⟩⟩
    unfold maxLen at hg3
    have q := hq.vecs (Nat.le_refl _) (by omega)
    rw [List.take_length] at q
    exact ⟨_, cap, rfl, hg2, by omega, q, fun _ _ e => by cases e; exact hg1⟩
theorem vecs_of_row' {W : World} {base n : Nat} {v : Value} {G : List V3} (hn : G.length = n) (h : W.ownsRow base 31 3 v n (G.flatMap encV)) :
    ∃ A c, v = .slice A n c ∧ n ≤ c ∧ c ≤ 9223372036854775807 ∧ VecsAt W A n G ∧ ∀ b off, A = some ⟨b, off, none⟩ → base ≤ b := by
  subst hn
  exact vecs_of_row h
/-- Three normals in one plane. -/
def NoT (G : List Pl) (i j k : Nat) : Prop := vDot (vCross (pAt G i).n (pAt G j).n) (pAt G k).n = 0
theorem span_no3 {G : List Pl} (h : ∀ i j k, i < G.length → j < i → k < j → NoT G i j k) : spanB G = false := by
  rw [Bool.eq_false_iff]
  intro e
  obtain ⟨i, j, k, hi, hj, hk, hne⟩ := span_three.1 e
  exact hne (h i j k hi hj hk)
theorem map_at (G : List Pl) {i : Nat} (h : i < G.length) : vAt (G.map (·.n)) i = (pAt G i).n := by
  unfold vAt pAt; simp [List.getD_eq_getElem?_getD, h]
theorem flat_snoc (F : List V3) (v : V3) : (F ++ [v]).flatMap encV = F.flatMap encV ++ [.int .i64 v.x, .int .i64 v.y, .int .i64 v.z] := by simp [encV]
end Go.Proofs.Ytccnlnkgoaelpaa
