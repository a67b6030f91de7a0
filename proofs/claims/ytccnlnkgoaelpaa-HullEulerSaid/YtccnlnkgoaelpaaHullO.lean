/- The reference of package hull: Extreme and Has. -/
import Derived.Test.YtccnlnkgoaelpaaHullZ
import Derived.Test.YtccnlnkgoaelpaaHullR3
namespace Go.Proofs.Ytccnlnkgoaelpaa
open Go.RowKit Go.Shelf

/-- A slice of planes in memory. -/
def SlQ (w : World) (v : Value) (F : List Pl) : Prop := (F = [] ∧ v = .slice none 0 0) ∨ ∃ b off c, v = .slice (some ⟨b, off, none⟩) F.length c ∧ 0 < F.length ∧ F.length ≤ c ∧ c ≤ 9223372036854775807 ∧ PlsAt w (some ⟨b, off, none⟩) F.length F
/-- A slice of vectors in memory. -/
def SlW (w : World) (v : Value) (F : List V3) : Prop := (F = [] ∧ v = .slice none 0 0) ∨ ∃ b off c, v = .slice (some ⟨b, off, none⟩) F.length c ∧ 0 < F.length ∧ F.length ≤ c ∧ c ≤ 9223372036854775807 ∧ VecsAt w (some ⟨b, off, none⟩) F.length F
theorem SlQ.below {w w' : World} {v : Value} {F : List Pl} (h : SlQ w v F) (hb : Below w.heap.size w w') : SlQ w' v F := by
  rcases h with h | ⟨b, off, c, h1, h2, h3, h4, h5⟩
  · exact .inl h
  · exact .inr ⟨b, off, c, h1, h2, h3, h4, h5.below hb⟩
theorem SlW.below {w w' : World} {v : Value} {F : List V3} (h : SlW w v F) (hb : Below w.heap.size w w') : SlW w' v F := by
  rcases h with h | ⟨b, off, c, h1, h2, h3, h4, h5⟩
  · exact .inl h
  · exact .inr ⟨b, off, c, h1, h2, h3, h4, h5.below hb⟩
theorem slq_of_row {W : World} {base n : Nat} {v : Value} {G : List Pl} (h0 : 0 < n) (hn : G.length = n) (h : W.ownsRow base 33 4 v n (flatP G)) : SlQ W v G := by
  subst hn
  obtain ⟨g, cap, rfl⟩ := ownsRow_pos' h h0
  obtain ⟨A, c, e, h1, h2, h3⟩ := pls_of_row h
  cases e
  exact .inr ⟨g, 0, cap, rfl, h0, h1, h2, h3⟩
theorem slw_of_row {W : World} {base n : Nat} {v : Value} {G : List V3} (h0 : 0 < n) (hn : G.length = n) (h : W.ownsRow base 31 3 v n (G.flatMap encV)) : SlW W v G := by
  subst hn
  obtain ⟨g, cap, rfl⟩ := ownsRow_pos' h h0
  obtain ⟨A, c, e, h1, h2, h3, _⟩ := vecs_of_row h
  cases e
  exact .inr ⟨g, 0, cap, rfl, h0, h1, h2, h3⟩
theorem first_not {α : Type} (at' : List α → Nat → α) (lt : α → α → Bool) (p : α) (F : List α) (n : Nat) : ∃ k, k ≤ n ∧ (∀ j, j < k → lt (at' F j) p = true) ∧ (k < n → lt (at' F k) p = false) := by
  induction n with
  | zero => exact ⟨0, Nat.le_refl _, fun j hj => by omega, fun h => by omega⟩
  | succ n ih =>
    obtain ⟨k, hk, h1, h2⟩ := ih
    rcases Nat.lt_or_ge k n with h | h
    · exact ⟨k, by omega, h1, fun _ => h2 h⟩
    · obtain rfl : k = n := by omega
      cases e : lt (at' F k) p with
      | true =>
        refine ⟨k + 1, Nat.le_refl _, fun j hj => ?_, fun h => by omega⟩
        rcases Nat.lt_or_ge j k with h3 | h3
        · exact h1 j h3
        · obtain rfl : j = k := by omega
          exact e
      | false => exact ⟨k, by omega, h1, fun _ => e⟩
theorem put_atSlQ {p : Pl} {F : List Pl} {k : Nat} (hk : k ≤ F.length) (h1 : ∀ j, j < k → pLt (pAt F j) p = true) (h2 : k < F.length → pLt (pAt F k) p = false) :
    putG pLt F p = if F[k]? = some p then F else F.take k ++ p :: F.drop k := by
  have at_ : ∀ i y, F[i]? = some y → pAt F i = y := fun i y h => by unfold pAt; rw [List.getD_eq_getElem?_getD, h]; rfl
  exact putG_at p F k hk (fun i hi y hy => by rw [← at_ i y hy]; exact h1 i hi) (fun y hy => by
    have hl : k < F.length := (List.getElem?_eq_some_iff.1 hy).1
    rw [← at_ k y hy]; exact h2 hl)
theorem put_atSlW {p : V3} {F : List V3} {k : Nat} (hk : k ≤ F.length) (h1 : ∀ j, j < k → vLt (vAt F j) p = true) (h2 : k < F.length → vLt (vAt F k) p = false) :
    putG vLt F p = if F[k]? = some p then F else F.take k ++ p :: F.drop k := by
  have at_ : ∀ i y, F[i]? = some y → vAt F i = y := fun i y h => by unfold vAt; rw [List.getD_eq_getElem?_getD, h]; rfl
  exact putG_at p F k hk (fun i hi y hy => by rw [← at_ i y hy]; exact h1 i hi) (fun y hy => by
    have hl : k < F.length := (List.getElem?_eq_some_iff.1 hy).1
    rw [← at_ k y hy]; exact h2 hl)
theorem flatV_len (F : List V3) : (F.flatMap encV).length = F.length * 3 := by
  induction F with
  | nil => rfl
  | cons x l ih => rw [List.flatMap_cons, List.length_append, ih]; simp [encV]; omega
theorem Pl.ne_cases {a b c d x y z v : Int} (h : ¬ (⟨⟨a, b, c⟩, d⟩ : Pl) = ⟨⟨x, y, z⟩, v⟩) : ¬ a = x ∨ ¬ b = y ∨ ¬ c = z ∨ ¬ d = v := by
  by_cases h1 : a = x
  · by_cases h2 : b = y
    · by_cases h3 : c = z
      · exact .inr (.inr (.inr fun h4 => h (by rw [h1, h2, h3, h4])))
      · exact .inr (.inr (.inl h3))
    · exact .inr (.inl h2)
  · exact .inl h1
theorem pAt_take {F : List Pl} {k i : Nat} (h : i < k) : pAt (F.take k) i = pAt F i := by
  unfold pAt; rw [List.getD_eq_getElem?_getD, List.getD_eq_getElem?_getD, List.getElem?_take, if_pos h]
/-- The cells of the first k planes of a list in memory. -/
theorem PlsAt.news {w : World} {b off n : Nat} {F : List Pl} (h : PlsAt w (some ⟨b, off, none⟩) n F) {k : Nat} (hk : k ≤ n) : ∀ j v, (flatP (F.take k))[j]? = some v → w.cell? ((⟨b, off, none⟩ : Addr).add j) = some v := fun j v hv => by
  have hl := h.len
  have hj : j < (flatP (F.take k)).length := (List.getElem?_eq_some_iff.1 hv).1
  rw [flatP_len, List.length_take, Nat.min_eq_left (by omega)] at hj
  obtain ⟨i, c, hc, e⟩ : ∃ i c, c < 4 ∧ j = i * 4 + c := ⟨j / 4, j % 4, by omega, by omega⟩
  subst e
  rw [flatP_at (F.take k) i c (by rw [List.length_take]; omega) hc, pAt_take (by omega)] at hv
  obtain ⟨b', off', e, _, hr⟩ := h.row (by omega)
  cases e
  obtain ⟨h1, h2, h3, h4⟩ := hr i (by omega)
  rw [Addr.add_lit, ← Nat.add_assoc]
  rcases (show c = 0 ∨ c = 1 ∨ c = 2 ∨ c = 3 by omega) with rfl | rfl | rfl | rfl
  · rw [Nat.add_zero, h1]; exact hv
  · rw [h2]; exact hv
  · rw [h3]; exact hv
  · rw [h4]; exact hv
theorem pAt_drop (F : List Pl) (k i : Nat) : pAt (F.drop k) i = pAt F (k + i) := by
  unfold pAt; rw [List.getD_eq_getElem?_getD, List.getD_eq_getElem?_getD, List.getElem?_drop]
/-- The cells of the planes from number k on. -/
theorem PlsAt.newsD {w : World} {b off n : Nat} {F : List Pl} (h : PlsAt w (some ⟨b, off, none⟩) n F) {k : Nat} (hk : k ≤ n) : ∀ j v, (flatP (F.drop k))[j]? = some v → w.cell? ((⟨b, off + k * 4, none⟩ : Addr).add j) = some v := fun j v hv => by
  have hl := h.len
  have hj : j < (flatP (F.drop k)).length := (List.getElem?_eq_some_iff.1 hv).1
  rw [flatP_len, List.length_drop] at hj
  obtain ⟨i, c, hc, e⟩ : ∃ i c, c < 4 ∧ j = i * 4 + c := ⟨j / 4, j % 4, by omega, by omega⟩
  subst e
  rw [flatP_at (F.drop k) i c (by rw [List.length_drop]; omega) hc, pAt_drop] at hv
  obtain ⟨b', off', e, _, hr⟩ := h.row (by omega)
  cases e
  obtain ⟨h1, h2, h3, h4⟩ := hr (k + i) (by omega)
  rw [Addr.add_lit, show off + k * 4 + (i * 4 + c) = off + (k + i) * 4 + c by omega]
  rcases (show c = 0 ∨ c = 1 ∨ c = 2 ∨ c = 3 by omega) with rfl | rfl | rfl | rfl
  · rw [Nat.add_zero, h1]; exact hv
  · rw [h2]; exact hv
  · rw [h3]; exact hv
  · rw [h4]; exact hv
theorem PlsAt.keeps {w v : World} {A : Option Addr} {n : Nat} {L : List Pl} (h : PlsAt w A n L) (x : Keeps [] w v) : PlsAt v A n L :=
  ⟨h.len, h.max, fun h1 => by
    obtain ⟨b, off, rfl, hlt, hc⟩ := h.row h1
    exact ⟨b, off, rfl, Nat.lt_of_lt_of_le hlt x.1, RowP.same (w := w) hc (x.2 b hlt (by simp))⟩⟩
theorem vAt_drop (F : List V3) (k i : Nat) : vAt (F.drop k) i = vAt F (k + i) := by
  unfold vAt; rw [List.getD_eq_getElem?_getD, List.getD_eq_getElem?_getD, List.getElem?_drop]
theorem PlsAt.newsA {w : World} {b off n : Nat} {F : List Pl} (h : PlsAt w (some ⟨b, off, none⟩) n F) : ∀ j v, (flatP F)[j]? = some v → w.cell? ((⟨b, off, none⟩ : Addr).add j) = some v := by
  have q := h.newsD (k := 0) (Nat.zero_le _)
  simpa using q
theorem VecsAt.newsD {w : World} {b off n : Nat} {F : List V3} (h : VecsAt w (some ⟨b, off, none⟩) n F) {k : Nat} (hk : k ≤ n) : ∀ j v, ((F.drop k).flatMap encV)[j]? = some v → w.cell? ((⟨b, off + k * 3, none⟩ : Addr).add j) = some v := fun j v hv => by
  have hl := h.len
  have hj : j < ((F.drop k).flatMap encV).length := (List.getElem?_eq_some_iff.1 hv).1
  rw [flatV_len, List.length_drop] at hj
  obtain ⟨i, c, hc, e⟩ : ∃ i c, c < 3 ∧ j = i * 3 + c := ⟨j / 3, j % 3, by omega, by omega⟩
  subst e
  rw [flat_at (F.drop k) i c (by rw [List.length_drop]; omega) hc, vAt_drop] at hv
  obtain ⟨b', off', e, _, hr⟩ := h.row (by omega)
  cases e
  obtain ⟨h1, h2, h3⟩ := hr (k + i) (by omega)
  rw [Addr.add_lit, show off + k * 3 + (i * 3 + c) = off + (k + i) * 3 + c by omega]
  rcases (show c = 0 ∨ c = 1 ∨ c = 2 by omega) with rfl | rfl | rfl
  · rw [Nat.add_zero, h1]; exact hv
  · rw [h2]; exact hv
  · rw [h3]; exact hv
theorem VecsAt.newsA {w : World} {b off n : Nat} {F : List V3} (h : VecsAt w (some ⟨b, off, none⟩) n F) : ∀ j v, (F.flatMap encV)[j]? = some v → w.cell? ((⟨b, off, none⟩ : Addr).add j) = some v := by
  have q := h.newsD (k := 0) (Nat.zero_le _)
  simpa using q
theorem VecsAt.news {w : World} {b off n : Nat} {F : List V3} (h : VecsAt w (some ⟨b, off, none⟩) n F) {k : Nat} (hk : k ≤ n) : ∀ j v, ((F.take k).flatMap encV)[j]? = some v → w.cell? ((⟨b, off, none⟩ : Addr).add j) = some v := fun j v hv => by
  have hl := h.len
  have hj : j < ((F.take k).flatMap encV).length := (List.getElem?_eq_some_iff.1 hv).1
  rw [flatV_len, List.length_take, Nat.min_eq_left (by omega)] at hj
  obtain ⟨i, c, hc, e⟩ : ∃ i c, c < 3 ∧ j = i * 3 + c := ⟨j / 3, j % 3, by omega, by omega⟩
  subst e
  rw [flat_at (F.take k) i c (by rw [List.length_take]; omega) hc, vAt_take (by omega)] at hv
  obtain ⟨b', off', e, _, hr⟩ := h.row (by omega)
  cases e
  obtain ⟨h1, h2, h3⟩ := hr i (by omega)
  rw [Addr.add_lit, ← Nat.add_assoc]
  rcases (show c = 0 ∨ c = 1 ∨ c = 2 by omega) with rfl | rfl | rfl
  · rw [Nat.add_zero, h1]; exact hv
  · rw [h2]; exact hv
  · rw [h3]; exact hv
theorem VecsAt.keeps {w v : World} {A : Option Addr} {n : Nat} {L : List V3} (h : VecsAt w A n L) (x : Keeps [] w v) : VecsAt v A n L :=
  ⟨h.len, h.max, fun h1 => by
    obtain ⟨b, off, rfl, hlt, hc⟩ := h.row h1
    exact ⟨b, off, rfl, Nat.lt_of_lt_of_le hlt x.1, RowV.same (w := w) hc (x.2 b hlt (by simp))⟩⟩
/-- A new slice of nothing, as a row. -/
theorem make_lit {P : Program} {o : Oper} {A : Act} {u : World} {base : Nat} {e : TypeId} {size : Nat} (hrun : (execOp A.eval o).run P u = .ok (.value (.slice (some ⟨u.heap.size, 0, none⟩) 0 0)) (u.alloc (.cells #[] e))) (hb : base ≤ u.heap.size) :
    lateOp P o A u (fun v' u' => ∃ p : Nat × Nat, v' = (rowB base 0 e size []).val p ∧ u.heap.size ≤ p.1 ∧ p.1 < u'.heap.size ∧ Below u.heap.size u u' ∧ (rowB base 0 e size []).R p u') := by
  unfold lateOp
  rw [hrun]
  exact ⟨(u.heap.size, 0), rfl, Nat.le_refl _, by simp, (Below.refl _ _).alloc (Nat.le_refl _) _, World.ownsRow_lit u #[] 0 hb (by unfold maxLen; omega) (by simp)⟩
/-- An append of nothing. -/
theorem run_append_none2 {P : Program} (w : World) (t ty e : TypeId) (i : TypeInfo) (ht : P.underlying t = some (.slice e)) (hi : P.info? e = some i) (b n cap : Nat) (A : Option Addr) (c : Nat) (hn : n ≤ cap) :
    (Builtin.append_ #[t, t] ty #[.slice (some ⟨b, 0, none⟩) n cap, .slice A 0 c]).run P w = .ok (.slice (some ⟨b, 0, none⟩) n cap) w := by
  cases A with
  | some a => exact run_append_none w t ty e i ht hi b n cap a c hn
  | none => simp [Builtin.append_, run_underlying ht, sizeOf, typeInfo, hi, Builtin.lenOf, hn, Builtin.firstCells, storeCells]
theorem wpQuiet_append_none {P : Program} {ops : Array Oper} {C : World → Prop} {Q : Act → Prop} {a : Act} {o : Oper} {rest : List Oper} (hw : Region.wanted o (yielded ops a.tmps) = true) (s x : Operand) (t e : TypeId) (i : TypeInfo)
    (ho : o.op = .call { callee := .builtin .append, args := #[s, x], argTypes := #[t, t] }) (ht : P.underlying t = some (.slice e)) (hi : P.info? e = some i) (b n cap : Nat) (A : Option Addr) (c : Nat)
    (hs : a.eval s = .slice (some ⟨b, 0, none⟩) n cap) (hx : a.eval x = .slice A 0 c) (hn : n ≤ cap) (h : wpQuiet P ops C Q rest (a.put o.dst (.slice (some ⟨b, 0, none⟩) n cap))) : wpQuiet P ops C Q (o :: rest) a :=
  BigFrame.wpQuiet_want hw fun _ hK => ⟨_, fun w _ => by
    unfold Oper.quietAt execOp
    simp only [ho, resolve, invoke, builtin, Sem.run_bind, Sem.run_pure, Result.andThen_ok, List.map_toArray, List.map_cons, List.map_nil, hs, hx, run_append_none2 w t _ e i ht hi b n cap A c hn]
    exact ⟨rfl, rfl⟩, hK _ h⟩
theorem wpList_append_none {P : Program} (w : World) {ops : Array Oper} {rest : List Oper} {o : Oper} {a : Act} {Q : Exit → Act → World → Prop} (hgd : o.guard = none) (s x : Operand) (t : TypeId)
    (ho : o.op = .call { callee := .builtin .append, args := #[s, x], argTypes := #[t, t] }) (e : TypeId) (i : TypeInfo) (ht : P.underlying t = some (.slice e)) (hi : P.info? e = some i) (b n cap : Nat) (A : Option Addr) (c : Nat)
    (hs : a.eval s = .slice (some ⟨b, 0, none⟩) n cap) (hx : a.eval x = .slice A 0 c) (hn : n ≤ cap) (h : wpList P ops Q rest (a.put o.dst (.slice (some ⟨b, 0, none⟩) n cap)) w) : wpList P ops Q (o :: rest) a w :=
  wpList_plain hgd fun _ hK => by
    unfold Oper.wp execOp
    simp only [ho, resolve, invoke, builtin, Sem.run_bind, Sem.run_pure, Result.andThen_ok, List.map_toArray, List.map_cons, List.map_nil, hs, hx, run_append_none2 w t _ e i ht hi b n cap A c hn]
    exact hK _ _ h
theorem row_cap {w : World} {base : Nat} {e : TypeId} {size g n cap : Nat} {xs : List Value} (h : w.ownsRow base e size (.slice (some ⟨g, 0, none⟩) n cap) n xs) : n ≤ cap := by
  rcases h.2 with ⟨h1, _⟩ | ⟨_, _, _, h1, _, _, h2, _⟩
  · simp at h1
  · cases h1; exact h2
end Go.Proofs.Ytccnlnkgoaelpaa
namespace Go.Proofs.Ytccnlnkgoaelpaa
open Go.RowKit Go.Shelf Go.BigFrame

end Go.Proofs.Ytccnlnkgoaelpaa
namespace Go.Proofs.Ytccnlnkgoaelpaa
open Go.RowKit Go.Shelf Go.BigFrame

end Go.Proofs.Ytccnlnkgoaelpaa
namespace Go.Proofs.Ytccnlnkgoaelpaa
open Go.RowKit Go.Shelf

theorem SlQ.any {w : World} {v : Value} {F : List Pl} (h : SlQ w v F) : ∃ A c, v = .slice A F.length c ∧ F.length ≤ c ∧ c ≤ 9223372036854775807 ∧ PlsAt w A F.length F := by
  rcases h with ⟨rfl, rfl⟩ | ⟨b, off, c, h1, _, h3, h4, h5⟩
  · exact ⟨none, 0, rfl, by simp, by omega, rfl, by simp, fun h => by simp at h⟩
  · exact ⟨_, c, h1, h3, h4, h5⟩
theorem SlQ.keeps {w v : World} {s : Value} {F : List Pl} (h : SlQ w s F) (x : Keeps [] w v) : SlQ v s F := by
  rcases h with h | ⟨b, off, c, h1, h2, h3, h4, h5⟩
  · exact .inl h
  · exact .inr ⟨b, off, c, h1, h2, h3, h4, h5.keeps x⟩
theorem SlW.any {w : World} {v : Value} {F : List V3} (h : SlW w v F) : ∃ A c, v = .slice A F.length c ∧ F.length ≤ c ∧ c ≤ 9223372036854775807 ∧ VecsAt w A F.length F := by
  rcases h with ⟨rfl, rfl⟩ | ⟨b, off, c, h1, _, h3, h4, h5⟩
  · exact ⟨none, 0, rfl, by simp, by omega, rfl, by simp, fun h => by simp at h⟩
  · exact ⟨_, c, h1, h3, h4, h5⟩
theorem step_no {L : List V3} {i j k : Nat} {o : List Pl} (h : okThrough (vAt L i) (vAt L j) (vAt L k) = false) : stepR L i j k o = o := by
  unfold stepR; rw [h]; rfl
theorem step_yes {L : List V3} {i j k : Nat} {o : List Pl} {P Q : Pl} (h : okThrough (vAt L i) (vAt L j) (vAt L k) = true) (hP : pThrough (vAt L i) (vAt L j) (vAt L k) = P) (hQ : pFlip P = Q) : stepR L i j k o = putF L Q (putF L P o) := by
  unfold stepR; rw [h, hP, hQ]; rfl
theorem putF_yes {L : List V3} {P : Pl} {o : List Pl} (h : insideB L P = true) : putF L P o = putG pLt o P := by
  unfold putF; rw [h]; rfl
theorem putF_no {L : List V3} {P : Pl} {o : List Pl} (h : insideB L P = false) : putF L P o = o := by
  unfold putF; rw [h]; rfl
theorem fac_len {L : List V3} {i j k n : Nat} (h : L.length = n) (hn : n ≤ 48) (hi : i ≤ n) (hj : j ≤ n) (hk : k ≤ n) : (facK L i j (facJ L i (facI L i) j) k).length ≤ 300000 := by
  have h1 := facI_len L i (by omega)
  have h2 := facJ_len L i (facI L i) j (by omega)
  have h3 := facK_len L i j (facJ L i (facI L i) j) k
  omega
end Go.Proofs.Ytccnlnkgoaelpaa
namespace Go.Proofs.Ytccnlnkgoaelpaa
open Go.RowKit Go.Shelf

theorem extR_len (f : List Pl) (L : List V3) : ∀ k, (extR f L k).length ≤ k
  | 0 => by simp [extR]
  | k + 1 => by
    have h := extR_len f L k
    unfold extR
    split
    · have := putG_len (lt := vLt) (vAt L k) (extR f L k); omega
    · omega
theorem extR_yes {f : List Pl} {L : List V3} {k : Nat} {v : V3} (hv : vAt L k = v) (h : cornerB f v = true) : extR f L (k + 1) = putG vLt (extR f L k) v := by
  rw [extR, hv, if_pos h]
theorem extR_no {f : List Pl} {L : List V3} {k : Nat} {v : V3} (hv : vAt L k = v) (h : cornerB f v = false) : extR f L (k + 1) = extR f L k := by
  rw [extR, hv, if_neg (by rw [h]; decide)]
theorem has_no {L : List V3} {v : V3} {p : Pl} {k : Nat} (hk : k < (facets L).length) (hp : pAt (facets L) k = p) (h : 0 < pSide p v) : hHas L v = false := by
  rw [Bool.eq_false_iff]
  intro e
  unfold hHas at e
  simp only [Bool.and_eq_true] at e
  have q := List.all_eq_true.1 e.2.2 _ (pAt_mem hk)
  rw [hp] at q
  simp at q
  omega
theorem has_yes {L : List V3} {v : V3} (hc : hCheck L = 0) (hv : vIn v = true) (h : ∀ j, j < (facets L).length → pSide (pAt (facets L) j) v ≤ 0) : hHas L v = true := by
  unfold hHas
  rw [hv, hc]
  simp only [decide_true, Bool.true_and]
  rw [List.all_eq_true]
  intro p hp
  obtain ⟨j, hj, rfl⟩ := mem_pAt hp
  simpa using h j hj
end Go.Proofs.Ytccnlnkgoaelpaa
