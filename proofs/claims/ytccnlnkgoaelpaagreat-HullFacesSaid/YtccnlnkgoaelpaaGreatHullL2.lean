/- The reference of package hull: Put. -/
import Derived.Test.YtccnlnkgoaelpaaGreatHullZ
namespace Go.Proofs.YtccnlnkgoaelpaaGreat
open Go.RowKit Go.Shelf

/-- A slice of planes in memory. -/
def SlQ (w : World) (v : Value) (F : List Pl) : Prop := (F = [] ∧ v = .slice none 0 0) ∨ ∃ b off c, v = .slice (some ⟨b, off, none⟩) F.length c ∧ 0 < F.length ∧ F.length ≤ c ∧ c ≤ 9223372036854775807 ∧ PlsAt w (some ⟨b, off, none⟩) F.length F
/-- A slice of vectors in memory. -/
def SlW (w : World) (v : Value) (F : List V3) : Prop := (F = [] ∧ v = .slice none 0 0) ∨ ∃ b off c, v = .slice (some ⟨b, off, none⟩) F.length c ∧ 0 < F.length ∧ F.length ≤ c ∧ c ≤ 9223372036854775807 ∧ VecsAt w (some ⟨b, off, none⟩) F.length F
theorem SlQ.below {w w' : World} {v : Value} {F : List Pl} (h : SlQ w v F) (hb : Below w.heap.size w w') : SlQ w' v F := by
  rcases h with h | ⟨b, off, c, h1, h2, h3, h4, h5⟩
  · exact .inl h
  · exact .inr ⟨b, off, c, h1, h2, h3, h4, h5.below hb⟩
theorem SlW.below {w w' : World} {v : Value} {F : List V3} (h : SlW w v F) (hb : Below w.heap.size w w') : SlW w' v F := by
  rcases h with h | ⟨b, off, c, h1, h2, h3, h4, h5⟩
  · exact .inl h
  · exact .inr ⟨b, off, c, h1, h2, h3, h4, h5.below hb⟩
theorem slq_of_row {W : World} {base n : Nat} {v : Value} {G : List Pl} (h0 : 0 < n) (hn : G.length = n) (h : W.ownsRow base 46 4 v n (flatP G)) : SlQ W v G := by
  subst hn
  obtain ⟨g, cap, rfl⟩ := ownsRow_pos' h h0
  obtain ⟨A, c, e, h1, h2, h3⟩ := pls_of_row h
  cases e
  exact .inr ⟨g, 0, cap, rfl, h0, h1, h2, h3⟩
theorem slw_of_row {W : World} {base n : Nat} {v : Value} {G : List V3} (h0 : 0 < n) (hn : G.length = n) (h : W.ownsRow base 24 3 v n (G.flatMap encV)) : SlW W v G := by
  subst hn
  obtain ⟨g, cap, rfl⟩ := ownsRow_pos' h h0
  obtain ⟨A, c, e, h1, h2, h3, _⟩ := vecs_of_row h
  cases e
  exact .inr ⟨g, 0, cap, rfl, h0, h1, h2, h3⟩
theorem first_not {α : Type} (at' : List α → Nat → α) (lt : α → α → Bool) (p : α) (F : List α) (n : Nat) : ∃ k, k ≤ n ∧ (∀ j, j < k → lt (at' F j) p = true) ∧ (k < n → lt (at' F k) p = false) := by
  induction n with
  | zero => exact ⟨0, Nat.le_refl _, fun j hj => by omega, fun h => by omega⟩
  | succ n ih =>
    obtain ⟨k, hk, h1, h2⟩ := ih
    rcases Nat.lt_or_ge k n with h | h
    · exact ⟨k, by omega, h1, fun _ => h2 h⟩
    · obtain rfl : k = n := by omega
      cases e : lt (at' F k) p with
      | true =>
        refine ⟨k + 1, Nat.le_refl _, fun j hj => ?_, fun h => by omega⟩
        rcases Nat.lt_or_ge j k with h3 | h3
        · exact h1 j h3
        · obtain rfl : j = k := by omega
          exact e
      | false => exact ⟨k, by omega, h1, fun _ => e⟩
theorem put_atSlQ {p : Pl} {F : List Pl} {k : Nat} (hk : k ≤ F.length) (h1 : ∀ j, j < k → pLt (pAt F j) p = true) (h2 : k < F.length → pLt (pAt F k) p = false) :
    putG pLt F p = if F[k]? = some p then F else F.take k ++ p :: F.drop k := by
  have at_ : ∀ i y, F[i]? = some y → pAt F i = y := fun i y h => by unfold pAt; rw [List.getD_eq_getElem?_getD, h]; rfl
  exact putG_at p F k hk (fun i hi y hy => by rw [← at_ i y hy]; exact h1 i hi) (fun y hy => by
    have hl : k < F.length := (List.getElem?_eq_some_iff.1 hy).1
    rw [← at_ k y hy]; exact h2 hl)
theorem put_atSlW {p : V3} {F : List V3} {k : Nat} (hk : k ≤ F.length) (h1 : ∀ j, j < k → vLt (vAt F j) p = true) (h2 : k < F.length → vLt (vAt F k) p = false) :
    putG vLt F p = if F[k]? = some p then F else F.take k ++ p :: F.drop k := by
  have at_ : ∀ i y, F[i]? = some y → vAt F i = y := fun i y h => by unfold vAt; rw [List.getD_eq_getElem?_getD, h]; rfl
  exact putG_at p F k hk (fun i hi y hy => by rw [← at_ i y hy]; exact h1 i hi) (fun y hy => by
    have hl : k < F.length := (List.getElem?_eq_some_iff.1 hy).1
    rw [← at_ k y hy]; exact h2 hl)
theorem flatV_len (F : List V3) : (F.flatMap encV).length = F.length * 3 := by
  induction F with
  | nil => rfl
  | cons x l ih => rw [List.flatMap_cons, List.length_append, ih]; simp [encV]; omega
theorem Pl.ne_cases {a b c d x y z v : Int} (h : ¬ (⟨⟨a, b, c⟩, d⟩ : Pl) = ⟨⟨x, y, z⟩, v⟩) : ¬ a = x ∨ ¬ b = y ∨ ¬ c = z ∨ ¬ d = v := by
  by_cases h1 : a = x
  · by_cases h2 : b = y
    · by_cases h3 : c = z
      · exact .inr (.inr (.inr fun h4 => h (by rw [h1, h2, h3, h4])))
      · exact .inr (.inr (.inl h3))
    · exact .inr (.inl h2)
  · exact .inl h1
theorem pAt_take {F : List Pl} {k i : Nat} (h : i < k) : pAt (F.take k) i = pAt F i := by
  unfold pAt; rw [List.getD_eq_getElem?_getD, List.getD_eq_getElem?_getD, List.getElem?_take, if_pos h]
/-- The cells of the first k planes of a list in memory. -/
theorem PlsAt.news {w : World} {b off n : Nat} {F : List Pl} (h : PlsAt w (some ⟨b, off, none⟩) n F) {k : Nat} (hk : k ≤ n) : ∀ j v, (flatP (F.take k))[j]? = some v → w.cell? ((⟨b, off, none⟩ : Addr).add j) = some v := fun j v hv => by
  have hl := h.len
  have hj : j < (flatP (F.take k)).length := (List.getElem?_eq_some_iff.1 hv).1
  rw [flatP_len, List.length_take, Nat.min_eq_left (by omega)] at hj
  obtain ⟨i, c, hc, e⟩ : ∃ i c, c < 4 ∧ j = i * 4 + c := ⟨j / 4, j % 4, by omega, by omega⟩
  subst e
  rw [flatP_at (F.take k) i c (by rw [List.length_take]; omega) hc, pAt_take (by omega)] at hv
  obtain ⟨b', off', e, _, hr⟩ := h.row (by omega)
  cases e
  obtain ⟨h1, h2, h3, h4⟩ := hr i (by omega)
  rw [Addr.add_lit, ← Nat.add_assoc]
  rcases (show c = 0 ∨ c = 1 ∨ c = 2 ∨ c = 3 by omega) with rfl | rfl | rfl | rfl
  · rw [Nat.add_zero, h1]; exact hv
  · rw [h2]; exact hv
  · rw [h3]; exact hv
  · rw [h4]; exact hv
theorem pAt_drop (F : List Pl) (k i : Nat) : pAt (F.drop k) i = pAt F (k + i) := by
  unfold pAt; rw [List.getD_eq_getElem?_getD, List.getD_eq_getElem?_getD, List.getElem?_drop]
/-- The cells of the planes from number k on. -/
theorem PlsAt.newsD {w : World} {b off n : Nat} {F : List Pl} (h : PlsAt w (some ⟨b, off, none⟩) n F) {k : Nat} (hk : k ≤ n) : ∀ j v, (flatP (F.drop k))[j]? = some v → w.cell? ((⟨b, off + k * 4, none⟩ : Addr).add j) = some v := fun j v hv => by
  have hl := h.len
  have hj : j < (flatP (F.drop k)).length := (List.getElem?_eq_some_iff.1 hv).1
  rw [flatP_len, List.length_drop] at hj
  obtain ⟨i, c, hc, e⟩ : ∃ i c, c < 4 ∧ j = i * 4 + c := ⟨j / 4, j % 4, by omega, by omega⟩
  subst e
  rw [flatP_at (F.drop k) i c (by rw [List.length_drop]; omega) hc, pAt_drop] at hv
  obtain ⟨b', off', e, _, hr⟩ := h.row (by omega)
  cases e
  obtain ⟨h1, h2, h3, h4⟩ := hr (k + i) (by omega)
  rw [Addr.add_lit, show off + k * 4 + (i * 4 + c) = off + (k + i) * 4 + c by omega]
  rcases (show c = 0 ∨ c = 1 ∨ c = 2 ∨ c = 3 by omega) with rfl | rfl | rfl | rfl
  · rw [Nat.add_zero, h1]; exact hv
  · rw [h2]; exact hv
  · rw [h3]; exact hv
  · rw [h4]; exact hv
theorem PlsAt.keeps {w v : World} {A : Option Addr} {n : Nat} {L : List Pl} (h : PlsAt w A n L) (x : Keeps [] w v) : PlsAt v A n L :=
  ⟨h.len, h.max, fun h1 => by
    obtain ⟨b, off, rfl, hlt, hc⟩ := h.row h1
    exact ⟨b, off, rfl, Nat.lt_of_lt_of_le hlt x.1, RowP.same (w := w) hc (x.2 b hlt (by simp))⟩⟩
theorem vAt_drop (F : List V3) (k i : Nat) : vAt (F.drop k) i = vAt F (k + i) := by
  unfold vAt; rw [List.getD_eq_getElem?_getD, List.getD_eq_getElem?_getD, List.getElem?_drop]
theorem PlsAt.newsA {w : World} {b off n : Nat} {F : List Pl} (h : PlsAt w (some ⟨b, off, none⟩) n F) : ∀ j v, (flatP F)[j]? = some v → w.cell? ((⟨b, off, none⟩ : Addr).add j) = some v := by
  have q := h.newsD (k := 0) (Nat.zero_le _)
  simpa using q
theorem VecsAt.newsD {w : World} {b off n : Nat} {F : List V3} (h : VecsAt w (some ⟨b, off, none⟩) n F) {k : Nat} (hk : k ≤ n) : ∀ j v, ((F.drop k).flatMap encV)[j]? = some v → w.cell? ((⟨b, off + k * 3, none⟩ : Addr).add j) = some v := fun j v hv => by
  have hl := h.len
  have hj : j < ((F.drop k).flatMap encV).length := (List.getElem?_eq_some_iff.1 hv).1
  rw [flatV_len, List.length_drop] at hj
  obtain ⟨i, c, hc, e⟩ : ∃ i c, c < 3 ∧ j = i * 3 + c := ⟨j / 3, j % 3, by omega, by omega⟩
  subst e
  rw [flat_at (F.drop k) i c (by rw [List.length_drop]; omega) hc, vAt_drop] at hv
  obtain ⟨b', off', e, _, hr⟩ := h.row (by omega)
  cases e
  obtain ⟨h1, h2, h3⟩ := hr (k + i) (by omega)
  rw [Addr.add_lit, show off + k * 3 + (i * 3 + c) = off + (k + i) * 3 + c by omega]
  rcases (show c = 0 ∨ c = 1 ∨ c = 2 by omega) with rfl | rfl | rfl
  · rw [Nat.add_zero, h1]; exact hv
  · rw [h2]; exact hv
  · rw [h3]; exact hv
theorem VecsAt.newsA {w : World} {b off n : Nat} {F : List V3} (h : VecsAt w (some ⟨b, off, none⟩) n F) : ∀ j v, (F.flatMap encV)[j]? = some v → w.cell? ((⟨b, off, none⟩ : Addr).add j) = some v := by
  have q := h.newsD (k := 0) (Nat.zero_le _)
  simpa using q
theorem VecsAt.news {w : World} {b off n : Nat} {F : List V3} (h : VecsAt w (some ⟨b, off, none⟩) n F) {k : Nat} (hk : k ≤ n) : ∀ j v, ((F.take k).flatMap encV)[j]? = some v → w.cell? ((⟨b, off, none⟩ : Addr).add j) = some v := fun j v hv => by
  have hl := h.len
  have hj : j < ((F.take k).flatMap encV).length := (List.getElem?_eq_some_iff.1 hv).1
  rw [flatV_len, List.length_take, Nat.min_eq_left (by omega)] at hj
  obtain ⟨i, c, hc, e⟩ : ∃ i c, c < 3 ∧ j = i * 3 + c := ⟨j / 3, j % 3, by omega, by omega⟩
  subst e
  rw [flat_at (F.take k) i c (by rw [List.length_take]; omega) hc, vAt_take (by omega)] at hv
  obtain ⟨b', off', e, _, hr⟩ := h.row (by omega)
  cases e
  obtain ⟨h1, h2, h3⟩ := hr i (by omega)
  rw [Addr.add_lit, ← Nat.add_assoc]
  rcases (show c = 0 ∨ c = 1 ∨ c = 2 by omega) with rfl | rfl | rfl
  · rw [Nat.add_zero, h1]; exact hv
  · rw [h2]; exact hv
  · rw [h3]; exact hv
theorem VecsAt.keeps {w v : World} {A : Option Addr} {n : Nat} {L : List V3} (h : VecsAt w A n L) (x : Keeps [] w v) : VecsAt v A n L :=
  ⟨h.len, h.max, fun h1 => by
    obtain ⟨b, off, rfl, hlt, hc⟩ := h.row h1
    exact ⟨b, off, rfl, Nat.lt_of_lt_of_le hlt x.1, RowV.same (w := w) hc (x.2 b hlt (by simp))⟩⟩
/-- A new slice of nothing, as a row. -/
theorem make_lit {P : Program} {o : Oper} {A : Act} {u : World} {base : Nat} {e : TypeId} {size : Nat} (hrun : (execOp A.eval o).run P u = .ok (.value (.slice (some ⟨u.heap.size, 0, none⟩) 0 0)) (u.alloc (.cells #[] e))) (hb : base ≤ u.heap.size) :
    lateOp P o A u (fun v' u' => ∃ p : Nat × Nat, v' = (rowB base 0 e size []).val p ∧ u.heap.size ≤ p.1 ∧ p.1 < u'.heap.size ∧ Below u.heap.size u u' ∧ (rowB base 0 e size []).R p u') := by
  unfold lateOp
  rw [hrun]
  exact ⟨(u.heap.size, 0), rfl, Nat.le_refl _, by simp, (Below.refl _ _).alloc (Nat.le_refl _) _, World.ownsRow_lit u #[] 0 hb (by unfold maxLen; omega) (by simp)⟩
/-- An append of nothing. -/
theorem run_append_none2 {P : Program} (w : World) (t ty e : TypeId) (i : TypeInfo) (ht : P.underlying t = some (.slice e)) (hi : P.info? e = some i) (b n cap : Nat) (A : Option Addr) (c : Nat) (hn : n ≤ cap) :
    (Builtin.append_ #[t, t] ty #[.slice (some ⟨b, 0, none⟩) n cap, .slice A 0 c]).run P w = .ok (.slice (some ⟨b, 0, none⟩) n cap) w := by
  cases A with
  | some a => exact run_append_none w t ty e i ht hi b n cap a c hn
  | none => simp [Builtin.append_, run_underlying ht, sizeOf, typeInfo, hi, Builtin.lenOf, hn, Builtin.firstCells, storeCells]
theorem wpQuiet_append_none {P : Program} {ops : Array Oper} {C : World → Prop} {Q : Act → Prop} {a : Act} {o : Oper} {rest : List Oper} (hw : Region.wanted o (yielded ops a.tmps) = true) (s x : Operand) (t e : TypeId) (i : TypeInfo)
    (ho : o.op = .call { callee := .builtin .append, args := #[s, x], argTypes := #[t, t] }) (ht : P.underlying t = some (.slice e)) (hi : P.info? e = some i) (b n cap : Nat) (A : Option Addr) (c : Nat)
    (hs : a.eval s = .slice (some ⟨b, 0, none⟩) n cap) (hx : a.eval x = .slice A 0 c) (hn : n ≤ cap) (h : wpQuiet P ops C Q rest (a.put o.dst (.slice (some ⟨b, 0, none⟩) n cap))) : wpQuiet P ops C Q (o :: rest) a :=
  BigFrame.wpQuiet_want hw fun _ hK => ⟨_, fun w _ => by
    unfold Oper.quietAt execOp
    simp only [ho, resolve, invoke, builtin, Sem.run_bind, Sem.run_pure, Result.andThen_ok, List.map_toArray, List.map_cons, List.map_nil, hs, hx, run_append_none2 w t _ e i ht hi b n cap A c hn]
    exact ⟨rfl, rfl⟩, hK _ h⟩
theorem wpList_append_none {P : Program} (w : World) {ops : Array Oper} {rest : List Oper} {o : Oper} {a : Act} {Q : Exit → Act → World → Prop} (hgd : o.guard = none) (s x : Operand) (t : TypeId)
    (ho : o.op = .call { callee := .builtin .append, args := #[s, x], argTypes := #[t, t] }) (e : TypeId) (i : TypeInfo) (ht : P.underlying t = some (.slice e)) (hi : P.info? e = some i) (b n cap : Nat) (A : Option Addr) (c : Nat)
    (hs : a.eval s = .slice (some ⟨b, 0, none⟩) n cap) (hx : a.eval x = .slice A 0 c) (hn : n ≤ cap) (h : wpList P ops Q rest (a.put o.dst (.slice (some ⟨b, 0, none⟩) n cap)) w) : wpList P ops Q (o :: rest) a w :=
  wpList_plain hgd fun _ hK => by
    unfold Oper.wp execOp
    simp only [ho, resolve, invoke, builtin, Sem.run_bind, Sem.run_pure, Result.andThen_ok, List.map_toArray, List.map_cons, List.map_nil, hs, hx, run_append_none2 w t _ e i ht hi b n cap A c hn]
    exact hK _ _ h
theorem row_cap {w : World} {base : Nat} {e : TypeId} {size g n cap : Nat} {xs : List Value} (h : w.ownsRow base e size (.slice (some ⟨g, 0, none⟩) n cap) n xs) : n ≤ cap := by
  rcases h.2 with ⟨h1, _⟩ | ⟨_, _, _, h1, _, _, h2, _⟩
  · simp at h1
  · cases h1; exact h2
end Go.Proofs.YtccnlnkgoaelpaaGreat
namespace Go.Proofs.YtccnlnkgoaelpaaGreat
open Go.RowKit Go.Shelf Go.BigFrame

set_option maxRecDepth 100000 in
set_option maxHeartbeats 4000000 in
theorem ref8_put0 {w : World} (p0 p1 p2 p3 : Int) :
    Calls Tryz.prog 30 #[.slice none 0 0, vP p0 p1 p2 p3] w fun e w' => (∃ v, e = .returned v ∧ SlQ w' v (putG pLt ([] : List Pl) ⟨⟨p0, p1, p2⟩, p3⟩)) ∧ Below w.heap.size w w' := by
  obtain ⟨R, hR⟩ : ∃ R, putG pLt ([] : List Pl) ⟨⟨p0, p1, p2⟩, p3⟩ = R := ⟨_, rfl⟩
  have HRF : Hid (R = [⟨⟨p0, p1, p2⟩, p3⟩]) := Lib.hid (by rw [← hR]; rfl)
  rw [hR]
  clear hR
  obtain ⟨i0, hi, hzz, hz1, hz2⟩ := info_parts infoPl
  go_enter Tryz.func30, Tryz.ntmps30
  go_wp2
  have o3 : Own (w.alloc (.cells #[.int .i64 p0, .int .i64 p1, .int .i64 p2, .int .i64 p3] 46)) w.heap.size #[.int .i64 p0, .int .i64 p1, .int .i64 p2, .int .i64 p3] := Own.new rfl
  have hw := (Below.refl w.heap.size w).alloc (Nat.le_refl _) (.cells #[.int .i64 p0, .int .i64 p1, .int .i64 p2, .int .i64 p3] 46)
  go_loopw [5] (fun i wr => i = .int .i64 ((0 : Nat) : Int) ∧ Below w.heap.size w wr ∧ Own wr w.heap.size #[.int .i64 p0, .int .i64 p1, .int .i64 p2, .int .i64 p3]) (fun _ _ => 0)
  case atStart => exact ⟨rfl, hw, o3⟩
  case round =>
    clear o3 hw
    obtain ⟨rfl, hw, o3⟩ := hrel
    obtain ⟨j0, hj0⟩ : ∃ j0 : Nat, j0 = 0 := ⟨0, rfl⟩
    go_wp2
    refine region_late 13 [] (by kernel_rfl) (by kernel_rfl) (by rfl) ?_
    apply Exists.intro
    refine ⟨fun v hv hne => ?_, fun u hu => ?_⟩
    · simp only [List.take_succ_cons, List.take_zero]
      repeat (go_big_quiet_step (fail))
      refine wpQuiet_nil ?_
      exact rfl
    · simp only [List.drop_succ_cons, List.drop_zero]
      replace o3 := o3.below hu
      replace hw := Below.hop hw hu
      clear hu
      refine late_nil ?_
      (try simp only [Act.put, List.setIfInBounds_toArray, List.set_cons_zero, List.set_cons_succ])
      go_wp2
      refine region_late 12 [] (by kernel_rfl) (by kernel_rfl) (by rfl) ?_
      apply Exists.intro
      refine ⟨fun v hv hne => ?_, fun u2 hu => ?_⟩
      · simp only [List.take_succ_cons, List.take_zero]
        repeat (go_big_quiet_step (fail))
        refine wpQuiet_nil ?_
        exact rfl
      · simp only [List.drop_succ_cons, List.drop_zero]
        replace o3 := o3.below hu
        replace hw := Below.hop hw hu
        clear hu
        refine late_nil ?_
        (try simp only [Act.put, List.setIfInBounds_toArray, List.set_cons_zero, List.set_cons_succ])
        go_wp2
        refine region_gen (T := []) [.make 0 [] (rowB (w.heap.size + 1) 0 46 4 []), .need 4 [0], .need 5 [], .make 6 [] (ownB [] #[.int .i64 p0, .int .i64 p1, .int .i64 p2, .int .i64 p3] (fun p => .slice (some ⟨p, 0, none⟩) 1 1))] 7 0 30 (fun _ _ => True) (fun _ _ _ _ _ => trivial) trivial (by kernel_rfl) (by kernel_rfl) (by rfl) ?_
        unfold genWalk
        apply Exists.intro
        apply And.intro
        · apply Piece.mk
          · intro f v hv hr hne
            simp only [List.take_zero, List.drop_zero, Nat.reduceSub]
            refine wpQuiet_nil ?_
            exact rfl
          · intro f; rfl
          · intro f f' hf; first | (simp; done) | (simp [hf 0 (by simp)])
        simp only [List.take_succ_cons, List.take_zero, List.drop_succ_cons, List.drop_zero, Nat.reduceAdd, oneOp]
        refine ⟨fun f => ⟨rfl, fun u hu _ => ?_⟩, ?_⟩
        · refine make_lit (e := 46) (by go_simp) (by have := hu.1; have := o3.lt; omega)
        unfold genWalk
        apply Exists.intro
        apply And.intro
        · apply Piece.mk
          · intro f v hv hr hne
            simp only [List.take_succ_cons, List.take_zero, List.drop_succ_cons, List.drop_zero, Nat.reduceSub]
            (try simp only [Act.put, List.setIfInBounds_toArray, List.set_cons_zero, List.set_cons_succ])
            repeat (go_big_quiet_step (fail))
            refine wpQuiet_nil ?_
            exact rfl
          · intro f; kernel_rfl
          · intro f f' hf; first | (simp; done) | (simp [hf 0 (by simp)])
        unfold genWalk
        apply Exists.intro
        apply And.intro
        · apply Piece.mk
          · intro f v hv hr hne
            simp only [List.take_succ_cons, List.take_zero, List.drop_succ_cons, List.drop_zero, Nat.reduceSub]
            (try simp only [Act.put, List.setIfInBounds_toArray, List.set_cons_zero, List.set_cons_succ])
            have do3 := fun x => (o3.later (v := v) (T := []) (by simp) x).cell
            refine wpQuiet_append_none rfl _ _ 31 46 i0 rfl Tryz.underlying31 hi (f 0).1 0 (f 0).2 _ _ (by rfl) (by rfl) (by omega) ?_
            (try simp only [Act.put, List.setIfInBounds_toArray, List.set_cons_zero, List.set_cons_succ])
            refine wpQuiet_nil ?_
            exact rfl
          · intro f; kernel_rfl
          · intro f f' hf; first | (simp; done) | (simp [hf 0 (by simp)])
        unfold genWalk
        apply Exists.intro
        apply And.intro
        · apply Piece.mk
          · intro f v hv hr hne
            simp only [List.take_succ_cons, List.take_zero, List.drop_succ_cons, List.drop_zero, Nat.reduceSub]
            (try simp only [Act.put, List.setIfInBounds_toArray, List.set_cons_zero, List.set_cons_succ])
            have do3 := fun x => (o3.later (v := v) (T := []) (by simp) x).cell
            repeat (go_big_quiet_step (fail))
            refine wpQuiet_nil ?_
            exact rfl
          · intro f; kernel_rfl
          · intro f f' hf; first | (simp; done) | (simp [hf 0 (by simp)])
        simp only [List.take_succ_cons, List.take_zero, List.drop_succ_cons, List.drop_zero, Nat.reduceAdd, oneOp]
        refine ⟨fun f => ⟨rfl, fun u hu _ => ?_⟩, ?_⟩
        · refine make_own (e := 46) (by go_simp) (by simp)
        unfold genWalk
        apply Exists.intro
        apply And.intro
        · apply Piece.mk
          · intro f v hv hr hne
            simp only [List.take_zero, List.drop_succ_cons, List.drop_zero, Nat.reduceSub]
            refine wpQuiet_nil ?_
            exact rfl
          · intro f; rfl
          · intro f f' hf; first | (simp; done) | (simp [hf 0 (by simp)])
        intro f u' hup hp hmade hdist
        obtain ⟨h4, h4lo, h4hi⟩ := hmade 0 (by omega) rfl
        obtain ⟨⟨_, h6⟩, h6lo, h6hi⟩ := hmade 6 (by omega) rfl
        have hwu := hw.size
        have hwo := o3.lt
        have hrow : u'.ownsRow (w.heap.size + 1) 46 4 (.slice (some ⟨(f 0).1, 0, none⟩) 0 (f 0).2) 0 [] := h4
        simp only
        (try simp only [Act.put, List.setIfInBounds_toArray, List.set_cons_zero, List.set_cons_succ])
        replace o3 := o3.upd hup (by simp)
        replace hw : Below w.heap.size w u' := Upd.below hw hup (by simp)
        have hku : Keeps [] u2 u' := Upd.keeps (Keeps.refl _ _) hup
        have hwz := hw.size
        have o3z := o3.lt
        obtain ⟨T6, h6t⟩ := h6
        clear hmade hdist hp hup h4
        refine effc_mem (by rfl) (fun K hK => ?_)
        refine late_append _ _ 31 rfl (w.heap.size + 1) 46 i0 (.agg #[.int .i64 0, .int .i64 0, .int .i64 0, .int .i64 0]) 4 32 Tryz.underlying31 hi hzz hz1 hz2 rfl (by omega) _ 0 [] (by rfl) hrow ⟨(f 6).1, 0, none⟩ 1 1 [.int .i64 p0, .int .i64 p1, .int .i64 p2, .int .i64 p3] (by rfl) rfl (World.news_of_block h6t) ?_ (by omega) (by unfold maxLen; omega) (by omega) (by omega) u'.heap.size rfl ?_
        · intro u hu3; simp at hu3; rcases hu3 with rfl | rfl | rfl | rfl <;> rfl
        intro g2 cap2 w6 ho6 hg6 hat hlt6
        have ho6' : w6.ownsRow (w.heap.size + 1) 46 4 (.slice (some ⟨g2, 0, none⟩) (0 + 1) cap2) (0 + 1) (flatP [(⟨⟨p0, p1, p2⟩, p3⟩ : Pl)]) := ho6
        have hw6 : Below w.heap.size w w6 := hw.grown hg6 (by omega) (fun r e => by have e' : (f 0).1 = r := (by simpa [Value.ownBlock] using e); omega)
        have hk6 : Keeps [] u2 w6 := ⟨Nat.le_trans hku.1 hg6.size, fun b hb _ => (hg6.block b (by have := hku.1; omega) (fun e => by have e' : b = (f 0).1 := (by simpa [Value.ownBlock] using e); omega)).trans (hku.2 b hb (by simp))⟩
        refine hK _ _ hk6 (fun u3 hu3 => ?_)
        clear hK K
        have ho7 := rowk_below ho6' hu3
        have hw7 := Below.hop hw6 hu3
        have hk7 := hk6.later hu3
        clear ho6 ho6' hg6 hat hlt6 hw6 hk6 hu3
        refine effc_mem (by rfl) (fun K hK => ?_)
        go_simp
        refine hK _ _ hk7 (fun u4 hu4 => ?_)
        clear hK K
        have ho8 := rowk_below ho7 hu4
        have hw8 := Below.hop hw7 hu4
        clear ho7 hw7 hk7 hu4
        refine effc_nil ?_
        (try simp only [Act.put, List.setIfInBounds_toArray, List.set_cons_zero, List.set_cons_succ])
        have HO8 := Lib.hid ho8
        have HW8 := Lib.hid hw8
        have hz8 := hw8.size
        have hz11 : 0 + 1 ≤ cap2 := row_cap (HO8.out)
        clear ho8 hw8
        go_wp2_with (at_builtin; refine wpList_append_none _ rfl _ _ _ (by rfl) 46 i0 Tryz.underlying31 hi g2 (0 + 1) cap2 _ _ (by rfl) (by rfl) hz11 ?_)
        all_goals (go_ret)
        all_goals refine ⟨⟨_, rfl, ?_⟩, HW8.out⟩
        all_goals rw [HRF.out]
        all_goals exact slq_of_row (n := 0 + 1) (by simp) (by simp) (by have q := HO8.out; simpa [flatP, encP] using q)
set_option maxRecDepth 100000 in
set_option maxHeartbeats 4000000 in
theorem ref8_put1 {w : World} {b off : Nat} {F : List Pl} (c : Nat) (hv : PlsAt w (some ⟨b, off, none⟩) F.length F) (hn1 : 0 < F.length) (hnc : F.length ≤ c) (hc : c ≤ 9223372036854775807) (hn2 : F.length ≤ 1000000) (p0 p1 p2 p3 : Int) :
    Calls Tryz.prog 30 #[.slice (some ⟨b, off, none⟩) F.length c, vP p0 p1 p2 p3] w fun e w' => (∃ v, e = .returned v ∧ SlQ w' v (putG pLt F ⟨⟨p0, p1, p2⟩, p3⟩)) ∧ Below w.heap.size w w' := by
  obtain ⟨R, hR⟩ : ∃ R, putG pLt F ⟨⟨p0, p1, p2⟩, p3⟩ = R := ⟨_, rfl⟩
  obtain ⟨k, hk, hlo, hhi⟩ := first_not pAt pLt ⟨⟨p0, p1, p2⟩, p3⟩ F F.length
  have hput := put_atSlQ hk hlo hhi
  rw [hR] at hput
  have HR := Lib.hid hput
  rw [hR]
  obtain ⟨n, hn⟩ : ∃ n, F.length = n := ⟨_, rfl⟩
  rw [hn] at hv hn1 hnc hn2 hk hhi
  have HN := Lib.hid hn
  have HV := Lib.hid hv
  have HLO := Lib.hid hlo
  have HHI := Lib.hid hhi
  clear hv hlo hhi hput hR
  rw [hn]
  clear hn
  have hni : (n : Int) ≤ 1000000 := by omega
  have hki : (k : Int) ≤ (n : Int) := by omega
  obtain ⟨i0, hi, hzz, hz1, hz2⟩ := info_parts infoPl
  go_enter Tryz.func30, Tryz.ntmps30
  go_wp2
  have o3 : Own (w.alloc (.cells #[.int .i64 p0, .int .i64 p1, .int .i64 p2, .int .i64 p3] 46)) w.heap.size #[.int .i64 p0, .int .i64 p1, .int .i64 p2, .int .i64 p3] := Own.new rfl
  have hw := (Below.refl w.heap.size w).alloc (Nat.le_refl _) (.cells #[.int .i64 p0, .int .i64 p1, .int .i64 p2, .int .i64 p3] 46)
  go_loopw [5] (fun i wr => ∃ j0 : Nat, j0 ≤ k ∧ i = .int .i64 j0 ∧ Below w.heap.size w wr ∧ Own wr w.heap.size #[.int .i64 p0, .int .i64 p1, .int .i64 p2, .int .i64 p3]) (fun i _ => k - (intOf i).toNat)
  case atStart => exact ⟨0, by omega, rfl, hw, o3⟩
  case round =>
    clear o3 hw
    obtain ⟨j0, hj0, rfl, hw, o3⟩ := hrel
    by_cases hln : j0 < n
    · have hln2 : (j0 : Int) < (n : Int) := by omega
      obtain ⟨⟨⟨x, y, z⟩, b0⟩, hX⟩ : ∃ X, pAt F j0 = X := ⟨_, rfl⟩
      obtain ⟨b', off', he, hb, a1, a2, a3, a4⟩ := (HV.out.below hw).cells hln hX
      cases he
      obtain ⟨s, hs⟩ : ∃ s, pCompare ⟨⟨x, y, z⟩, b0⟩ ⟨⟨p0, p1, p2⟩, p3⟩ = s := ⟨_, rfl⟩
      have HS := Lib.hid (congrArg (Value.int IntKind.i64) hs)
      have hlss : pLt (pAt F j0) ⟨⟨p0, p1, p2⟩, p3⟩ = decide (s < 0) := by rw [hX]; unfold pLt; rw [hs]
      have HX := Lib.hid hX
      have HLS := Lib.hid hlss
      clear hs hX hlss
      have hgd : decide ((j0 : Int) < (n : Int)) = true := by simpa using hln2
      by_cases hlt : j0 < k
      · have hs0 : s < 0 := by have q := HLO.out j0 hlt; rw [HLS.out] at q; simpa using q
        go_wp2
        refine region_late 13 [] (by kernel_rfl) (by kernel_rfl) (by rfl) ?_
        apply Exists.intro
        refine ⟨fun v hv hne => ?_, fun u hu => ?_⟩
        · simp only [List.take_succ_cons, List.take_zero]
          have do3 := fun x => (o3.later (v := v) (T := []) (by simp) x).cell
          have da1 := later_cell (v := v) (T := []) hb (by simp) a1
          have da2 := later_cell (v := v) (T := []) hb (by simp) a2
          have da3 := later_cell (v := v) (T := []) hb (by simp) a3
          have da4 := later_cell (v := v) (T := []) hb (by simp) a4
          repeat (go_big_quiet_step ((go_at_call 61; with_reducible exact lateB (callv (ref7_Compare _ _ _ _ _ _ _ _ _) HS.out))))
          refine wpQuiet_nil ?_
          exact rfl
        · simp only [List.drop_succ_cons, List.drop_zero]
          replace o3 := o3.below hu
          replace hw := Below.hop hw hu
          clear hu a1 a2 a3 a4
          refine late_nil ?_
          (try simp only [Act.put, List.setIfInBounds_toArray, List.set_cons_zero, List.set_cons_succ])
          go_wp2
          go_roundw
          case rel => exact ⟨j0 + 1, by omega, by go_num, hw, o3⟩
          case measure => simp [intOf]; omega
      · obtain rfl : j0 = k := by omega
        have hs0 : ¬ s < 0 := by have q := HHI.out hln; rw [HLS.out] at q; simpa using q
        go_wp2
        refine region_late 13 [] (by kernel_rfl) (by kernel_rfl) (by rfl) ?_
        apply Exists.intro
        refine ⟨fun v hv hne => ?_, fun u hu => ?_⟩
        · simp only [List.take_succ_cons, List.take_zero]
          have do3 := fun x => (o3.later (v := v) (T := []) (by simp) x).cell
          have da1 := later_cell (v := v) (T := []) hb (by simp) a1
          have da2 := later_cell (v := v) (T := []) hb (by simp) a2
          have da3 := later_cell (v := v) (T := []) hb (by simp) a3
          have da4 := later_cell (v := v) (T := []) hb (by simp) a4
          repeat (go_big_quiet_step ((go_at_call 61; with_reducible exact lateB (callv (ref7_Compare _ _ _ _ _ _ _ _ _) HS.out))))
          refine wpQuiet_nil ?_
          exact rfl
        · simp only [List.drop_succ_cons, List.drop_zero]
          replace o3 := o3.below hu
          have hbu : b < u.heap.size := Nat.lt_of_lt_of_le hb hu.size
          have ca1 := (hu.cell (p := ⟨b, off + j0 * 4, none⟩) hb).trans a1
          have ca2 := (hu.cell (p := ⟨b, off + j0 * 4 + 1, none⟩) hb).trans a2
          have ca3 := (hu.cell (p := ⟨b, off + j0 * 4 + 2, none⟩) hb).trans a3
          have ca4 := (hu.cell (p := ⟨b, off + j0 * 4 + 3, none⟩) hb).trans a4
          replace hw := Below.hop hw hu
          clear hu a1 a2 a3 a4
          refine late_nil ?_
          (try simp only [Act.put, List.setIfInBounds_toArray, List.set_cons_zero, List.set_cons_succ])
          by_cases heq : (⟨⟨x, y, z⟩, b0⟩ : Pl) = ⟨⟨p0, p1, p2⟩, p3⟩
          · have hRF : R = F := by
              have q := HR.out
              have e : F[j0]? = some ⟨⟨p0, p1, p2⟩, p3⟩ := by
                have hl : j0 < F.length := by rw [HN.out]; exact hln
                have e2 : pAt F j0 = F[j0] := by unfold pAt; simp [List.getD_eq_getElem?_getD, hl]
                rw [List.getElem?_eq_getElem hl, ← e2, HX.out, heq]
              rw [if_pos e] at q
              exact q
            have HRF := Lib.hid hRF
            injection heq with e0 e4
            injection e0 with e1 e2 e3
            subst e1
            subst e2
            subst e3
            subst e4
            clear hRF HS HLS HR
            go_wp2
            refine region_late 12 [] (by kernel_rfl) (by kernel_rfl) (by rfl) ?_
            apply Exists.intro
            refine ⟨fun v hv hne => ?_, fun u2 hu => ?_⟩
            · simp only [List.take_succ_cons, List.take_zero]
              have do3 := fun x => (o3.later (v := v) (T := []) (by simp) x).cell
              have da1 := later_cell (v := v) (T := []) hbu (by simp) ca1
              have da2 := later_cell (v := v) (T := []) hbu (by simp) ca2
              have da3 := later_cell (v := v) (T := []) hbu (by simp) ca3
              have da4 := later_cell (v := v) (T := []) hbu (by simp) ca4
              repeat (go_big_quiet_step (fail))
              refine wpQuiet_nil ?_
              exact rfl
            · simp only [List.drop_succ_cons, List.drop_zero]
              replace o3 := o3.below hu
              replace hw := Below.hop hw hu
              clear hu ca1 ca2 ca3 ca4
              refine late_nil ?_
              (try simp only [Act.put, List.setIfInBounds_toArray, List.set_cons_zero, List.set_cons_succ])
              go_wp2
              go_ret
              have hwe := hw
              refine ⟨⟨_, rfl, ?_⟩, hwe⟩
              rw [HRF.out]
              exact .inr ⟨b, off, c, by rw [HN.out]; rfl, by rw [HN.out]; exact hn1, by rw [HN.out]; exact hnc, hc, by rw [HN.out]; exact HV.out.below hwe⟩
          · have hRF : R = F.take j0 ++ ⟨⟨p0, p1, p2⟩, p3⟩ :: F.drop j0 := by
              have q := HR.out
              have e : ¬ F[j0]? = some ⟨⟨p0, p1, p2⟩, p3⟩ := by
                have hl : j0 < F.length := by rw [HN.out]; exact hln
                have e2 : pAt F j0 = F[j0] := by unfold pAt; simp [List.getD_eq_getElem?_getD, hl]
                rw [List.getElem?_eq_getElem hl, ← e2, HX.out]
                intro e
                exact heq (Option.some.inj e)
              rw [if_neg e] at q
              exact q
            have HRF := Lib.hid hRF
            have HD := Lib.hid (Pl.ne_cases heq)
            clear heq hRF HR HS HLS
            go_wp2
            refine region_late 12 [] (by kernel_rfl) (by kernel_rfl) (by rfl) ?_
            apply Exists.intro
            refine ⟨fun v hv hne => ?_, fun u2 hu => ?_⟩
            · simp only [List.take_succ_cons, List.take_zero]
              have do3 := fun x => (o3.later (v := v) (T := []) (by simp) x).cell
              have da1 := later_cell (v := v) (T := []) hbu (by simp) ca1
              have da2 := later_cell (v := v) (T := []) hbu (by simp) ca2
              have da3 := later_cell (v := v) (T := []) hbu (by simp) ca3
              have da4 := later_cell (v := v) (T := []) hbu (by simp) ca4
              rcases HD.out with hd | hd | hd | hd
              all_goals repeat (go_big_quiet_step (fail))
              all_goals refine wpQuiet_nil ?_
              all_goals exact rfl
            · simp only [List.drop_succ_cons, List.drop_zero]
              replace o3 := o3.below hu
              replace hw := Below.hop hw hu
              clear hu ca1 ca2 ca3 ca4
              refine late_nil ?_
              (try simp only [Act.put, List.setIfInBounds_toArray, List.set_cons_zero, List.set_cons_succ])
              by_cases hj : j0 = 0
              · obtain rfl : j0 = 0 := hj
                have hcc : (c : Int) ≤ 9223372036854775807 := by omega
                have hnc2 : (n : Int) ≤ (c : Int) := by omega
                have hkn : 0 ≤ n := by omega
                obtain ⟨j0, hj0'⟩ : ∃ j0 : Nat, j0 = 0 := ⟨0, rfl⟩
                go_wp2
                refine region_gen (T := []) [.make 0 [] (rowB (w.heap.size + 1) 0 46 4 []), .need 4 [0], .need 5 [], .make 6 [] (ownB [] #[.int .i64 p0, .int .i64 p1, .int .i64 p2, .int .i64 p3] (fun p => .slice (some ⟨p, 0, none⟩) 1 1))] 7 0 30 (fun _ _ => True) (fun _ _ _ _ _ => trivial) trivial (by kernel_rfl) (by kernel_rfl) (by rfl) ?_
                unfold genWalk
                apply Exists.intro
                apply And.intro
                · apply Piece.mk
                  · intro f v hv hr hne
                    simp only [List.take_zero, List.drop_zero, Nat.reduceSub]
                    refine wpQuiet_nil ?_
                    exact rfl
                  · intro f; rfl
                  · intro f f' hf; first | (simp; done) | (simp [hf 0 (by simp)])
                simp only [List.take_succ_cons, List.take_zero, List.drop_succ_cons, List.drop_zero, Nat.reduceAdd, oneOp]
                refine ⟨fun f => ⟨rfl, fun u hu _ => ?_⟩, ?_⟩
                · refine make_lit (e := 46) (by go_simp) (by have := hu.1; have := o3.lt; omega)
                unfold genWalk
                apply Exists.intro
                apply And.intro
                · apply Piece.mk
                  · intro f v hv hr hne
                    simp only [List.take_succ_cons, List.take_zero, List.drop_succ_cons, List.drop_zero, Nat.reduceSub]
                    (try simp only [Act.put, List.setIfInBounds_toArray, List.set_cons_zero, List.set_cons_succ])
                    repeat (go_big_quiet_step (fail))
                    refine wpQuiet_nil ?_
                    exact rfl
                  · intro f; kernel_rfl
                  · intro f f' hf; first | (simp; done) | (simp [hf 0 (by simp)])
                unfold genWalk
                apply Exists.intro
                apply And.intro
                · apply Piece.mk
                  · intro f v hv hr hne
                    simp only [List.take_succ_cons, List.take_zero, List.drop_succ_cons, List.drop_zero, Nat.reduceSub]
                    (try simp only [Act.put, List.setIfInBounds_toArray, List.set_cons_zero, List.set_cons_succ])
                    have do3 := fun x => (o3.later (v := v) (T := []) (by simp) x).cell
                    refine wpQuiet_append_none rfl _ _ 31 46 i0 rfl Tryz.underlying31 hi (f 0).1 0 (f 0).2 _ _ (by rfl) (by rfl) (by omega) ?_
                    (try simp only [Act.put, List.setIfInBounds_toArray, List.set_cons_zero, List.set_cons_succ])
                    refine wpQuiet_nil ?_
                    exact rfl
                  · intro f; kernel_rfl
                  · intro f f' hf; first | (simp; done) | (simp [hf 0 (by simp)])
                unfold genWalk
                apply Exists.intro
                apply And.intro
                · apply Piece.mk
                  · intro f v hv hr hne
                    simp only [List.take_succ_cons, List.take_zero, List.drop_succ_cons, List.drop_zero, Nat.reduceSub]
                    (try simp only [Act.put, List.setIfInBounds_toArray, List.set_cons_zero, List.set_cons_succ])
                    have do3 := fun x => (o3.later (v := v) (T := []) (by simp) x).cell
                    repeat (go_big_quiet_step (fail))
                    refine wpQuiet_nil ?_
                    exact rfl
                  · intro f; kernel_rfl
                  · intro f f' hf; first | (simp; done) | (simp [hf 0 (by simp)])
                simp only [List.take_succ_cons, List.take_zero, List.drop_succ_cons, List.drop_zero, Nat.reduceAdd, oneOp]
                refine ⟨fun f => ⟨rfl, fun u hu _ => ?_⟩, ?_⟩
                · refine make_own (e := 46) (by go_simp) (by simp)
                unfold genWalk
                apply Exists.intro
                apply And.intro
                · apply Piece.mk
                  · intro f v hv hr hne
                    simp only [List.take_zero, List.drop_succ_cons, List.drop_zero, Nat.reduceSub]
                    refine wpQuiet_nil ?_
                    exact rfl
                  · intro f; rfl
                  · intro f f' hf; first | (simp; done) | (simp [hf 0 (by simp)])
                intro f u' hup hp hmade hdist
                obtain ⟨h4, h4lo, h4hi⟩ := hmade 0 (by omega) rfl
                obtain ⟨⟨_, h6⟩, h6lo, h6hi⟩ := hmade 6 (by omega) rfl
                have hwu := hw.size
                have hwo := o3.lt
                have hrow : u'.ownsRow (w.heap.size + 1) 46 4 (.slice (some ⟨(f 0).1, 0, none⟩) 0 (f 0).2) 0 [] := h4
                simp only
                (try simp only [Act.put, List.setIfInBounds_toArray, List.set_cons_zero, List.set_cons_succ])
                replace o3 := o3.upd hup (by simp)
                replace hw : Below w.heap.size w u' := Upd.below hw hup (by simp)
                have hku : Keeps [] u2 u' := Upd.keeps (Keeps.refl _ _) hup
                have hwz := hw.size
                have o3z := o3.lt
                obtain ⟨T6, h6t⟩ := h6
                clear hmade hdist hp hup h4
                refine effc_mem (by rfl) (fun K hK => ?_)
                refine late_append _ _ 31 rfl (w.heap.size + 1) 46 i0 (.agg #[.int .i64 0, .int .i64 0, .int .i64 0, .int .i64 0]) 4 32 Tryz.underlying31 hi hzz hz1 hz2 rfl (by omega) _ 0 [] (by rfl) hrow ⟨(f 6).1, 0, none⟩ 1 1 [.int .i64 p0, .int .i64 p1, .int .i64 p2, .int .i64 p3] (by rfl) rfl (World.news_of_block h6t) ?_ (by omega) (by unfold maxLen; omega) (by omega) (by omega) u'.heap.size rfl ?_
                · intro u hu3; simp at hu3; rcases hu3 with rfl | rfl | rfl | rfl <;> rfl
                intro g2 cap2 w6 ho6 hg6 hat hlt6
                have ho6' : w6.ownsRow (w.heap.size + 1) 46 4 (.slice (some ⟨g2, 0, none⟩) (0 + 1) cap2) (0 + 1) (flatP [(⟨⟨p0, p1, p2⟩, p3⟩ : Pl)]) := ho6
                have hw6 : Below w.heap.size w w6 := hw.grown hg6 (by omega) (fun r e => by have e' : (f 0).1 = r := (by simpa [Value.ownBlock] using e); omega)
                have hk6 : Keeps [] u2 w6 := ⟨Nat.le_trans hku.1 hg6.size, fun b hb _ => (hg6.block b (by have := hku.1; omega) (fun e => by have e' : b = (f 0).1 := (by simpa [Value.ownBlock] using e); omega)).trans (hku.2 b hb (by simp))⟩
                refine hK _ _ hk6 (fun u3 hu3 => ?_)
                clear hK K
                have ho7 := rowk_below ho6' hu3
                have hw7 := Below.hop hw6 hu3
                have hk7 := hk6.later hu3
                clear ho6 ho6' hg6 hat hlt6 hw6 hk6 hu3
                refine effc_mem (by rfl) (fun K hK => ?_)
                go_simp
                refine hK _ _ hk7 (fun u4 hu4 => ?_)
                clear hK K
                have ho8 := rowk_below ho7 hu4
                have hw8 := Below.hop hw7 hu4
                clear ho7 hw7 hk7 hu4
                refine effc_nil ?_
                (try simp only [Act.put, List.setIfInBounds_toArray, List.set_cons_zero, List.set_cons_succ])
                have HPL := Lib.hid (HV.out.below hw8)
                have HO8 := Lib.hid ho8
                have HW8 := Lib.hid hw8
                have hz8 := hw8.size
                have hz9 := (HO8.out.lt g2 rfl).2
                have hz10 := (HO8.out.lt g2 rfl).1
                have hcj2 : (j0 : Int) ≤ (n : Int) := by omega
                have hnc2 : (n : Int) ≤ (c : Int) := by omega
                clear ho8 hw8
                have hone' : ∀ u ∈ (flatP F), u.oneCell' = true := fun u hu => by
                  simp only [flatP, encP, List.mem_flatMap, List.mem_cons, List.not_mem_nil, or_false] at hu
                  obtain ⟨q, _, h | h | h | h⟩ := hu <;> rw [h] <;> rfl
                have HONE := Lib.hid hone'
                clear hone'
                go_wp2_with (at_builtin; refine wpList_append_lies _ rfl _ _ _ (by rfl) (w.heap.size + 1) 46 i0 (.agg #[.int .i64 0, .int .i64 0, .int .i64 0, .int .i64 0]) 4 32 Tryz.underlying31 hi hzz hz1 hz2 rfl (by decide) _ (0 + 1) (flatP [(⟨⟨p0, p1, p2⟩, p3⟩ : Pl)]) (by rfl) HO8.out ⟨b, off, none⟩ (n) (c) (flatP F) ?k3 ?k4 ?k41 ?k42 ?k43 ?k5 ?k6 ?k7 u4.heap.size ?k8 ?_)
                case k3 => rfl
                case k4 => rw [flatP_len, HN.out]
                case k41 => exact HPL.out.newsA
                case k42 => exact HONE.out
                case k43 => omega
                case k5 => unfold maxLen; omega
                case k6 => omega
                case k7 => omega
                case k8 => rfl
                intro g9 cap9 w9 ho9 hg9 hat9 hlt9
                have hw9 : Below w.heap.size w w9 := HW8.out.grown hg9 (by omega) (fun r e => by have e' : g2 = r := (by simpa [Value.ownBlock] using e); omega)
                have HO9 := Lib.hid ho9
                clear ho9 hg9 hat9
                go_wp2
                go_ret
                refine ⟨⟨_, rfl, ?_⟩, hw9⟩
                rw [HRF.out]
                exact slq_of_row (n := 0 + 1 + (n)) (by omega) (by simp [HN.out]; omega) (by have q := HO9.out; simpa [flatP, encP] using q)
              · have hj1 : 0 < j0 := by omega
                have hj2 : (0 : Int) < (j0 : Int) := by omega
                have hcj : (j0 : Int) ≤ (c : Int) := by omega
                have hcc : (c : Int) ≤ 9223372036854775807 := by omega
                have hz0 : 0 ≤ (j0 : Int) := by omega
                have hkn : j0 ≤ n := by omega
                go_wp2
                refine region_gen (T := []) [.make 0 [] (ownB [] #[] (fun p => .slice (some ⟨p, 0, none⟩) 0 0)), .make 4 [0] (rowB (w.heap.size + 1) j0 46 4 (flatP (F.take j0))), .make 6 [] (ownB [] #[.int .i64 p0, .int .i64 p1, .int .i64 p2, .int .i64 p3] (fun p => .slice (some ⟨p, 0, none⟩) 1 1))] 7 0 30 (fun _ _ => True) (fun _ _ _ _ _ => trivial) trivial (by kernel_rfl) (by kernel_rfl) (by rfl) ?_
                unfold genWalk
                apply Exists.intro
                apply And.intro
                · apply Piece.mk
                  · intro f v hv hr hne
                    simp only [List.take_zero, List.drop_zero, Nat.reduceSub]
                    refine wpQuiet_nil ?_
                    exact rfl
                  · intro f; rfl
                  · intro f f' hf; first | (simp; done) | (simp [hf 0 (by simp)])
                simp only [List.take_succ_cons, List.take_zero, List.drop_succ_cons, List.drop_zero, Nat.reduceAdd, oneOp]
                refine ⟨fun f => ⟨rfl, fun u hu _ => ?_⟩, ?_⟩
                · refine make_own (e := 46) (by go_simp) (by simp)
                unfold genWalk
                apply Exists.intro
                apply And.intro
                · apply Piece.mk
                  · intro f v hv hr hne
                    simp only [List.take_succ_cons, List.take_zero, List.drop_succ_cons, List.drop_zero, Nat.reduceSub]
                    (try simp only [Act.put, List.setIfInBounds_toArray, List.set_cons_zero, List.set_cons_succ])
                    repeat (go_big_quiet_step (fail))
                    refine wpQuiet_nil ?_
                    exact rfl
                  · intro f; kernel_rfl
                  · intro f f' hf; first | (simp; done) | (simp [hf 0 (by simp)])
                simp only [List.take_succ_cons, List.take_zero, List.drop_succ_cons, List.drop_zero, Nat.reduceAdd, oneOp]
                refine ⟨fun f => ⟨rfl, fun u hu _ => ?_⟩, ?_⟩
                · exact make_row _ _ 31 46 i0 (.agg #[.int .i64 0, .int .i64 0, .int .i64 0, .int .i64 0]) 4 32 (w.heap.size + 1) rfl Tryz.underlying31 hi hzz hz1 hz2 rfl (by decide) (f 0).1 j0 c ⟨b, off, none⟩ rfl rfl hj1 (by omega) (by omega) (flatP (F.take j0)) (by rw [flatP_len, List.length_take, HN.out]; omega) (((HV.out.below hw).keeps hu).news hkn) (by have := hu.1; have := o3.lt; omega)
                unfold genWalk
                apply Exists.intro
                apply And.intro
                · apply Piece.mk
                  · intro f v hv hr hne
                    simp only [List.take_succ_cons, List.take_zero, List.drop_succ_cons, List.drop_zero, Nat.reduceSub]
                    (try simp only [Act.put, List.setIfInBounds_toArray, List.set_cons_zero, List.set_cons_succ])
                    have do3 := fun x => (o3.later (v := v) (T := []) (by simp) x).cell
                    repeat (go_big_quiet_step (fail))
                    refine wpQuiet_nil ?_
                    exact rfl
                  · intro f; kernel_rfl
                  · intro f f' hf; first | (simp; done) | (simp [hf 0 (by simp)])
                simp only [List.take_succ_cons, List.take_zero, List.drop_succ_cons, List.drop_zero, Nat.reduceAdd, oneOp]
                refine ⟨fun f => ⟨rfl, fun u hu _ => ?_⟩, ?_⟩
                · refine make_own (e := 46) (by go_simp) (by simp)
                unfold genWalk
                apply Exists.intro
                apply And.intro
                · apply Piece.mk
                  · intro f v hv hr hne
                    simp only [List.take_zero, List.drop_succ_cons, List.drop_zero, Nat.reduceSub]
                    refine wpQuiet_nil ?_
                    exact rfl
                  · intro f; rfl
                  · intro f f' hf; first | (simp; done) | (simp [hf 0 (by simp)])
                intro f u' hup hp hmade hdist
                obtain ⟨h4, h4lo, h4hi⟩ := hmade 4 (by omega) rfl
                obtain ⟨⟨_, h6⟩, h6lo, h6hi⟩ := hmade 6 (by omega) rfl
                have hwu := hw.size
                have hwo := o3.lt
                have hrow : u'.ownsRow (w.heap.size + 1) 46 4 (.slice (some ⟨(f 4).1, 0, none⟩) j0 (f 4).2) j0 (flatP (F.take j0)) := h4
                simp only
                (try simp only [Act.put, List.setIfInBounds_toArray, List.set_cons_zero, List.set_cons_succ])
                replace o3 := o3.upd hup (by simp)
                replace hw : Below w.heap.size w u' := Upd.below hw hup (by simp)
                have hku : Keeps [] u2 u' := Upd.keeps (Keeps.refl _ _) hup
                have hwz := hw.size
                have o3z := o3.lt
                obtain ⟨T6, h6t⟩ := h6
                clear hmade hdist hp hup h4
                refine effc_mem (by rfl) (fun K hK => ?_)
                refine late_append _ _ 31 rfl (w.heap.size + 1) 46 i0 (.agg #[.int .i64 0, .int .i64 0, .int .i64 0, .int .i64 0]) 4 32 Tryz.underlying31 hi hzz hz1 hz2 rfl (by omega) _ j0 (flatP (F.take j0)) (by rfl) hrow ⟨(f 6).1, 0, none⟩ 1 1 [.int .i64 p0, .int .i64 p1, .int .i64 p2, .int .i64 p3] (by rfl) rfl (World.news_of_block h6t) ?_ (by omega) (by unfold maxLen; omega) (by omega) (by omega) u'.heap.size rfl ?_
                · intro u hu3; simp at hu3; rcases hu3 with rfl | rfl | rfl | rfl <;> rfl
                intro g2 cap2 w6 ho6 hg6 hat hlt6
                have ho6' : w6.ownsRow (w.heap.size + 1) 46 4 (.slice (some ⟨g2, 0, none⟩) (j0 + 1) cap2) (j0 + 1) (flatP (F.take j0 ++ [(⟨⟨p0, p1, p2⟩, p3⟩ : Pl)])) := by rw [flatP_snoc]; exact ho6
                have hw6 : Below w.heap.size w w6 := hw.grown hg6 (by omega) (fun r e => by have e' : (f 4).1 = r := (by simpa [Value.ownBlock] using e); omega)
                have hk6 : Keeps [] u2 w6 := ⟨Nat.le_trans hku.1 hg6.size, fun b hb _ => (hg6.block b (by have := hku.1; omega) (fun e => by have e' : b = (f 4).1 := (by simpa [Value.ownBlock] using e); omega)).trans (hku.2 b hb (by simp))⟩
                refine hK _ _ hk6 (fun u3 hu3 => ?_)
                clear hK K
                have ho7 := rowk_below ho6' hu3
                have hw7 := Below.hop hw6 hu3
                have hk7 := hk6.later hu3
                clear ho6 ho6' hg6 hat hlt6 hw6 hk6 hu3
                refine effc_mem (by rfl) (fun K hK => ?_)
                go_simp
                refine hK _ _ hk7 (fun u4 hu4 => ?_)
                clear hK K
                have ho8 := rowk_below ho7 hu4
                have hw8 := Below.hop hw7 hu4
                clear ho7 hw7 hk7 hu4
                refine effc_nil ?_
                (try simp only [Act.put, List.setIfInBounds_toArray, List.set_cons_zero, List.set_cons_succ])
                have HPL := Lib.hid (HV.out.below hw8)
                have HO8 := Lib.hid ho8
                have HW8 := Lib.hid hw8
                have hz8 := hw8.size
                have hz9 := (HO8.out.lt g2 rfl).2
                have hz10 := (HO8.out.lt g2 rfl).1
                have hcj2 : (j0 : Int) ≤ (n : Int) := by omega
                have hnc2 : (n : Int) ≤ (c : Int) := by omega
                clear ho8 hw8
                have hone' : ∀ u ∈ (flatP (F.drop j0)), u.oneCell' = true := fun u hu => by
                  simp only [flatP, encP, List.mem_flatMap, List.mem_cons, List.not_mem_nil, or_false] at hu
                  obtain ⟨q, _, h | h | h | h⟩ := hu <;> rw [h] <;> rfl
                have HONE := Lib.hid hone'
                clear hone'
                go_wp2_with (at_builtin; refine wpList_append_lies _ rfl _ _ _ (by rfl) (w.heap.size + 1) 46 i0 (.agg #[.int .i64 0, .int .i64 0, .int .i64 0, .int .i64 0]) 4 32 Tryz.underlying31 hi hzz hz1 hz2 rfl (by decide) _ (j0 + 1) (flatP (F.take j0 ++ [(⟨⟨p0, p1, p2⟩, p3⟩ : Pl)])) (by rfl) HO8.out ⟨b, off + j0 * 4, none⟩ (n - j0) (c - j0) (flatP (F.drop j0)) ?k3 ?k4 ?k41 ?k42 ?k43 ?k5 ?k6 ?k7 u4.heap.size ?k8 ?_)
                case k3 => rfl
                case k4 => rw [flatP_len, List.length_drop, HN.out]
                case k41 => exact HPL.out.newsD (Nat.le_of_lt hln)
                case k42 => exact HONE.out
                case k43 => omega
                case k5 => unfold maxLen; omega
                case k6 => omega
                case k7 => omega
                case k8 => rfl
                intro g9 cap9 w9 ho9 hg9 hat9 hlt9
                have hw9 : Below w.heap.size w w9 := HW8.out.grown hg9 (by omega) (fun r e => by have e' : g2 = r := (by simpa [Value.ownBlock] using e); omega)
                have HO9 := Lib.hid ho9
                clear ho9 hg9 hat9
                go_wp2
                go_ret
                refine ⟨⟨_, rfl, ?_⟩, hw9⟩
                rw [HRF.out]
                exact slq_of_row (n := j0 + 1 + (n - j0)) (by omega) (by simp [HN.out]; omega) (by have q := HO9.out; simpa [flatP, encP] using q)
    · obtain rfl : j0 = n := by omega
      have hRF : R = F.take j0 ++ [⟨⟨p0, p1, p2⟩, p3⟩] := by
        have q := HR.out
        have hkj : k = j0 := by omega
        subst hkj
        rw [if_neg (by rw [List.getElem?_eq_none (by rw [HN.out]; omega)]; exact fun e => by cases e), List.drop_of_length_le (by rw [HN.out]; omega)] at q
        exact q
      have HRF := Lib.hid hRF
      clear hRF HR
      have hgd : decide ((j0 : Int) < (j0 : Int)) = false := by simp
      go_wp2
      refine region_late 13 [] (by kernel_rfl) (by kernel_rfl) (by rfl) ?_
      apply Exists.intro
      refine ⟨fun v hv hne => ?_, fun u hu => ?_⟩
      · simp only [List.take_succ_cons, List.take_zero]
        have do3 := fun x => (o3.later (v := v) (T := []) (by simp) x).cell
        repeat (go_big_quiet_step (fail))
        refine wpQuiet_nil ?_
        exact rfl
      · simp only [List.drop_succ_cons, List.drop_zero]
        replace o3 := o3.below hu
        replace hw := Below.hop hw hu
        clear hu
        refine late_nil ?_
        (try simp only [Act.put, List.setIfInBounds_toArray, List.set_cons_zero, List.set_cons_succ])
        go_wp2
        refine region_late 12 [] (by kernel_rfl) (by kernel_rfl) (by rfl) ?_
        apply Exists.intro
        refine ⟨fun v hv hne => ?_, fun u2 hu => ?_⟩
        · simp only [List.take_succ_cons, List.take_zero]
          have do3 := fun x => (o3.later (v := v) (T := []) (by simp) x).cell
          repeat (go_big_quiet_step (fail))
          refine wpQuiet_nil ?_
          exact rfl
        · simp only [List.drop_succ_cons, List.drop_zero]
          replace o3 := o3.below hu
          replace hw := Below.hop hw hu
          clear hu
          refine late_nil ?_
          (try simp only [Act.put, List.setIfInBounds_toArray, List.set_cons_zero, List.set_cons_succ])
          have hj1 : 0 < j0 := by omega
          have hj2 : (0 : Int) < (j0 : Int) := by omega
          have hcj : (j0 : Int) ≤ (c : Int) := by omega
          have hcc : (c : Int) ≤ 9223372036854775807 := by omega
          have hz0 : 0 ≤ (j0 : Int) := by omega
          have hkn : j0 ≤ j0 := Nat.le_refl _
          go_wp2
          refine region_gen (T := []) [.make 0 [] (ownB [] #[] (fun p => .slice (some ⟨p, 0, none⟩) 0 0)), .make 4 [0] (rowB (w.heap.size + 1) j0 46 4 (flatP (F.take j0))), .make 6 [] (ownB [] #[.int .i64 p0, .int .i64 p1, .int .i64 p2, .int .i64 p3] (fun p => .slice (some ⟨p, 0, none⟩) 1 1))] 7 0 30 (fun _ _ => True) (fun _ _ _ _ _ => trivial) trivial (by kernel_rfl) (by kernel_rfl) (by rfl) ?_
          unfold genWalk
          apply Exists.intro
          apply And.intro
          · apply Piece.mk
            · intro f v hv hr hne
              simp only [List.take_zero, List.drop_zero, Nat.reduceSub]
              refine wpQuiet_nil ?_
              exact rfl
            · intro f; rfl
            · intro f f' hf; first | (simp; done) | (simp [hf 0 (by simp)])
          simp only [List.take_succ_cons, List.take_zero, List.drop_succ_cons, List.drop_zero, Nat.reduceAdd, oneOp]
          refine ⟨fun f => ⟨rfl, fun u hu _ => ?_⟩, ?_⟩
          · refine make_own (e := 46) (by go_simp) (by simp)
          unfold genWalk
          apply Exists.intro
          apply And.intro
          · apply Piece.mk
            · intro f v hv hr hne
              simp only [List.take_succ_cons, List.take_zero, List.drop_succ_cons, List.drop_zero, Nat.reduceSub]
              (try simp only [Act.put, List.setIfInBounds_toArray, List.set_cons_zero, List.set_cons_succ])
              repeat (go_big_quiet_step (fail))
              refine wpQuiet_nil ?_
              exact rfl
            · intro f; kernel_rfl
            · intro f f' hf; first | (simp; done) | (simp [hf 0 (by simp)])
          simp only [List.take_succ_cons, List.take_zero, List.drop_succ_cons, List.drop_zero, Nat.reduceAdd, oneOp]
          refine ⟨fun f => ⟨rfl, fun u hu _ => ?_⟩, ?_⟩
          · exact make_row _ _ 31 46 i0 (.agg #[.int .i64 0, .int .i64 0, .int .i64 0, .int .i64 0]) 4 32 (w.heap.size + 1) rfl Tryz.underlying31 hi hzz hz1 hz2 rfl (by decide) (f 0).1 j0 c ⟨b, off, none⟩ rfl rfl hj1 (by omega) (by omega) (flatP (F.take j0)) (by rw [flatP_len, List.length_take, HN.out]; omega) (((HV.out.below hw).keeps hu).news hkn) (by have := hu.1; have := o3.lt; omega)
          unfold genWalk
          apply Exists.intro
          apply And.intro
          · apply Piece.mk
            · intro f v hv hr hne
              simp only [List.take_succ_cons, List.take_zero, List.drop_succ_cons, List.drop_zero, Nat.reduceSub]
              (try simp only [Act.put, List.setIfInBounds_toArray, List.set_cons_zero, List.set_cons_succ])
              have do3 := fun x => (o3.later (v := v) (T := []) (by simp) x).cell
              repeat (go_big_quiet_step (fail))
              refine wpQuiet_nil ?_
              exact rfl
            · intro f; kernel_rfl
            · intro f f' hf; first | (simp; done) | (simp [hf 0 (by simp)])
          simp only [List.take_succ_cons, List.take_zero, List.drop_succ_cons, List.drop_zero, Nat.reduceAdd, oneOp]
          refine ⟨fun f => ⟨rfl, fun u hu _ => ?_⟩, ?_⟩
          · refine make_own (e := 46) (by go_simp) (by simp)
          unfold genWalk
          apply Exists.intro
          apply And.intro
          · apply Piece.mk
            · intro f v hv hr hne
              simp only [List.take_zero, List.drop_succ_cons, List.drop_zero, Nat.reduceSub]
              refine wpQuiet_nil ?_
              exact rfl
            · intro f; rfl
            · intro f f' hf; first | (simp; done) | (simp [hf 0 (by simp)])
          intro f u' hup hp hmade hdist
          obtain ⟨h4, h4lo, h4hi⟩ := hmade 4 (by omega) rfl
          obtain ⟨⟨_, h6⟩, h6lo, h6hi⟩ := hmade 6 (by omega) rfl
          have hwu := hw.size
          have hwo := o3.lt
          have hrow : u'.ownsRow (w.heap.size + 1) 46 4 (.slice (some ⟨(f 4).1, 0, none⟩) j0 (f 4).2) j0 (flatP (F.take j0)) := h4
          simp only
          (try simp only [Act.put, List.setIfInBounds_toArray, List.set_cons_zero, List.set_cons_succ])
          replace o3 := o3.upd hup (by simp)
          replace hw : Below w.heap.size w u' := Upd.below hw hup (by simp)
          have hku : Keeps [] u2 u' := Upd.keeps (Keeps.refl _ _) hup
          have hwz := hw.size
          have o3z := o3.lt
          obtain ⟨T6, h6t⟩ := h6
          clear hmade hdist hp hup h4
          refine effc_mem (by rfl) (fun K hK => ?_)
          refine late_append _ _ 31 rfl (w.heap.size + 1) 46 i0 (.agg #[.int .i64 0, .int .i64 0, .int .i64 0, .int .i64 0]) 4 32 Tryz.underlying31 hi hzz hz1 hz2 rfl (by omega) _ j0 (flatP (F.take j0)) (by rfl) hrow ⟨(f 6).1, 0, none⟩ 1 1 [.int .i64 p0, .int .i64 p1, .int .i64 p2, .int .i64 p3] (by rfl) rfl (World.news_of_block h6t) ?_ (by omega) (by unfold maxLen; omega) (by omega) (by omega) u'.heap.size rfl ?_
          · intro u hu3; simp at hu3; rcases hu3 with rfl | rfl | rfl | rfl <;> rfl
          intro g2 cap2 w6 ho6 hg6 hat hlt6
          have ho6' : w6.ownsRow (w.heap.size + 1) 46 4 (.slice (some ⟨g2, 0, none⟩) (j0 + 1) cap2) (j0 + 1) (flatP (F.take j0 ++ [(⟨⟨p0, p1, p2⟩, p3⟩ : Pl)])) := by rw [flatP_snoc]; exact ho6
          have hw6 : Below w.heap.size w w6 := hw.grown hg6 (by omega) (fun r e => by have e' : (f 4).1 = r := (by simpa [Value.ownBlock] using e); omega)
          have hk6 : Keeps [] u2 w6 := ⟨Nat.le_trans hku.1 hg6.size, fun b hb _ => (hg6.block b (by have := hku.1; omega) (fun e => by have e' : b = (f 4).1 := (by simpa [Value.ownBlock] using e); omega)).trans (hku.2 b hb (by simp))⟩
          refine hK _ _ hk6 (fun u3 hu3 => ?_)
          clear hK K
          have ho7 := rowk_below ho6' hu3
          have hw7 := Below.hop hw6 hu3
          have hk7 := hk6.later hu3
          clear ho6 ho6' hg6 hat hlt6 hw6 hk6 hu3
          refine effc_mem (by rfl) (fun K hK => ?_)
          go_simp
          refine hK _ _ hk7 (fun u4 hu4 => ?_)
          clear hK K
          have ho8 := rowk_below ho7 hu4
          have hw8 := Below.hop hw7 hu4
          clear ho7 hw7 hk7 hu4
          refine effc_nil ?_
          (try simp only [Act.put, List.setIfInBounds_toArray, List.set_cons_zero, List.set_cons_succ])
          have hcj3 : (j0 : Int) ≤ (c : Int) := by omega
          have hj3 : (j0 : Int) ≤ (j0 : Int) := Int.le_refl _
          have HO8 := Lib.hid ho8
          have HW8 := Lib.hid hw8
          have hz8 := hw8.size
          have hz11 : j0 + 1 ≤ cap2 := row_cap (HO8.out)
          clear ho8 hw8
          go_wp2_with (at_builtin; refine wpList_append_none _ rfl _ _ _ (by rfl) 46 i0 Tryz.underlying31 hi g2 (j0 + 1) cap2 _ _ (by rfl) (by rfl) hz11 ?_)
          all_goals (go_ret)
          all_goals refine ⟨⟨_, rfl, ?_⟩, HW8.out⟩
          all_goals rw [HRF.out]
          all_goals exact slq_of_row (n := j0 + 1) (by simp) (by simp [HN.out]) (by have q := HO8.out; simpa [flatP, encP] using q)
theorem ref8_put {w : World} {v : Value} {F : List Pl} (p0 p1 p2 p3 : Int) (hv : SlQ w v F) (hn2 : F.length ≤ 1000000) :
    Calls Tryz.prog 30 #[v, vP p0 p1 p2 p3] w fun e w' => (∃ v, e = .returned v ∧ SlQ w' v (putG pLt F ⟨⟨p0, p1, p2⟩, p3⟩)) ∧ Below w.heap.size w w' := by
  rcases hv with ⟨rfl, rfl⟩ | ⟨b, off, c, rfl, hn1, hnc, hc, hp⟩
  · exact ref8_put0 p0 p1 p2 p3
  · exact ref8_put1 c hp hn1 hnc hc hn2 p0 p1 p2 p3
end Go.Proofs.YtccnlnkgoaelpaaGreat
namespace Go.Proofs.YtccnlnkgoaelpaaGreat
open Go.RowKit Go.Shelf Go.BigFrame

set_option maxRecDepth 100000 in
set_option maxHeartbeats 4000000 in
theorem ref8_Put0 {w : World} (p0 p1 p2 : Int) :
    Calls Tryz.prog 37 #[.slice none 0 0, vV p0 p1 p2] w fun e w' => (∃ v, e = .returned v ∧ SlW w' v (putG vLt ([] : List V3) ⟨p0, p1, p2⟩)) ∧ Below w.heap.size w w' := by
  obtain ⟨R, hR⟩ : ∃ R, putG vLt ([] : List V3) ⟨p0, p1, p2⟩ = R := ⟨_, rfl⟩
  have HRF : Hid (R = [⟨p0, p1, p2⟩]) := Lib.hid (by rw [← hR]; rfl)
  rw [hR]
  clear hR
  obtain ⟨i0, hi, hzz, hz1, hz2⟩ := info_parts infoVe
  go_enter Tryz.func37, Tryz.ntmps37
  go_wp2
  have o3 : Own (w.alloc (.cells #[.int .i64 p0, .int .i64 p1, .int .i64 p2] 24)) w.heap.size #[.int .i64 p0, .int .i64 p1, .int .i64 p2] := Own.new rfl
  have hw := (Below.refl w.heap.size w).alloc (Nat.le_refl _) (.cells #[.int .i64 p0, .int .i64 p1, .int .i64 p2] 24)
  go_loopw [5] (fun i wr => i = .int .i64 ((0 : Nat) : Int) ∧ Below w.heap.size w wr ∧ Own wr w.heap.size #[.int .i64 p0, .int .i64 p1, .int .i64 p2]) (fun _ _ => 0)
  case atStart => exact ⟨rfl, hw, o3⟩
  case round =>
    clear o3 hw
    obtain ⟨rfl, hw, o3⟩ := hrel
    obtain ⟨j0, hj0⟩ : ∃ j0 : Nat, j0 = 0 := ⟨0, rfl⟩
    go_wp2
    refine region_late 12 [] (by kernel_rfl) (by kernel_rfl) (by rfl) ?_
    apply Exists.intro
    refine ⟨fun v hv hne => ?_, fun u hu => ?_⟩
    · simp only [List.take_succ_cons, List.take_zero]
      repeat (go_big_quiet_step (fail))
      refine wpQuiet_nil ?_
      exact rfl
    · simp only [List.drop_succ_cons, List.drop_zero]
      replace o3 := o3.below hu
      replace hw := Below.hop hw hu
      clear hu
      refine late_nil ?_
      (try simp only [Act.put, List.setIfInBounds_toArray, List.set_cons_zero, List.set_cons_succ])
      go_wp2
      refine region_late 12 [] (by kernel_rfl) (by kernel_rfl) (by rfl) ?_
      apply Exists.intro
      refine ⟨fun v hv hne => ?_, fun u2 hu => ?_⟩
      · simp only [List.take_succ_cons, List.take_zero]
        repeat (go_big_quiet_step (fail))
        refine wpQuiet_nil ?_
        exact rfl
      · simp only [List.drop_succ_cons, List.drop_zero]
        replace o3 := o3.below hu
        replace hw := Below.hop hw hu
        clear hu
        refine late_nil ?_
        (try simp only [Act.put, List.setIfInBounds_toArray, List.set_cons_zero, List.set_cons_succ])
        go_wp2
        refine region_gen (T := []) [.make 0 [] (rowB (w.heap.size + 1) 0 24 3 []), .need 4 [0], .need 5 [], .make 6 [] (ownB [] #[.int .i64 p0, .int .i64 p1, .int .i64 p2] (fun p => .slice (some ⟨p, 0, none⟩) 1 1))] 7 0 30 (fun _ _ => True) (fun _ _ _ _ _ => trivial) trivial (by kernel_rfl) (by kernel_rfl) (by rfl) ?_
        unfold genWalk
        apply Exists.intro
        apply And.intro
        · apply Piece.mk
          · intro f v hv hr hne
            simp only [List.take_zero, List.drop_zero, Nat.reduceSub]
            refine wpQuiet_nil ?_
            exact rfl
          · intro f; rfl
          · intro f f' hf; first | (simp; done) | (simp [hf 0 (by simp)])
        simp only [List.take_succ_cons, List.take_zero, List.drop_succ_cons, List.drop_zero, Nat.reduceAdd, oneOp]
        refine ⟨fun f => ⟨rfl, fun u hu _ => ?_⟩, ?_⟩
        · refine make_lit (e := 24) (by go_simp) (by have := hu.1; have := o3.lt; omega)
        unfold genWalk
        apply Exists.intro
        apply And.intro
        · apply Piece.mk
          · intro f v hv hr hne
            simp only [List.take_succ_cons, List.take_zero, List.drop_succ_cons, List.drop_zero, Nat.reduceSub]
            (try simp only [Act.put, List.setIfInBounds_toArray, List.set_cons_zero, List.set_cons_succ])
            repeat (go_big_quiet_step (fail))
            refine wpQuiet_nil ?_
            exact rfl
          · intro f; kernel_rfl
          · intro f f' hf; first | (simp; done) | (simp [hf 0 (by simp)])
        unfold genWalk
        apply Exists.intro
        apply And.intro
        · apply Piece.mk
          · intro f v hv hr hne
            simp only [List.take_succ_cons, List.take_zero, List.drop_succ_cons, List.drop_zero, Nat.reduceSub]
            (try simp only [Act.put, List.setIfInBounds_toArray, List.set_cons_zero, List.set_cons_succ])
            have do3 := fun x => (o3.later (v := v) (T := []) (by simp) x).cell
            refine wpQuiet_append_none rfl _ _ 25 24 i0 rfl Tryz.underlying25 hi (f 0).1 0 (f 0).2 _ _ (by rfl) (by rfl) (by omega) ?_
            (try simp only [Act.put, List.setIfInBounds_toArray, List.set_cons_zero, List.set_cons_succ])
            refine wpQuiet_nil ?_
            exact rfl
          · intro f; kernel_rfl
          · intro f f' hf; first | (simp; done) | (simp [hf 0 (by simp)])
        unfold genWalk
        apply Exists.intro
        apply And.intro
        · apply Piece.mk
          · intro f v hv hr hne
            simp only [List.take_succ_cons, List.take_zero, List.drop_succ_cons, List.drop_zero, Nat.reduceSub]
            (try simp only [Act.put, List.setIfInBounds_toArray, List.set_cons_zero, List.set_cons_succ])
            have do3 := fun x => (o3.later (v := v) (T := []) (by simp) x).cell
            repeat (go_big_quiet_step (fail))
            refine wpQuiet_nil ?_
            exact rfl
          · intro f; kernel_rfl
          · intro f f' hf; first | (simp; done) | (simp [hf 0 (by simp)])
        simp only [List.take_succ_cons, List.take_zero, List.drop_succ_cons, List.drop_zero, Nat.reduceAdd, oneOp]
        refine ⟨fun f => ⟨rfl, fun u hu _ => ?_⟩, ?_⟩
        · refine make_own (e := 24) (by go_simp) (by simp)
        unfold genWalk
        apply Exists.intro
        apply And.intro
        · apply Piece.mk
          · intro f v hv hr hne
            simp only [List.take_zero, List.drop_succ_cons, List.drop_zero, Nat.reduceSub]
            refine wpQuiet_nil ?_
            exact rfl
          · intro f; rfl
          · intro f f' hf; first | (simp; done) | (simp [hf 0 (by simp)])
        intro f u' hup hp hmade hdist
        obtain ⟨h4, h4lo, h4hi⟩ := hmade 0 (by omega) rfl
        obtain ⟨⟨_, h6⟩, h6lo, h6hi⟩ := hmade 6 (by omega) rfl
        have hwu := hw.size
        have hwo := o3.lt
        have hrow : u'.ownsRow (w.heap.size + 1) 24 3 (.slice (some ⟨(f 0).1, 0, none⟩) 0 (f 0).2) 0 [] := h4
        simp only
        (try simp only [Act.put, List.setIfInBounds_toArray, List.set_cons_zero, List.set_cons_succ])
        replace o3 := o3.upd hup (by simp)
        replace hw : Below w.heap.size w u' := Upd.below hw hup (by simp)
        have hku : Keeps [] u2 u' := Upd.keeps (Keeps.refl _ _) hup
        have hwz := hw.size
        have o3z := o3.lt
        obtain ⟨T6, h6t⟩ := h6
        clear hmade hdist hp hup h4
        refine effc_mem (by rfl) (fun K hK => ?_)
        refine late_append _ _ 25 rfl (w.heap.size + 1) 24 i0 (.agg #[.int .i64 0, .int .i64 0, .int .i64 0]) 3 24 Tryz.underlying25 hi hzz hz1 hz2 rfl (by omega) _ 0 [] (by rfl) hrow ⟨(f 6).1, 0, none⟩ 1 1 [.int .i64 p0, .int .i64 p1, .int .i64 p2] (by rfl) rfl (World.news_of_block h6t) ?_ (by omega) (by unfold maxLen; omega) (by omega) (by omega) u'.heap.size rfl ?_
        · intro u hu3; simp at hu3; rcases hu3 with rfl | rfl | rfl <;> rfl
        intro g2 cap2 w6 ho6 hg6 hat hlt6
        have ho6' : w6.ownsRow (w.heap.size + 1) 24 3 (.slice (some ⟨g2, 0, none⟩) (0 + 1) cap2) (0 + 1) ([(⟨p0, p1, p2⟩ : V3)].flatMap encV) := ho6
        have hw6 : Below w.heap.size w w6 := hw.grown hg6 (by omega) (fun r e => by have e' : (f 0).1 = r := (by simpa [Value.ownBlock] using e); omega)
        have hk6 : Keeps [] u2 w6 := ⟨Nat.le_trans hku.1 hg6.size, fun b hb _ => (hg6.block b (by have := hku.1; omega) (fun e => by have e' : b = (f 0).1 := (by simpa [Value.ownBlock] using e); omega)).trans (hku.2 b hb (by simp))⟩
        refine hK _ _ hk6 (fun u3 hu3 => ?_)
        clear hK K
        have ho7 := rowk_below ho6' hu3
        have hw7 := Below.hop hw6 hu3
        have hk7 := hk6.later hu3
        clear ho6 ho6' hg6 hat hlt6 hw6 hk6 hu3
        refine effc_mem (by rfl) (fun K hK => ?_)
        go_simp
        refine hK _ _ hk7 (fun u4 hu4 => ?_)
        clear hK K
        have ho8 := rowk_below ho7 hu4
        have hw8 := Below.hop hw7 hu4
        clear ho7 hw7 hk7 hu4
        refine effc_nil ?_
        (try simp only [Act.put, List.setIfInBounds_toArray, List.set_cons_zero, List.set_cons_succ])
        have HO8 := Lib.hid ho8
        have HW8 := Lib.hid hw8
        have hz8 := hw8.size
        have hz11 : 0 + 1 ≤ cap2 := row_cap (HO8.out)
        clear ho8 hw8
        go_wp2_with (at_builtin; refine wpList_append_none _ rfl _ _ _ (by rfl) 24 i0 Tryz.underlying25 hi g2 (0 + 1) cap2 _ _ (by rfl) (by rfl) hz11 ?_)
        all_goals (go_ret)
        all_goals refine ⟨⟨_, rfl, ?_⟩, HW8.out⟩
        all_goals rw [HRF.out]
        all_goals exact slw_of_row (n := 0 + 1) (by simp) (by simp) (by have q := HO8.out; simpa [encV] using q)
set_option maxRecDepth 100000 in
set_option maxHeartbeats 4000000 in
theorem ref8_Put1 {w : World} {b off : Nat} {F : List V3} (c : Nat) (hv : VecsAt w (some ⟨b, off, none⟩) F.length F) (hn1 : 0 < F.length) (hnc : F.length ≤ c) (hc : c ≤ 9223372036854775807) (hn2 : F.length ≤ 1000000) (p0 p1 p2 : Int) :
    Calls Tryz.prog 37 #[.slice (some ⟨b, off, none⟩) F.length c, vV p0 p1 p2] w fun e w' => (∃ v, e = .returned v ∧ SlW w' v (putG vLt F ⟨p0, p1, p2⟩)) ∧ Below w.heap.size w w' := by
  obtain ⟨R, hR⟩ : ∃ R, putG vLt F ⟨p0, p1, p2⟩ = R := ⟨_, rfl⟩
  obtain ⟨k, hk, hlo, hhi⟩ := first_not vAt vLt ⟨p0, p1, p2⟩ F F.length
  have hput := put_atSlW hk hlo hhi
  rw [hR] at hput
  have HR := Lib.hid hput
  rw [hR]
  obtain ⟨n, hn⟩ : ∃ n, F.length = n := ⟨_, rfl⟩
  rw [hn] at hv hn1 hnc hn2 hk hhi
  have HN := Lib.hid hn
  have HV := Lib.hid hv
  have HLO := Lib.hid hlo
  have HHI := Lib.hid hhi
  clear hv hlo hhi hput hR
  rw [hn]
  clear hn
  have hni : (n : Int) ≤ 1000000 := by omega
  have hki : (k : Int) ≤ (n : Int) := by omega
  obtain ⟨i0, hi, hzz, hz1, hz2⟩ := info_parts infoVe
  go_enter Tryz.func37, Tryz.ntmps37
  go_wp2
  have o3 : Own (w.alloc (.cells #[.int .i64 p0, .int .i64 p1, .int .i64 p2] 24)) w.heap.size #[.int .i64 p0, .int .i64 p1, .int .i64 p2] := Own.new rfl
  have hw := (Below.refl w.heap.size w).alloc (Nat.le_refl _) (.cells #[.int .i64 p0, .int .i64 p1, .int .i64 p2] 24)
  go_loopw [5] (fun i wr => ∃ j0 : Nat, j0 ≤ k ∧ i = .int .i64 j0 ∧ Below w.heap.size w wr ∧ Own wr w.heap.size #[.int .i64 p0, .int .i64 p1, .int .i64 p2]) (fun i _ => k - (intOf i).toNat)
  case atStart => exact ⟨0, by omega, rfl, hw, o3⟩
  case round =>
    clear o3 hw
    obtain ⟨j0, hj0, rfl, hw, o3⟩ := hrel
    by_cases hln : j0 < n
    · have hln2 : (j0 : Int) < (n : Int) := by omega
      obtain ⟨⟨x, y, z⟩, hX⟩ : ∃ X, vAt F j0 = X := ⟨_, rfl⟩
      obtain ⟨b', off', he, hb, a1, a2, a3⟩ := (HV.out.below hw).cells hln hX
      cases he
      obtain ⟨s, hs⟩ : ∃ s, vLt ⟨x, y, z⟩ ⟨p0, p1, p2⟩ = s := ⟨_, rfl⟩
      have HS := Lib.hid (congrArg Value.bool hs)
      have hlss : vLt (vAt F j0) ⟨p0, p1, p2⟩ = s := by rw [hX]; exact hs
      have HX := Lib.hid hX
      have HLS := Lib.hid hlss
      clear hs hX hlss
      have hgd : decide ((j0 : Int) < (n : Int)) = true := by simpa using hln2
      by_cases hlt : j0 < k
      · obtain rfl : s = true := HLS.out.symm.trans (HLO.out j0 hlt)
        go_wp2
        refine region_late 12 [] (by kernel_rfl) (by kernel_rfl) (by rfl) ?_
        apply Exists.intro
        refine ⟨fun v hv hne => ?_, fun u hu => ?_⟩
        · simp only [List.take_succ_cons, List.take_zero]
          have do3 := fun x => (o3.later (v := v) (T := []) (by simp) x).cell
          have da1 := later_cell (v := v) (T := []) hb (by simp) a1
          have da2 := later_cell (v := v) (T := []) hb (by simp) a2
          have da3 := later_cell (v := v) (T := []) hb (by simp) a3
          repeat (go_big_quiet_step ((go_at_call 67; with_reducible exact lateB (callv (ref8_Before _ _ _ _ _ _ _) HS.out))))
          refine wpQuiet_nil ?_
          exact rfl
        · simp only [List.drop_succ_cons, List.drop_zero]
          replace o3 := o3.below hu
          replace hw := Below.hop hw hu
          clear hu a1 a2 a3
          refine late_nil ?_
          (try simp only [Act.put, List.setIfInBounds_toArray, List.set_cons_zero, List.set_cons_succ])
          go_wp2
          go_roundw
          case rel => exact ⟨j0 + 1, by omega, by go_num, hw, o3⟩
          case measure => simp [intOf]; omega
      · obtain rfl : j0 = k := by omega
        obtain rfl : s = false := HLS.out.symm.trans (HHI.out hln)
        go_wp2
        refine region_late 12 [] (by kernel_rfl) (by kernel_rfl) (by rfl) ?_
        apply Exists.intro
        refine ⟨fun v hv hne => ?_, fun u hu => ?_⟩
        · simp only [List.take_succ_cons, List.take_zero]
          have do3 := fun x => (o3.later (v := v) (T := []) (by simp) x).cell
          have da1 := later_cell (v := v) (T := []) hb (by simp) a1
          have da2 := later_cell (v := v) (T := []) hb (by simp) a2
          have da3 := later_cell (v := v) (T := []) hb (by simp) a3
          repeat (go_big_quiet_step ((go_at_call 67; with_reducible exact lateB (callv (ref8_Before _ _ _ _ _ _ _) HS.out))))
          refine wpQuiet_nil ?_
          exact rfl
        · simp only [List.drop_succ_cons, List.drop_zero]
          replace o3 := o3.below hu
          have hbu : b < u.heap.size := Nat.lt_of_lt_of_le hb hu.size
          have ca1 := (hu.cell (p := ⟨b, off + j0 * 3, none⟩) hb).trans a1
          have ca2 := (hu.cell (p := ⟨b, off + j0 * 3 + 1, none⟩) hb).trans a2
          have ca3 := (hu.cell (p := ⟨b, off + j0 * 3 + 2, none⟩) hb).trans a3
          replace hw := Below.hop hw hu
          clear hu a1 a2 a3
          refine late_nil ?_
          (try simp only [Act.put, List.setIfInBounds_toArray, List.set_cons_zero, List.set_cons_succ])
          by_cases heq : (⟨x, y, z⟩ : V3) = ⟨p0, p1, p2⟩
          · have hRF : R = F := by
              have q := HR.out
              have e : F[j0]? = some ⟨p0, p1, p2⟩ := by
                have hl : j0 < F.length := by rw [HN.out]; exact hln
                have e2 : vAt F j0 = F[j0] := by unfold vAt; simp [List.getD_eq_getElem?_getD, hl]
                rw [List.getElem?_eq_getElem hl, ← e2, HX.out, heq]
              rw [if_pos e] at q
              exact q
            have HRF := Lib.hid hRF
            injection heq with e1 e2 e3
            subst e1
            subst e2
            subst e3
            clear hRF HS HLS HR
            go_wp2
            refine region_late 12 [] (by kernel_rfl) (by kernel_rfl) (by rfl) ?_
            apply Exists.intro
            refine ⟨fun v hv hne => ?_, fun u2 hu => ?_⟩
            · simp only [List.take_succ_cons, List.take_zero]
              have do3 := fun x => (o3.later (v := v) (T := []) (by simp) x).cell
              have da1 := later_cell (v := v) (T := []) hbu (by simp) ca1
              have da2 := later_cell (v := v) (T := []) hbu (by simp) ca2
              have da3 := later_cell (v := v) (T := []) hbu (by simp) ca3
              repeat (go_big_quiet_step (fail))
              refine wpQuiet_nil ?_
              exact rfl
            · simp only [List.drop_succ_cons, List.drop_zero]
              replace o3 := o3.below hu
              replace hw := Below.hop hw hu
              clear hu ca1 ca2 ca3
              refine late_nil ?_
              (try simp only [Act.put, List.setIfInBounds_toArray, List.set_cons_zero, List.set_cons_succ])
              go_wp2
              go_ret
              have hwe := hw
              refine ⟨⟨_, rfl, ?_⟩, hwe⟩
              rw [HRF.out]
              exact .inr ⟨b, off, c, by rw [HN.out]; rfl, by rw [HN.out]; exact hn1, by rw [HN.out]; exact hnc, hc, by rw [HN.out]; exact HV.out.below hwe⟩
          · have hRF : R = F.take j0 ++ ⟨p0, p1, p2⟩ :: F.drop j0 := by
              have q := HR.out
              have e : ¬ F[j0]? = some ⟨p0, p1, p2⟩ := by
                have hl : j0 < F.length := by rw [HN.out]; exact hln
                have e2 : vAt F j0 = F[j0] := by unfold vAt; simp [List.getD_eq_getElem?_getD, hl]
                rw [List.getElem?_eq_getElem hl, ← e2, HX.out]
                intro e
                exact heq (Option.some.inj e)
              rw [if_neg e] at q
              exact q
            have HRF := Lib.hid hRF
            have HD := Lib.hid (V3.ne_cases heq)
            clear heq hRF HR HS HLS
            go_wp2
            refine region_late 12 [] (by kernel_rfl) (by kernel_rfl) (by rfl) ?_
            apply Exists.intro
            refine ⟨fun v hv hne => ?_, fun u2 hu => ?_⟩
            · simp only [List.take_succ_cons, List.take_zero]
              have do3 := fun x => (o3.later (v := v) (T := []) (by simp) x).cell
              have da1 := later_cell (v := v) (T := []) hbu (by simp) ca1
              have da2 := later_cell (v := v) (T := []) hbu (by simp) ca2
              have da3 := later_cell (v := v) (T := []) hbu (by simp) ca3
              rcases HD.out with hd | hd | hd
              all_goals repeat (go_big_quiet_step (fail))
              all_goals refine wpQuiet_nil ?_
              all_goals exact rfl
            · simp only [List.drop_succ_cons, List.drop_zero]
              replace o3 := o3.below hu
              replace hw := Below.hop hw hu
              clear hu ca1 ca2 ca3
              refine late_nil ?_
              (try simp only [Act.put, List.setIfInBounds_toArray, List.set_cons_zero, List.set_cons_succ])
              by_cases hj : j0 = 0
              · obtain rfl : j0 = 0 := hj
                have hcc : (c : Int) ≤ 9223372036854775807 := by omega
                have hnc2 : (n : Int) ≤ (c : Int) := by omega
                have hkn : 0 ≤ n := by omega
                obtain ⟨j0, hj0'⟩ : ∃ j0 : Nat, j0 = 0 := ⟨0, rfl⟩
                go_wp2
                refine region_gen (T := []) [.make 0 [] (rowB (w.heap.size + 1) 0 24 3 []), .need 4 [0], .need 5 [], .make 6 [] (ownB [] #[.int .i64 p0, .int .i64 p1, .int .i64 p2] (fun p => .slice (some ⟨p, 0, none⟩) 1 1))] 7 0 30 (fun _ _ => True) (fun _ _ _ _ _ => trivial) trivial (by kernel_rfl) (by kernel_rfl) (by rfl) ?_
                unfold genWalk
                apply Exists.intro
                apply And.intro
                · apply Piece.mk
                  · intro f v hv hr hne
                    simp only [List.take_zero, List.drop_zero, Nat.reduceSub]
                    refine wpQuiet_nil ?_
                    exact rfl
                  · intro f; rfl
                  · intro f f' hf; first | (simp; done) | (simp [hf 0 (by simp)])
                simp only [List.take_succ_cons, List.take_zero, List.drop_succ_cons, List.drop_zero, Nat.reduceAdd, oneOp]
                refine ⟨fun f => ⟨rfl, fun u hu _ => ?_⟩, ?_⟩
                · refine make_lit (e := 24) (by go_simp) (by have := hu.1; have := o3.lt; omega)
                unfold genWalk
                apply Exists.intro
                apply And.intro
                · apply Piece.mk
                  · intro f v hv hr hne
                    simp only [List.take_succ_cons, List.take_zero, List.drop_succ_cons, List.drop_zero, Nat.reduceSub]
                    (try simp only [Act.put, List.setIfInBounds_toArray, List.set_cons_zero, List.set_cons_succ])
                    repeat (go_big_quiet_step (fail))
                    refine wpQuiet_nil ?_
                    exact rfl
                  · intro f; kernel_rfl
                  · intro f f' hf; first | (simp; done) | (simp [hf 0 (by simp)])
                unfold genWalk
                apply Exists.intro
                apply And.intro
                · apply Piece.mk
                  · intro f v hv hr hne
                    simp only [List.take_succ_cons, List.take_zero, List.drop_succ_cons, List.drop_zero, Nat.reduceSub]
                    (try simp only [Act.put, List.setIfInBounds_toArray, List.set_cons_zero, List.set_cons_succ])
                    have do3 := fun x => (o3.later (v := v) (T := []) (by simp) x).cell
                    refine wpQuiet_append_none rfl _ _ 25 24 i0 rfl Tryz.underlying25 hi (f 0).1 0 (f 0).2 _ _ (by rfl) (by rfl) (by omega) ?_
                    (try simp only [Act.put, List.setIfInBounds_toArray, List.set_cons_zero, List.set_cons_succ])
                    refine wpQuiet_nil ?_
                    exact rfl
                  · intro f; kernel_rfl
                  · intro f f' hf; first | (simp; done) | (simp [hf 0 (by simp)])
                unfold genWalk
                apply Exists.intro
                apply And.intro
                · apply Piece.mk
                  · intro f v hv hr hne
                    simp only [List.take_succ_cons, List.take_zero, List.drop_succ_cons, List.drop_zero, Nat.reduceSub]
                    (try simp only [Act.put, List.setIfInBounds_toArray, List.set_cons_zero, List.set_cons_succ])
                    have do3 := fun x => (o3.later (v := v) (T := []) (by simp) x).cell
                    repeat (go_big_quiet_step (fail))
                    refine wpQuiet_nil ?_
                    exact rfl
                  · intro f; kernel_rfl
                  · intro f f' hf; first | (simp; done) | (simp [hf 0 (by simp)])
                simp only [List.take_succ_cons, List.take_zero, List.drop_succ_cons, List.drop_zero, Nat.reduceAdd, oneOp]
                refine ⟨fun f => ⟨rfl, fun u hu _ => ?_⟩, ?_⟩
                · refine make_own (e := 24) (by go_simp) (by simp)
                unfold genWalk
                apply Exists.intro
                apply And.intro
                · apply Piece.mk
                  · intro f v hv hr hne
                    simp only [List.take_zero, List.drop_succ_cons, List.drop_zero, Nat.reduceSub]
                    refine wpQuiet_nil ?_
                    exact rfl
                  · intro f; rfl
                  · intro f f' hf; first | (simp; done) | (simp [hf 0 (by simp)])
                intro f u' hup hp hmade hdist
                obtain ⟨h4, h4lo, h4hi⟩ := hmade 0 (by omega) rfl
                obtain ⟨⟨_, h6⟩, h6lo, h6hi⟩ := hmade 6 (by omega) rfl
                have hwu := hw.size
                have hwo := o3.lt
                have hrow : u'.ownsRow (w.heap.size + 1) 24 3 (.slice (some ⟨(f 0).1, 0, none⟩) 0 (f 0).2) 0 [] := h4
                simp only
                (try simp only [Act.put, List.setIfInBounds_toArray, List.set_cons_zero, List.set_cons_succ])
                replace o3 := o3.upd hup (by simp)
                replace hw : Below w.heap.size w u' := Upd.below hw hup (by simp)
                have hku : Keeps [] u2 u' := Upd.keeps (Keeps.refl _ _) hup
                have hwz := hw.size
                have o3z := o3.lt
                obtain ⟨T6, h6t⟩ := h6
                clear hmade hdist hp hup h4
                refine effc_mem (by rfl) (fun K hK => ?_)
                refine late_append _ _ 25 rfl (w.heap.size + 1) 24 i0 (.agg #[.int .i64 0, .int .i64 0, .int .i64 0]) 3 24 Tryz.underlying25 hi hzz hz1 hz2 rfl (by omega) _ 0 [] (by rfl) hrow ⟨(f 6).1, 0, none⟩ 1 1 [.int .i64 p0, .int .i64 p1, .int .i64 p2] (by rfl) rfl (World.news_of_block h6t) ?_ (by omega) (by unfold maxLen; omega) (by omega) (by omega) u'.heap.size rfl ?_
                · intro u hu3; simp at hu3; rcases hu3 with rfl | rfl | rfl <;> rfl
                intro g2 cap2 w6 ho6 hg6 hat hlt6
                have ho6' : w6.ownsRow (w.heap.size + 1) 24 3 (.slice (some ⟨g2, 0, none⟩) (0 + 1) cap2) (0 + 1) ([(⟨p0, p1, p2⟩ : V3)].flatMap encV) := ho6
                have hw6 : Below w.heap.size w w6 := hw.grown hg6 (by omega) (fun r e => by have e' : (f 0).1 = r := (by simpa [Value.ownBlock] using e); omega)
                have hk6 : Keeps [] u2 w6 := ⟨Nat.le_trans hku.1 hg6.size, fun b hb _ => (hg6.block b (by have := hku.1; omega) (fun e => by have e' : b = (f 0).1 := (by simpa [Value.ownBlock] using e); omega)).trans (hku.2 b hb (by simp))⟩
                refine hK _ _ hk6 (fun u3 hu3 => ?_)
                clear hK K
                have ho7 := rowk_below ho6' hu3
                have hw7 := Below.hop hw6 hu3
                have hk7 := hk6.later hu3
                clear ho6 ho6' hg6 hat hlt6 hw6 hk6 hu3
                refine effc_mem (by rfl) (fun K hK => ?_)
                go_simp
                refine hK _ _ hk7 (fun u4 hu4 => ?_)
                clear hK K
                have ho8 := rowk_below ho7 hu4
                have hw8 := Below.hop hw7 hu4
                clear ho7 hw7 hk7 hu4
                refine effc_nil ?_
                (try simp only [Act.put, List.setIfInBounds_toArray, List.set_cons_zero, List.set_cons_succ])
                have HPL := Lib.hid (HV.out.below hw8)
                have HO8 := Lib.hid ho8
                have HW8 := Lib.hid hw8
                have hz8 := hw8.size
                have hz9 := (HO8.out.lt g2 rfl).2
                have hz10 := (HO8.out.lt g2 rfl).1
                have hcj2 : (j0 : Int) ≤ (n : Int) := by omega
                have hnc2 : (n : Int) ≤ (c : Int) := by omega
                clear ho8 hw8
                have hone' : ∀ u ∈ (F.flatMap encV), u.oneCell' = true := fun u hu => by
                  simp only [encV, List.mem_flatMap, List.mem_cons, List.not_mem_nil, or_false] at hu
                  obtain ⟨q, _, h | h | h⟩ := hu <;> rw [h] <;> rfl
                have HONE := Lib.hid hone'
                clear hone'
                go_wp2_with (at_builtin; refine wpList_append_lies _ rfl _ _ _ (by rfl) (w.heap.size + 1) 24 i0 (.agg #[.int .i64 0, .int .i64 0, .int .i64 0]) 3 24 Tryz.underlying25 hi hzz hz1 hz2 rfl (by decide) _ (0 + 1) ([(⟨p0, p1, p2⟩ : V3)].flatMap encV) (by rfl) HO8.out ⟨b, off, none⟩ (n) (c) (F.flatMap encV) ?k3 ?k4 ?k41 ?k42 ?k43 ?k5 ?k6 ?k7 u4.heap.size ?k8 ?_)
                case k3 => rfl
                case k4 => rw [flatV_len, HN.out]
                case k41 => exact HPL.out.newsA
                case k42 => exact HONE.out
                case k43 => omega
                case k5 => unfold maxLen; omega
                case k6 => omega
                case k7 => omega
                case k8 => rfl
                intro g9 cap9 w9 ho9 hg9 hat9 hlt9
                have hw9 : Below w.heap.size w w9 := HW8.out.grown hg9 (by omega) (fun r e => by have e' : g2 = r := (by simpa [Value.ownBlock] using e); omega)
                have HO9 := Lib.hid ho9
                clear ho9 hg9 hat9
                go_wp2
                go_ret
                refine ⟨⟨_, rfl, ?_⟩, hw9⟩
                rw [HRF.out]
                exact slw_of_row (n := 0 + 1 + (n)) (by omega) (by simp [HN.out]; omega) (by have q := HO9.out; simpa [encV] using q)
              · have hj1 : 0 < j0 := by omega
                have hj2 : (0 : Int) < (j0 : Int) := by omega
                have hcj : (j0 : Int) ≤ (c : Int) := by omega
                have hcc : (c : Int) ≤ 9223372036854775807 := by omega
                have hz0 : 0 ≤ (j0 : Int) := by omega
                have hkn : j0 ≤ n := by omega
                go_wp2
                refine region_gen (T := []) [.make 0 [] (ownB [] #[] (fun p => .slice (some ⟨p, 0, none⟩) 0 0)), .make 4 [0] (rowB (w.heap.size + 1) j0 24 3 ((F.take j0).flatMap encV)), .make 6 [] (ownB [] #[.int .i64 p0, .int .i64 p1, .int .i64 p2] (fun p => .slice (some ⟨p, 0, none⟩) 1 1))] 7 0 30 (fun _ _ => True) (fun _ _ _ _ _ => trivial) trivial (by kernel_rfl) (by kernel_rfl) (by rfl) ?_
                unfold genWalk
                apply Exists.intro
                apply And.intro
                · apply Piece.mk
                  · intro f v hv hr hne
                    simp only [List.take_zero, List.drop_zero, Nat.reduceSub]
                    refine wpQuiet_nil ?_
                    exact rfl
                  · intro f; rfl
                  · intro f f' hf; first | (simp; done) | (simp [hf 0 (by simp)])
                simp only [List.take_succ_cons, List.take_zero, List.drop_succ_cons, List.drop_zero, Nat.reduceAdd, oneOp]
                refine ⟨fun f => ⟨rfl, fun u hu _ => ?_⟩, ?_⟩
                · refine make_own (e := 24) (by go_simp) (by simp)
                unfold genWalk
                apply Exists.intro
                apply And.intro
                · apply Piece.mk
                  · intro f v hv hr hne
                    simp only [List.take_succ_cons, List.take_zero, List.drop_succ_cons, List.drop_zero, Nat.reduceSub]
                    (try simp only [Act.put, List.setIfInBounds_toArray, List.set_cons_zero, List.set_cons_succ])
                    repeat (go_big_quiet_step (fail))
                    refine wpQuiet_nil ?_
                    exact rfl
                  · intro f; kernel_rfl
                  · intro f f' hf; first | (simp; done) | (simp [hf 0 (by simp)])
                simp only [List.take_succ_cons, List.take_zero, List.drop_succ_cons, List.drop_zero, Nat.reduceAdd, oneOp]
                refine ⟨fun f => ⟨rfl, fun u hu _ => ?_⟩, ?_⟩
                · exact make_row _ _ 25 24 i0 (.agg #[.int .i64 0, .int .i64 0, .int .i64 0]) 3 24 (w.heap.size + 1) rfl Tryz.underlying25 hi hzz hz1 hz2 rfl (by decide) (f 0).1 j0 c ⟨b, off, none⟩ rfl rfl hj1 (by omega) (by omega) ((F.take j0).flatMap encV) (by rw [flatV_len, List.length_take, HN.out]; omega) (((HV.out.below hw).keeps hu).news hkn) (by have := hu.1; have := o3.lt; omega)
                unfold genWalk
                apply Exists.intro
                apply And.intro
                · apply Piece.mk
                  · intro f v hv hr hne
                    simp only [List.take_succ_cons, List.take_zero, List.drop_succ_cons, List.drop_zero, Nat.reduceSub]
                    (try simp only [Act.put, List.setIfInBounds_toArray, List.set_cons_zero, List.set_cons_succ])
                    have do3 := fun x => (o3.later (v := v) (T := []) (by simp) x).cell
                    repeat (go_big_quiet_step (fail))
                    refine wpQuiet_nil ?_
                    exact rfl
                  · intro f; kernel_rfl
                  · intro f f' hf; first | (simp; done) | (simp [hf 0 (by simp)])
                simp only [List.take_succ_cons, List.take_zero, List.drop_succ_cons, List.drop_zero, Nat.reduceAdd, oneOp]
                refine ⟨fun f => ⟨rfl, fun u hu _ => ?_⟩, ?_⟩
                · refine make_own (e := 24) (by go_simp) (by simp)
                unfold genWalk
                apply Exists.intro
                apply And.intro
                · apply Piece.mk
                  · intro f v hv hr hne
                    simp only [List.take_zero, List.drop_succ_cons, List.drop_zero, Nat.reduceSub]
                    refine wpQuiet_nil ?_
                    exact rfl
                  · intro f; rfl
                  · intro f f' hf; first | (simp; done) | (simp [hf 0 (by simp)])
                intro f u' hup hp hmade hdist
                obtain ⟨h4, h4lo, h4hi⟩ := hmade 4 (by omega) rfl
                obtain ⟨⟨_, h6⟩, h6lo, h6hi⟩ := hmade 6 (by omega) rfl
                have hwu := hw.size
                have hwo := o3.lt
                have hrow : u'.ownsRow (w.heap.size + 1) 24 3 (.slice (some ⟨(f 4).1, 0, none⟩) j0 (f 4).2) j0 ((F.take j0).flatMap encV) := h4
                simp only
                (try simp only [Act.put, List.setIfInBounds_toArray, List.set_cons_zero, List.set_cons_succ])
                replace o3 := o3.upd hup (by simp)
                replace hw : Below w.heap.size w u' := Upd.below hw hup (by simp)
                have hku : Keeps [] u2 u' := Upd.keeps (Keeps.refl _ _) hup
                have hwz := hw.size
                have o3z := o3.lt
                obtain ⟨T6, h6t⟩ := h6
                clear hmade hdist hp hup h4
                refine effc_mem (by rfl) (fun K hK => ?_)
                refine late_append _ _ 25 rfl (w.heap.size + 1) 24 i0 (.agg #[.int .i64 0, .int .i64 0, .int .i64 0]) 3 24 Tryz.underlying25 hi hzz hz1 hz2 rfl (by omega) _ j0 ((F.take j0).flatMap encV) (by rfl) hrow ⟨(f 6).1, 0, none⟩ 1 1 [.int .i64 p0, .int .i64 p1, .int .i64 p2] (by rfl) rfl (World.news_of_block h6t) ?_ (by omega) (by unfold maxLen; omega) (by omega) (by omega) u'.heap.size rfl ?_
                · intro u hu3; simp at hu3; rcases hu3 with rfl | rfl | rfl <;> rfl
                intro g2 cap2 w6 ho6 hg6 hat hlt6
                have ho6' : w6.ownsRow (w.heap.size + 1) 24 3 (.slice (some ⟨g2, 0, none⟩) (j0 + 1) cap2) (j0 + 1) ((F.take j0 ++ [(⟨p0, p1, p2⟩ : V3)]).flatMap encV) := by rw [flat_snoc]; exact ho6
                have hw6 : Below w.heap.size w w6 := hw.grown hg6 (by omega) (fun r e => by have e' : (f 4).1 = r := (by simpa [Value.ownBlock] using e); omega)
                have hk6 : Keeps [] u2 w6 := ⟨Nat.le_trans hku.1 hg6.size, fun b hb _ => (hg6.block b (by have := hku.1; omega) (fun e => by have e' : b = (f 4).1 := (by simpa [Value.ownBlock] using e); omega)).trans (hku.2 b hb (by simp))⟩
                refine hK _ _ hk6 (fun u3 hu3 => ?_)
                clear hK K
                have ho7 := rowk_below ho6' hu3
                have hw7 := Below.hop hw6 hu3
                have hk7 := hk6.later hu3
                clear ho6 ho6' hg6 hat hlt6 hw6 hk6 hu3
                refine effc_mem (by rfl) (fun K hK => ?_)
                go_simp
                refine hK _ _ hk7 (fun u4 hu4 => ?_)
                clear hK K
                have ho8 := rowk_below ho7 hu4
                have hw8 := Below.hop hw7 hu4
                clear ho7 hw7 hk7 hu4
                refine effc_nil ?_
                (try simp only [Act.put, List.setIfInBounds_toArray, List.set_cons_zero, List.set_cons_succ])
                have HPL := Lib.hid (HV.out.below hw8)
                have HO8 := Lib.hid ho8
                have HW8 := Lib.hid hw8
                have hz8 := hw8.size
                have hz9 := (HO8.out.lt g2 rfl).2
                have hz10 := (HO8.out.lt g2 rfl).1
                have hcj2 : (j0 : Int) ≤ (n : Int) := by omega
                have hnc2 : (n : Int) ≤ (c : Int) := by omega
                clear ho8 hw8
                have hone' : ∀ u ∈ ((F.drop j0).flatMap encV), u.oneCell' = true := fun u hu => by
                  simp only [encV, List.mem_flatMap, List.mem_cons, List.not_mem_nil, or_false] at hu
                  obtain ⟨q, _, h | h | h⟩ := hu <;> rw [h] <;> rfl
                have HONE := Lib.hid hone'
                clear hone'
                go_wp2_with (at_builtin; refine wpList_append_lies _ rfl _ _ _ (by rfl) (w.heap.size + 1) 24 i0 (.agg #[.int .i64 0, .int .i64 0, .int .i64 0]) 3 24 Tryz.underlying25 hi hzz hz1 hz2 rfl (by decide) _ (j0 + 1) ((F.take j0 ++ [(⟨p0, p1, p2⟩ : V3)]).flatMap encV) (by rfl) HO8.out ⟨b, off + j0 * 3, none⟩ (n - j0) (c - j0) ((F.drop j0).flatMap encV) ?k3 ?k4 ?k41 ?k42 ?k43 ?k5 ?k6 ?k7 u4.heap.size ?k8 ?_)
                case k3 => rfl
                case k4 => rw [flatV_len, List.length_drop, HN.out]
                case k41 => exact HPL.out.newsD (Nat.le_of_lt hln)
                case k42 => exact HONE.out
                case k43 => omega
                case k5 => unfold maxLen; omega
                case k6 => omega
                case k7 => omega
                case k8 => rfl
                intro g9 cap9 w9 ho9 hg9 hat9 hlt9
                have hw9 : Below w.heap.size w w9 := HW8.out.grown hg9 (by omega) (fun r e => by have e' : g2 = r := (by simpa [Value.ownBlock] using e); omega)
                have HO9 := Lib.hid ho9
                clear ho9 hg9 hat9
                go_wp2
                go_ret
                refine ⟨⟨_, rfl, ?_⟩, hw9⟩
                rw [HRF.out]
                exact slw_of_row (n := j0 + 1 + (n - j0)) (by omega) (by simp [HN.out]; omega) (by have q := HO9.out; simpa [encV] using q)
    · obtain rfl : j0 = n := by omega
      have hRF : R = F.take j0 ++ [⟨p0, p1, p2⟩] := by
        have q := HR.out
        have hkj : k = j0 := by omega
        subst hkj
        rw [if_neg (by rw [List.getElem?_eq_none (by rw [HN.out]; omega)]; exact fun e => by cases e), List.drop_of_length_le (by rw [HN.out]; omega)] at q
        exact q
      have HRF := Lib.hid hRF
      clear hRF HR
      have hgd : decide ((j0 : Int) < (j0 : Int)) = false := by simp
      go_wp2
      refine region_late 12 [] (by kernel_rfl) (by kernel_rfl) (by rfl) ?_
      apply Exists.intro
      refine ⟨fun v hv hne => ?_, fun u hu => ?_⟩
      · simp only [List.take_succ_cons, List.take_zero]
        have do3 := fun x => (o3.later (v := v) (T := []) (by simp) x).cell
        repeat (go_big_quiet_step (fail))
        refine wpQuiet_nil ?_
        exact rfl
      · simp only [List.drop_succ_cons, List.drop_zero]
        replace o3 := o3.below hu
        replace hw := Below.hop hw hu
        clear hu
        refine late_nil ?_
        (try simp only [Act.put, List.setIfInBounds_toArray, List.set_cons_zero, List.set_cons_succ])
        go_wp2
        refine region_late 12 [] (by kernel_rfl) (by kernel_rfl) (by rfl) ?_
        apply Exists.intro
        refine ⟨fun v hv hne => ?_, fun u2 hu => ?_⟩
        · simp only [List.take_succ_cons, List.take_zero]
          have do3 := fun x => (o3.later (v := v) (T := []) (by simp) x).cell
          repeat (go_big_quiet_step (fail))
          refine wpQuiet_nil ?_
          exact rfl
        · simp only [List.drop_succ_cons, List.drop_zero]
          replace o3 := o3.below hu
          replace hw := Below.hop hw hu
          clear hu
          refine late_nil ?_
          (try simp only [Act.put, List.setIfInBounds_toArray, List.set_cons_zero, List.set_cons_succ])
          have hj1 : 0 < j0 := by omega
          have hj2 : (0 : Int) < (j0 : Int) := by omega
          have hcj : (j0 : Int) ≤ (c : Int) := by omega
          have hcc : (c : Int) ≤ 9223372036854775807 := by omega
          have hz0 : 0 ≤ (j0 : Int) := by omega
          have hkn : j0 ≤ j0 := Nat.le_refl _
          go_wp2
          refine region_gen (T := []) [.make 0 [] (ownB [] #[] (fun p => .slice (some ⟨p, 0, none⟩) 0 0)), .make 4 [0] (rowB (w.heap.size + 1) j0 24 3 ((F.take j0).flatMap encV)), .make 6 [] (ownB [] #[.int .i64 p0, .int .i64 p1, .int .i64 p2] (fun p => .slice (some ⟨p, 0, none⟩) 1 1))] 7 0 30 (fun _ _ => True) (fun _ _ _ _ _ => trivial) trivial (by kernel_rfl) (by kernel_rfl) (by rfl) ?_
          unfold genWalk
          apply Exists.intro
          apply And.intro
          · apply Piece.mk
            · intro f v hv hr hne
              simp only [List.take_zero, List.drop_zero, Nat.reduceSub]
              refine wpQuiet_nil ?_
              exact rfl
            · intro f; rfl
            · intro f f' hf; first | (simp; done) | (simp [hf 0 (by simp)])
          simp only [List.take_succ_cons, List.take_zero, List.drop_succ_cons, List.drop_zero, Nat.reduceAdd, oneOp]
          refine ⟨fun f => ⟨rfl, fun u hu _ => ?_⟩, ?_⟩
          · refine make_own (e := 24) (by go_simp) (by simp)
          unfold genWalk
          apply Exists.intro
          apply And.intro
          · apply Piece.mk
            · intro f v hv hr hne
              simp only [List.take_succ_cons, List.take_zero, List.drop_succ_cons, List.drop_zero, Nat.reduceSub]
              (try simp only [Act.put, List.setIfInBounds_toArray, List.set_cons_zero, List.set_cons_succ])
              repeat (go_big_quiet_step (fail))
              refine wpQuiet_nil ?_
              exact rfl
            · intro f; kernel_rfl
            · intro f f' hf; first | (simp; done) | (simp [hf 0 (by simp)])
          simp only [List.take_succ_cons, List.take_zero, List.drop_succ_cons, List.drop_zero, Nat.reduceAdd, oneOp]
          refine ⟨fun f => ⟨rfl, fun u hu _ => ?_⟩, ?_⟩
          · exact make_row _ _ 25 24 i0 (.agg #[.int .i64 0, .int .i64 0, .int .i64 0]) 3 24 (w.heap.size + 1) rfl Tryz.underlying25 hi hzz hz1 hz2 rfl (by decide) (f 0).1 j0 c ⟨b, off, none⟩ rfl rfl hj1 (by omega) (by omega) ((F.take j0).flatMap encV) (by rw [flatV_len, List.length_take, HN.out]; omega) (((HV.out.below hw).keeps hu).news hkn) (by have := hu.1; have := o3.lt; omega)
          unfold genWalk
          apply Exists.intro
          apply And.intro
          · apply Piece.mk
            · intro f v hv hr hne
              simp only [List.take_succ_cons, List.take_zero, List.drop_succ_cons, List.drop_zero, Nat.reduceSub]
              (try simp only [Act.put, List.setIfInBounds_toArray, List.set_cons_zero, List.set_cons_succ])
              have do3 := fun x => (o3.later (v := v) (T := []) (by simp) x).cell
              repeat (go_big_quiet_step (fail))
              refine wpQuiet_nil ?_
              exact rfl
            · intro f; kernel_rfl
            · intro f f' hf; first | (simp; done) | (simp [hf 0 (by simp)])
          simp only [List.take_succ_cons, List.take_zero, List.drop_succ_cons, List.drop_zero, Nat.reduceAdd, oneOp]
          refine ⟨fun f => ⟨rfl, fun u hu _ => ?_⟩, ?_⟩
          · refine make_own (e := 24) (by go_simp) (by simp)
          unfold genWalk
          apply Exists.intro
          apply And.intro
          · apply Piece.mk
            · intro f v hv hr hne
              simp only [List.take_zero, List.drop_succ_cons, List.drop_zero, Nat.reduceSub]
              refine wpQuiet_nil ?_
              exact rfl
            · intro f; rfl
            · intro f f' hf; first | (simp; done) | (simp [hf 0 (by simp)])
          intro f u' hup hp hmade hdist
          obtain ⟨h4, h4lo, h4hi⟩ := hmade 4 (by omega) rfl
          obtain ⟨⟨_, h6⟩, h6lo, h6hi⟩ := hmade 6 (by omega) rfl
          have hwu := hw.size
          have hwo := o3.lt
          have hrow : u'.ownsRow (w.heap.size + 1) 24 3 (.slice (some ⟨(f 4).1, 0, none⟩) j0 (f 4).2) j0 ((F.take j0).flatMap encV) := h4
          simp only
          (try simp only [Act.put, List.setIfInBounds_toArray, List.set_cons_zero, List.set_cons_succ])
          replace o3 := o3.upd hup (by simp)
          replace hw : Below w.heap.size w u' := Upd.below hw hup (by simp)
          have hku : Keeps [] u2 u' := Upd.keeps (Keeps.refl _ _) hup
          have hwz := hw.size
          have o3z := o3.lt
          obtain ⟨T6, h6t⟩ := h6
          clear hmade hdist hp hup h4
          refine effc_mem (by rfl) (fun K hK => ?_)
          refine late_append _ _ 25 rfl (w.heap.size + 1) 24 i0 (.agg #[.int .i64 0, .int .i64 0, .int .i64 0]) 3 24 Tryz.underlying25 hi hzz hz1 hz2 rfl (by omega) _ j0 ((F.take j0).flatMap encV) (by rfl) hrow ⟨(f 6).1, 0, none⟩ 1 1 [.int .i64 p0, .int .i64 p1, .int .i64 p2] (by rfl) rfl (World.news_of_block h6t) ?_ (by omega) (by unfold maxLen; omega) (by omega) (by omega) u'.heap.size rfl ?_
          · intro u hu3; simp at hu3; rcases hu3 with rfl | rfl | rfl <;> rfl
          intro g2 cap2 w6 ho6 hg6 hat hlt6
          have ho6' : w6.ownsRow (w.heap.size + 1) 24 3 (.slice (some ⟨g2, 0, none⟩) (j0 + 1) cap2) (j0 + 1) ((F.take j0 ++ [(⟨p0, p1, p2⟩ : V3)]).flatMap encV) := by rw [flat_snoc]; exact ho6
          have hw6 : Below w.heap.size w w6 := hw.grown hg6 (by omega) (fun r e => by have e' : (f 4).1 = r := (by simpa [Value.ownBlock] using e); omega)
          have hk6 : Keeps [] u2 w6 := ⟨Nat.le_trans hku.1 hg6.size, fun b hb _ => (hg6.block b (by have := hku.1; omega) (fun e => by have e' : b = (f 4).1 := (by simpa [Value.ownBlock] using e); omega)).trans (hku.2 b hb (by simp))⟩
          refine hK _ _ hk6 (fun u3 hu3 => ?_)
          clear hK K
          have ho7 := rowk_below ho6' hu3
          have hw7 := Below.hop hw6 hu3
          have hk7 := hk6.later hu3
          clear ho6 ho6' hg6 hat hlt6 hw6 hk6 hu3
          refine effc_mem (by rfl) (fun K hK => ?_)
          go_simp
          refine hK _ _ hk7 (fun u4 hu4 => ?_)
          clear hK K
          have ho8 := rowk_below ho7 hu4
          have hw8 := Below.hop hw7 hu4
          clear ho7 hw7 hk7 hu4
          refine effc_nil ?_
          (try simp only [Act.put, List.setIfInBounds_toArray, List.set_cons_zero, List.set_cons_succ])
          have hcj3 : (j0 : Int) ≤ (c : Int) := by omega
          have hj3 : (j0 : Int) ≤ (j0 : Int) := Int.le_refl _
          have HO8 := Lib.hid ho8
          have HW8 := Lib.hid hw8
          have hz8 := hw8.size
          have hz11 : j0 + 1 ≤ cap2 := row_cap (HO8.out)
          clear ho8 hw8
          go_wp2_with (at_builtin; refine wpList_append_none _ rfl _ _ _ (by rfl) 24 i0 Tryz.underlying25 hi g2 (j0 + 1) cap2 _ _ (by rfl) (by rfl) hz11 ?_)
          all_goals (go_ret)
          all_goals refine ⟨⟨_, rfl, ?_⟩, HW8.out⟩
          all_goals rw [HRF.out]
          all_goals exact slw_of_row (n := j0 + 1) (by simp) (by simp [HN.out]) (by have q := HO8.out; simpa [encV] using q)
theorem ref8_Put {w : World} {v : Value} {F : List V3} (p0 p1 p2 : Int) (hv : SlW w v F) (hn2 : F.length ≤ 1000000) :
    Calls Tryz.prog 37 #[v, vV p0 p1 p2] w fun e w' => (∃ v, e = .returned v ∧ SlW w' v (putG vLt F ⟨p0, p1, p2⟩)) ∧ Below w.heap.size w w' := by
  rcases hv with ⟨rfl, rfl⟩ | ⟨b, off, c, rfl, hn1, hnc, hc, hp⟩
  · exact ref8_Put0 p0 p1 p2
  · exact ref8_Put1 c hp hn1 hnc hc hn2 p0 p1 p2
end Go.Proofs.YtccnlnkgoaelpaaGreat
