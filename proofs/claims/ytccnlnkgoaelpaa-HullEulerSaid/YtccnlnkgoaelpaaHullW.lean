/- Package hull: the predicate of Extreme. -/
import Derived.Test.YtccnlnkgoaelpaaHullV
namespace Go.Proofs.Ytccnlnkgoaelpaa
open Go.RowKit Go.Shelf

theorem rowk_below {w w' : World} {base : Nat} {e : TypeId} {size : Nat} {v : Value} {n : Nat} {xs : List Value} (h : w.ownsRow base e size v n xs) (hb : Below w.heap.size w w') : w'.ownsRow base e size v n xs :=
  h.kept (below_grown hb) (by
    rcases h.2 with ⟨rfl, _⟩ | ⟨g, cap, cur, rfl, _⟩
    · exact .inl rfl
    · exact .inr (by simp [Value.ownBlock]))
theorem own_grown {w w' : World} {b : Nat} {cs : Array Value} {row : Option Nat} (h : Own w b cs) (hg : w.grownBy w' row) (hr : ∀ r, row = some r → r ≠ b) : Own w' b cs :=
  h.of_block (hg.block b h.lt (fun e => hr b e.symm rfl))
/-- An owned row of planes, as a list of planes in memory. -/
theorem pls_of_row {W : World} {base : Nat} {v : Value} {G : List Pl} (h : W.ownsRow base 33 4 v G.length (flatP G)) :
    ∃ A c, v = .slice A G.length c ∧ G.length ≤ c ∧ c ≤ 9223372036854775807 ∧ PlsAt W A G.length G := by
  rcases Nat.eq_zero_or_pos G.length with h0 | h0
  · obtain rfl : G = [] := List.eq_nil_of_length_eq_zero h0
    rcases h.2 with ⟨rfl, _⟩ | ⟨g, cap, cur, rfl, h1, h2, h3, h4, h5, h6⟩
    · exact ⟨none, 0, rfl, by simp, by omega, rfl, by simp, fun h => by simp at h⟩
    · exact ⟨_, cap, rfl, by simp, by unfold maxLen at *; omega, rfl, by simp, fun h => by simp at h⟩
  · obtain ⟨g, cap, rfl⟩ := ownsRow_pos' h h0
    obtain ⟨hg1, hg2, hg3, cs, hgo, hgc⟩ := ownsRow_own h h0
    have hq : RowQ W g G := ⟨cs, hgo, fun i hi => by
      have q := fun k (hk : k < 4) => (hgc (i * 4 + k) (by omega)).trans (flatP_at G i k hi hk)
      exact ⟨q 0 (by omega), q 1 (by omega), q 2 (by omega), q 3 (by omega)⟩⟩
    unfold maxLen at hg3
    exact ⟨_, cap, rfl, hg2, by omega, hq.pls (by omega)⟩
def onB (v : V3) (p : Pl) : Bool := pSide p v == 0
theorem filt_yes {F : List Pl} {v : V3} {k : Nat} (hk : k < F.length) (h : pSide (pAt F k) v = 0) : (F.take (k + 1)).filter (onB v) = (F.take k).filter (onB v) ++ [pAt F k] := by
  have e : pAt F k = F[k] := by unfold pAt; simp [List.getD_eq_getElem?_getD, hk]
  rw [e] at h ⊢
  rw [List.take_succ_eq_append_getElem hk, List.filter_append]
  simp [onB, h]
theorem filt_no {F : List Pl} {v : V3} {k : Nat} (hk : k < F.length) (h : ¬ pSide (pAt F k) v = 0) : (F.take (k + 1)).filter (onB v) = (F.take k).filter (onB v) := by
  have e : pAt F k = F[k] := by unfold pAt; simp [List.getD_eq_getElem?_getD, hk]
  rw [e] at h
  rw [List.take_succ_eq_append_getElem hk, List.filter_append]
  simp [onB, h]
theorem filt_len (F : List Pl) (v : V3) (k : Nat) : ((F.take k).filter (onB v)).length ≤ k := Nat.le_trans (List.length_filter_le _ _) (by simp; omega)

set_option maxRecDepth 100000 in
set_option maxHeartbeats 4000000 in
theorem hull_Extreme1 {w : World} {A : Option Addr} {n : Nat} {F : List Pl} (c Bf : Nat) (x y z : Int) (hB : Own w Bf #[.slice A n c]) (hv : PlsAt w A n F) (hcl : ∀ i, i < F.length → cl (pAt F i) = pAt F i) (hn : n ≤ 1000000000) (hnc : n ≤ c) (hc : c ≤ 9223372036854775807) :
    Calls Try.prog 36 #[vV x y z, .pointer (some ⟨Bf, 0, none⟩)] w fun e w' => e = .returned (.bool (!cornerB F ⟨x, y, z⟩)) ∧ Below w.heap.size w w' := by
  obtain ⟨r, hr⟩ : ∃ r, cornerB F ⟨x, y, z⟩ = r := ⟨_, rfl⟩
  have HR := Lib.hid hr
  rw [hr]
  clear hr
  obtain ⟨i0, hi, hz0, hz1, hz2⟩ := info_parts infoPl
  have hl := hv.len
  have hBz := hB.lt
  have HV := Lib.hid hv
  have HL := Lib.hid hl
  have HCL := Lib.hid hcl
  have HB := Lib.hid hB
  have hB0 := hB.alloc (.cells #[.int .i64 x, .int .i64 y, .int .i64 z] 31)
  have hBc := hB0.cell
  have hBf := hB0.thaw
  clear hv hl hcl hB hB0
  have hni : (n : Int) ≤ 1000000000 := by omega
  have o2 : Own (w.alloc (.cells #[.int .i64 x, .int .i64 y, .int .i64 z] 31)) w.heap.size #[.int .i64 x, .int .i64 y, .int .i64 z] := Own.new rfl
  have hw0 := (Below.refl w.heap.size w).alloc (Nat.le_refl _) (.cells #[.int .i64 x, .int .i64 y, .int .i64 z] 31)
  go_enter Try.func36, Try.ntmps36
  go_wp2
  clear hBc hBf
  go_loopw [4, 9] (fun s i wr => ∃ (k : Nat) (G : List Pl), k ≤ n ∧ i = .int .i64 k ∧ G = (F.take k).filter (onB ⟨x, y, z⟩) ∧ Below w.heap.size w wr ∧ Own wr w.heap.size #[.int .i64 x, .int .i64 y, .int .i64 z] ∧ wr.ownsRow (w.heap.size + 1) 33 4 s G.length (flatP G)) (fun _ i _ => n - (intOf i).toNat)
  case atStart => exact ⟨0, [], by omega, rfl, by simp, hw0, o2, World.ownsRow_nil _ _ _ _⟩
  case round =>
    clear o2 hw0
    obtain ⟨k, G, hk, rfl, hG, hw, o2, hrow⟩ := hrel
    have HG := Lib.hid hG
    have HROW := Lib.hid hrow
    have hGl : G.length ≤ k := by rw [hG]; exact filt_len _ _ _
    clear hG hrow
    by_cases hlt : k < n
    · have hlt2 : (k : Int) < (n : Int) := by omega
      obtain ⟨⟨⟨p0, p1, p2⟩, p3⟩, hX⟩ : ∃ X, pAt F k = X := ⟨_, rfl⟩
      obtain ⟨b, off, rfl, hb, a1, a2, a3, a4⟩ := (HV.out.below hw).cells hlt hX
      obtain ⟨hx, hy, hz, _⟩ : I64 p0 ∧ I64 p1 ∧ I64 p2 ∧ I64 p3 := by
        have q := cl_i64 (pAt F k)
        rw [HCL.out k (by rw [HL.out]; exact hlt), hX] at q
        exact q
      obtain ⟨s0, hs⟩ : ∃ s, pSide ⟨⟨p0, p1, p2⟩, p3⟩ ⟨x, y, z⟩ = s := ⟨_, rfl⟩
      have HS := Lib.hid (congrArg (Value.int IntKind.i64) hs)
      have HX := Lib.hid hX
      have HSI := Lib.hid hs
      clear hs hX
      have o2b := o2.alloc (.cells #[.int .i64 p0, .int .i64 p1, .int .i64 p2, .int .i64 p3] 33)
      have o2c := o2b.cell
      have o2f := o2b.thaw
      have o2z := o2.lt
      have hwz := hw.size
      go_wp2_with fail
      refine Calls.mono (callv (plane_Side p0 p1 p2 p3 x y z hx hy hz _) HS.out) ?_
      rintro e w1 ⟨rfl, hb1⟩
      have o6 : Own w1 wr.heap.size #[.int .i64 p0, .int .i64 p1, .int .i64 p2, .int .i64 p3] := Own.below (Own.new rfl) hb1
      have hb1' : Below wr.heap.size wr w1 := Below.hop ((Below.refl _ _).alloc (Nat.le_refl _) _) hb1
      replace hw := Below.hop hw hb1'
      replace o2 := o2.below hb1'
      have hrow1 := rowk_below HROW.out hb1'
      clear hb1 hb1' o2b o2c o2f a1 a2 a3 a4 hb HROW
      generalize wr.heap.size = b6 at *
      have o6c := o6.cell
      have o6f := o6.thaw
      have o6z := o6.lt
      replace hwz := hw.size
      by_cases h0 : s0 = 0
      · subst h0
        have HROW := Lib.hid hrow1
        have HO2 := Lib.hid o2
        have HW := Lib.hid hw
        have hlt3 := hrow1.lt
        clear hrow1 o2 hw
        go_wp2_with (at_builtin; refine wpList_append_lies _ rfl _ _ 26 rfl (w.heap.size + 1) 33 i0 (.agg #[.int .i64 0, .int .i64 0, .int .i64 0, .int .i64 0]) 4 32 Try.underlying26 hi hz0 hz1 hz2 rfl (by decide) _ G.length (flatP G) rfl (rowk_below HROW.out ((Below.refl _ _).alloc (Nat.le_refl _) _)) ⟨w1.heap.size, 0, none⟩ 1 1 [.int .i64 p0, .int .i64 p1, .int .i64 p2, .int .i64 p3] rfl rfl (World.news_of_block (heap_alloc_new w1 _)) (by intro u hu; simp at hu; rcases hu with rfl | rfl | rfl | rfl <;> rfl) (by decide) (by unfold maxLen; omega) (by omega) (by simp; omega) _ rfl ?_; intro g' cap' w4 hown' hgrow hat hltg)
        have hwa : Below w.heap.size w (w1.alloc (.cells #[.int .i64 p0, .int .i64 p1, .int .i64 p2, .int .i64 p3] 33)) := HW.out.alloc (by omega) _
        have hw4 : Below w.heap.size w w4 := hwa.grown hgrow (by simp; omega) (fun r e => by have := (hlt3 r e).1; omega)
        have o24 : Own w4 w.heap.size #[.int .i64 x, .int .i64 y, .int .i64 z] := own_grown (HO2.out.alloc _) hgrow (fun r e => by have := (hlt3 r e).1; omega)
        have e1 : flatP G ++ [.int .i64 p0, .int .i64 p1, .int .i64 p2, .int .i64 p3] = flatP (G ++ [pAt F k]) := by rw [flatP_snoc, HX.out]
        rw [e1] at hown'
        have hrow4 : w4.ownsRow (w.heap.size + 1) 33 4 (.slice (some ⟨g', 0, none⟩) (G.length + 1) cap') (G ++ [pAt F k]).length (flatP (G ++ [pAt F k])) := by rw [List.length_append]; exact hown'
        have HR4 := Lib.hid hrow4
        clear hrow4 hown' hgrow hat hwa HO2 HW HROW hlt3
        go_wp2
        go_roundw
        case rel => exact ⟨k + 1, G ++ [pAt F k], by omega, by go_num, by rw [filt_yes (by rw [HL.out]; exact hlt) (by rw [HX.out]; exact HSI.out), ← HG.out], hw4, o24, HR4.out⟩
        case measure => simp [intOf]; omega
      · have HROW := Lib.hid hrow1
        clear hrow1
        go_wp2
        go_roundw
        case rel => exact ⟨k + 1, G, by omega, by go_num, by rw [filt_no (by rw [HL.out]; exact hlt) (by rw [HX.out, HSI.out]; exact h0), ← HG.out], hw, o2, HROW.out⟩
        case measure => simp [intOf]; omega
    · obtain rfl : k = n := by omega
      obtain ⟨A2, c2, rfl, hc1, hc2, hpl⟩ := pls_of_row HROW.out
      have hGF : G = F.filter (onB ⟨x, y, z⟩) := by rw [HG.out, List.take_of_length_le (by rw [HL.out]; omega)]
      have hvx := hull_vertex c2 hpl hc1 hc2
      have hrr : spanB G = r := by rw [hGF]; exact HR.out
      rw [hrr] at hvx
      have HVX := Lib.hid hvx
      clear hvx hrr hGF hpl HR HROW HG o2
      go_wp2_with fail
      refine Calls.mono HVX.out ?_
      rintro e w2 ⟨rfl, hb2⟩
      replace hw := Below.hop hw hb2
      clear HVX hb2
      go_wp2
      go_ret
      exact ⟨rfl, hw⟩
end Go.Proofs.Ytccnlnkgoaelpaa
