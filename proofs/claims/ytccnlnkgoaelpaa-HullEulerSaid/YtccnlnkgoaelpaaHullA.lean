/- The reference of package hull: Points. -/
import Derived.Test.YtccnlnkgoaelpaaDraw3
import Derived.Test.YtccnlnkgoaelpaaHullR3
import Derived.Test.YtccnlnkgoaelpaaHullO
namespace Go.Proofs.Ytccnlnkgoaelpaa
open Go.RowKit Go.Shelf

/-- Coordinates of the reference's points. -/
def In8 (v : V3) : Prop := (-8 ≤ v.x ∧ v.x ≤ 8) ∧ (-8 ≤ v.y ∧ v.y ≤ 8) ∧ (-8 ≤ v.z ∧ v.z ≤ 8)
def In11 (v : V3) : Prop := (-11 ≤ v.x ∧ v.x ≤ 8) ∧ (-11 ≤ v.y ∧ v.y ≤ 8) ∧ (-11 ≤ v.z ∧ v.z ≤ 8)
theorem In8.in11 {v : V3} (h : In8 v) : In11 v := by unfold In8 In11 at *; omega
theorem In11.vin {v : V3} (h : In11 v) : vIn v = true := by
  unfold In11 at h
  unfold vIn inB
  simp only [Bool.and_eq_true, decide_eq_true_eq]
  omega
theorem in11_all {L : List V3} (h : ∀ v ∈ L, In11 v) : L.all vIn = true := List.all_eq_true.2 fun v hv => (h v hv).vin
theorem half_bd {s : Int} (h1 : -16 ≤ s) (h2 : s ≤ 16) : -8 ≤ s.tdiv 2 ∧ s.tdiv 2 ≤ 8 := by
  by_cases h : s < 0
  · obtain ⟨t, rfl⟩ : ∃ t, s = -t := ⟨-s, by omega⟩
    rw [Int.neg_tdiv, Int.tdiv_eq_ediv_of_nonneg (by omega)]
    omega
  · rw [Int.tdiv_eq_ediv_of_nonneg (by omega)]
    omega
def fix4 (v : V3) : List V3 := [v, ⟨v.x - 3, v.y, v.z⟩, ⟨v.x, v.y - 2, v.z⟩, ⟨v.x, v.y, v.z - 1⟩]
theorem fix_flat (v : V3) (r : List V3) (hv : In8 v) (hr : ∀ u ∈ r, In11 u) : flatB (fix4 v ++ r) = false := by
  have hall : ∀ u ∈ fix4 v ++ r, In11 u := fun u hu => by
    rcases List.mem_append.1 hu with h | h
    · unfold In8 at hv
      simp only [fix4, List.mem_cons, List.not_mem_nil, or_false] at h
      unfold In11
      rcases h with rfl | rfl | rfl | rfl <;> first | omega | (simp only []; omega) | (simp; omega)
    · exact hr u h
  obtain ⟨x, y, z⟩ := v
  obtain ⟨hx, hy, hz⟩ := hv
  simp only [] at hx hy hz
  have e1 : vSub ⟨x - 3, y, z⟩ ⟨x, y - 2, z⟩ = ⟨-3, 2, 0⟩ := by
    unfold vSub
    simp only []
    rw [show x - 3 - x = -3 by omega, show y - (y - 2) = 2 by omega, show z - z = 0 by omega]
    decide +kernel
  have e2 : vSub ⟨x, y, z⟩ ⟨x, y - 2, z⟩ = ⟨0, 2, 0⟩ := by
    unfold vSub
    simp only []
    rw [show x - x = 0 by omega, show y - (y - 2) = 2 by omega, show z - z = 0 by omega]
    decide +kernel
  have ec : vCross ⟨-3, 2, 0⟩ ⟨0, 2, 0⟩ = ⟨0, 0, -6⟩ := by decide +kernel
  have eg : (vGcd ⟨0, 0, -6⟩ == 0) = false := by decide +kernel
  have ep : vPrim ⟨0, 0, -6⟩ = ⟨0, 0, -1⟩ := by decide +kernel
  have eg1 : (vGcd ⟨0, 0, -1⟩ == 1) = true := by decide +kernel
  have i0 : vIn ⟨x, y, z⟩ = true := In11.vin (by unfold In11; simp; omega)
  have i1 : vIn ⟨x - 3, y, z⟩ = true := In11.vin (by unfold In11; simp; omega)
  have i2 : vIn ⟨x, y - 2, z⟩ = true := In11.vin (by unfold In11; simp; omega)
  have i3 : vIn ⟨x, y, z - 1⟩ = true := In11.vin (by unfold In11; simp; omega)
  have ed : ∀ a b c : Int, -100 ≤ c → c ≤ 100 → vDot ⟨0, 0, -1⟩ ⟨a, b, c⟩ = -c := fun a b c h1 h2 => by
    unfold vDot
    simp only [Int.zero_mul]
    have wc : wrap64 (-c) = -c := wr_id ⟨by omega, by omega⟩
    have w0 : wrap64 0 = 0 := by decide +kernel
    rw [w0, Int.add_zero, w0, Int.zero_add, show (-1) * c = -c by omega, wc, wc]
  have ho : okThrough ⟨x, y - 2, z⟩ ⟨x - 3, y, z⟩ ⟨x, y, z⟩ = true := by
    unfold okThrough
    rw [i0, i1, i2, e1, e2, ec, eg]
    rfl
  have hp : pThrough ⟨x, y - 2, z⟩ ⟨x - 3, y, z⟩ ⟨x, y, z⟩ = ⟨⟨0, 0, -1⟩, -z⟩ := by
    unfold pThrough
    rw [ho, e1, e2, ec, ep, ed _ _ _ (by omega) (by omega)]
    rfl
  have hv : pValid ⟨⟨0, 0, -1⟩, -z⟩ = true := by
    unfold pValid
    simp only []
    rw [eg1]
    have ha : inB 4608 0 = true := by decide +kernel
    have hb : inB 4608 (-1) = true := by decide +kernel
    have hc : inB 2097152 (-z) = true := by unfold inB; simp only [Bool.and_eq_true, decide_eq_true_eq]; omega
    rw [ha, hb, hc]
    rfl
  have hs : pSide ⟨⟨0, 0, -1⟩, -z⟩ ⟨x, y, z - 1⟩ = 1 := by
    unfold pSide
    rw [hv, i3]
    simp only []
    rw [ed _ _ _ (by omega) (by omega)]
    unfold ordI
    rw [if_pos (by rfl), if_neg (by omega), if_pos (by omega)]
  refine flat_no (in11_all hall) (i := 2) (j := 1) (k := 0) (m := 3) (by simp [fix4]) (by omega) (by omega) (by simp [fix4]) ho ?_
  rw [show vAt (fix4 ⟨x, y, z⟩ ++ r) 2 = ⟨x, y - 2, z⟩ from rfl, show vAt (fix4 ⟨x, y, z⟩ ++ r) 1 = ⟨x - 3, y, z⟩ from rfl, show vAt (fix4 ⟨x, y, z⟩ ++ r) 0 = ⟨x, y, z⟩ from rfl, show vAt (fix4 ⟨x, y, z⟩ ++ r) 3 = ⟨x, y, z - 1⟩ from rfl, hp, hs]
  decide
theorem row_upd2 {w w' : World} {base : Nat} {e : TypeId} {size : Nat} {v : Value} {n : Nat} {xs : List Value} {T : List Nat} (h : w.ownsRow base e size v n xs) (k : Upd T w w') (hT : ∀ g, v.ownBlock = some g → g ∉ T) : w'.ownsRow base e size v n xs := by
  refine ⟨h.1, ?_⟩
  rcases h.2 with h2 | ⟨g, cap, cur, rfl, h2, h3, h4⟩
  · exact .inl h2
  · exact .inr ⟨g, cap, cur, rfl, h2, (k.block g (Array.getElem?_eq_some_iff.1 h3).1 (hT g rfl)).trans h3, h4⟩
theorem row_keeps {w w' : World} {base : Nat} {e : TypeId} {size : Nat} {v : Value} {n : Nat} {xs : List Value} {T : List Nat} (h : w.ownsRow base e size v n xs) (k : Keeps T w w') (hT : ∀ g, v.ownBlock = some g → g ∉ T) : w'.ownsRow base e size v n xs := by
  refine ⟨h.1, ?_⟩
  rcases h.2 with h2 | ⟨g, cap, cur, rfl, h2, h3, h4⟩
  · exact .inl h2
  · exact .inr ⟨g, cap, cur, rfl, h2, (k.2 g (Array.getElem?_eq_some_iff.1 h3).1 (hT g rfl)).trans h3, h4⟩
theorem DrawAt.keeps {w w' : World} {T : List Nat} {bd : Nat} {l : List Int} (h : DrawAt w bd l) (k : Keeps T w w') (hT : ∀ b ∈ T, bd < b) : DrawAt w' bd l :=
  h.of_blocks fun i hi => k.2 i (by have := h.lt; omega) (fun hm => by have := hT i hm; omega)
theorem DrawAt.upd {w w' : World} {T : List Nat} {bd : Nat} {l : List Int} (h : DrawAt w bd l) (k : Upd T w w') (hT : ∀ b ∈ T, bd < b) : DrawAt w' bd l :=
  h.of_blocks fun i hi => k.block i (by have := h.lt; omega) (fun hm => by have := hT i hm; omega)
theorem DrawAt.grown {w w' : World} {row : Option Nat} {bd : Nat} {l : List Int} (h : DrawAt w bd l) (k : w.grownBy w' row) (hT : ∀ b, row = some b → bd < b) : DrawAt w' bd l :=
  h.of_blocks fun i hi => k.block i (by have := h.lt; omega) (fun e => by have := hT i e.symm; omega)
theorem rowO_of {W : World} {base n : Nat} {v : Value} {G : List V3} (h0 : 0 < n) (hn : G.length = n) (h : W.ownsRow base 31 3 v n (G.flatMap encV)) : ∃ g cap, v = .slice (some ⟨g, 0, none⟩) n cap ∧ base ≤ g ∧ n ≤ cap ∧ cap ≤ 9223372036854775807 ∧ RowO W g G := by
  subst hn
  obtain ⟨g, cap, rfl⟩ := ownsRow_pos' h h0
  obtain ⟨hg1, hg2, hg3, cs, hgo, hgc⟩ := ownsRow_own h h0
  refine ⟨g, cap, rfl, hg1, hg2, by unfold maxLen at hg3; omega, cs, hgo, fun i hi => ?_⟩
  have q := fun k (hk : k < 3) => (hgc (i * 3 + k) (by omega)).trans (flat_at G i k hi hk)
  exact ⟨q 0 (by omega), q 1 (by omega), q 2 (by omega)⟩
theorem check_of {L : List V3} (h1 : L.length ≤ 8) (h2 : ∀ v ∈ L, In11 v) (h3 : flatB L = false) : hCheck L = 0 := by
  unfold hCheck
  rw [if_neg (by omega), if_pos (in11_all h2), h3]
  rfl
end Go.Proofs.Ytccnlnkgoaelpaa
namespace Go.Proofs.Ytccnlnkgoaelpaa
open Go.RowKit Go.Shelf

theorem new_at {W : World} {o : Obj} {B : Nat} (h : W.heap.size = B) : (W.alloc o).heap[B]? = some o := h ▸ heap_alloc_new W o
theorem in8_at {P : List V3} (h : ∀ v ∈ P, In8 v) {k : Nat} (hk : k < P.length) {a b c : Int} (e : vAt P k = ⟨a, b, c⟩) : (-8 ≤ a ∧ a ≤ 8) ∧ (-8 ≤ b ∧ b ≤ 8) ∧ (-8 ≤ c ∧ c ≤ 8) := by
  have q := h _ (vAt_mem hk)
  rw [e] at q
  exact q
theorem in8_snoc {P : List V3} (h : ∀ v ∈ P, In8 v) {a b c : Int} (hn : (-8 ≤ a ∧ a ≤ 8) ∧ (-8 ≤ b ∧ b ≤ 8) ∧ (-8 ≤ c ∧ c ≤ 8)) : ∀ v ∈ P ++ [⟨a, b, c⟩], In8 v := fun v hv => by
  rcases List.mem_append.1 hv with h1 | h1
  · exact h v h1
  · simp only [List.mem_cons, List.not_mem_nil, or_false] at h1
    subst h1
    exact hn
set_option maxRecDepth 100000 in
set_option maxHeartbeats 4000000 in
theorem ref8_Points (A : Option Addr) (n cap : Nat) (l : List Int) (w : World) (hl : SliceI w A n l) :
    Calls Try.prog 7 #[.slice A n cap] w fun e w' => (∃ g c P, e = .returned (.slice (some ⟨g, 0, none⟩) P.length c) ∧ 4 ≤ P.length ∧ P.length ≤ 8 ∧ P.length ≤ c ∧ c ≤ 9223372036854775807 ∧ VecsAt w' (some ⟨g, 0, none⟩) P.length P ∧ w.heap.size < g ∧ (∀ v ∈ P, In11 v) ∧ hCheck P = 0) ∧ Below w.heap.size w w' := by
  obtain ⟨i0, hi, hz0, hz1, hz2⟩ := info_parts infoVe
  have HL := Lib.hid hl
  clear hl
  go_enter Try.func7, Try.ntmps7
  go_wp2_with fail
  have D0 := DrawAt.start (cap := cap) (T := 54) HL.out
  refine Calls.mono (ref1_Next w.heap.size _ 5 (by omega) (by omega) _ D0) ?_
  rintro e w1 ⟨rfl, hu, hd⟩
  have nb := nextV_bd l 5 (by omega)
  obtain ⟨m, hm⟩ : ∃ m : Nat, 4 + nextV l 5 = m := ⟨(4 + nextV l 5).toNat, by omega⟩
  have hm4 : 4 ≤ m := by omega
  have hm8 : m ≤ 8 := by omega
  have hm8i : (m : Int) ≤ 8 := by omega
  have hw : Below w.heap.size w w1 := Upd.below ((Below.refl _ _).alloc (Nat.le_refl _) _) hu (by simp)
  have hws : w.heap.size + 1 ≤ w1.heap.size := by have := hu.size; simpa using this
  clear hu D0 HL
  go_wp2
  have HD0 := Lib.hid hd
  clear hd hm nb
  go_loopw [5, 6] (fun v i wr => ∃ (k : Nat) (P : List V3) (d : List Int), k ≤ m ∧ i = .int .i64 k ∧ Below w.heap.size w wr ∧ w.heap.size + 1 ≤ wr.heap.size ∧ DrawAt wr w.heap.size d ∧ wr.ownsRow (w.heap.size + 1) 31 3 v k (P.flatMap encV) ∧ P.length = k ∧ ∀ v ∈ P, In8 v) (fun _ i _ => m - (intOf i).toNat)
  case atStart => exact ⟨0, [], _, by omega, rfl, hw, hws, HD0.out, World.ownsRow_nil _ _ _ _, rfl, fun v hv => by cases hv⟩
  case round =>
    clear hw hws HD0
    obtain ⟨k, P, d0, hkm, rfl, hw, hws, hd, hrow, hPl, hP8⟩ := hrel
    have HD := Lib.hid hd
    have HO := Lib.hid hrow
    have HPL := Lib.hid hPl
    have HP8 := Lib.hid hP8
    clear hd hrow hPl hP8
    have hlz : w.heap.size < w.heap.size + 1 := by omega
    by_cases hlt : k < m
    · have hlt2 : (k : Int) < (m : Int) := by omega
      obtain ⟨d1, hd1⟩ : ∃ d, d0.tail = d := ⟨_, rfl⟩
      obtain ⟨d2, hd2⟩ : ∃ d, d1.tail = d := ⟨_, rfl⟩
      obtain ⟨d3, hd3⟩ : ∃ d, d2.tail = d := ⟨_, rfl⟩
      obtain ⟨d4, hd4⟩ : ∃ d, d3.tail = d := ⟨_, rfl⟩
      have HDT := Lib.hid (And.intro hd1 (And.intro hd2 (And.intro hd3 hd4)))
      clear hd1 hd2 hd3 hd4
      obtain ⟨q0, hq0⟩ : ∃ q, nextV d0 17 = q := ⟨_, rfl⟩
      have nb0 := nextV_bd d0 17 (by omega)
      rw [hq0] at nb0
      have HQ0 := Lib.hid (congrArg (Value.int IntKind.i64) hq0)
      clear hq0
      obtain ⟨x, hx⟩ : ∃ x, q0 - 8 = x := ⟨_, rfl⟩
      have hbx : -8 ≤ x ∧ x ≤ 8 := by omega
      go_wp2_with fail
      refine Calls.mono (callv (ref1_Next w.heap.size d0 17 (by omega) (by omega) _ (HD.out)) HQ0.out) ?_
      rintro e w2 ⟨rfl, hu, hd⟩
      rw [HDT.out.1] at hd
      have HO' := Lib.hid (ownsRow_upd (HO.out) hu hlz)
      have hw' := Upd.below hw hu (by simp)
      have hws' : w.heap.size + 1 ≤ w2.heap.size := by have := hu.size; omega
      clear HO HD hw hws hu
      have HO := HO'
      have HD := Lib.hid hd
      have hw := hw'
      have hws := hws'
      clear HO' hd hw' hws' HQ0
      obtain ⟨q1, hq1⟩ : ∃ q, nextV d1 17 = q := ⟨_, rfl⟩
      have nb1 := nextV_bd d1 17 (by omega)
      rw [hq1] at nb1
      have HQ1 := Lib.hid (congrArg (Value.int IntKind.i64) hq1)
      clear hq1
      obtain ⟨y, hy⟩ : ∃ x, q1 - 8 = x := ⟨_, rfl⟩
      have hby : -8 ≤ y ∧ y ≤ 8 := by omega
      go_wp2_with fail
      refine Calls.mono (callv (ref1_Next w.heap.size d1 17 (by omega) (by omega) _ (HD.out)) HQ1.out) ?_
      rintro e w3 ⟨rfl, hu, hd⟩
      rw [HDT.out.2.1] at hd
      have HO' := Lib.hid (ownsRow_upd (HO.out) hu hlz)
      have hw' := Upd.below hw hu (by simp)
      have hws' : w.heap.size + 1 ≤ w3.heap.size := by have := hu.size; omega
      clear HO HD hw hws hu
      have HO := HO'
      have HD := Lib.hid hd
      have hw := hw'
      have hws := hws'
      clear HO' hd hw' hws' HQ1
      obtain ⟨q2, hq2⟩ : ∃ q, nextV d2 17 = q := ⟨_, rfl⟩
      have nb2 := nextV_bd d2 17 (by omega)
      rw [hq2] at nb2
      have HQ2 := Lib.hid (congrArg (Value.int IntKind.i64) hq2)
      clear hq2
      obtain ⟨z, hz⟩ : ∃ x, q2 - 8 = x := ⟨_, rfl⟩
      have hbz : -8 ≤ z ∧ z ≤ 8 := by omega
      go_wp2_with fail
      refine Calls.mono (callv (ref1_Next w.heap.size d2 17 (by omega) (by omega) _ (HD.out)) HQ2.out) ?_
      rintro e w4 ⟨rfl, hu, hd⟩
      rw [HDT.out.2.2.1] at hd
      have HO' := Lib.hid (ownsRow_upd (HO.out) hu hlz)
      have hw' := Upd.below hw hu (by simp)
      have hws' : w.heap.size + 1 ≤ w4.heap.size := by have := hu.size; omega
      clear HO HD hw hws hu
      have HO := HO'
      have HD := Lib.hid hd
      have hw := hw'
      have hws := hws'
      clear HO' hd hw' hws' HQ2
      obtain ⟨q3, hq3⟩ : ∃ q, nextV d3 6 = q := ⟨_, rfl⟩
      have nb3 := nextV_bd d3 6 (by omega)
      rw [hq3] at nb3
      have HQ3 := Lib.hid (congrArg (Value.int IntKind.i64) hq3)
      clear hq3
      go_wp2_with fail
      refine Calls.mono (callv (ref1_Next w.heap.size d3 6 (by omega) (by omega) _ (HD.out.alloc _)) HQ3.out) ?_
      rintro e w5 ⟨rfl, hu, hd⟩
      rw [HDT.out.2.2.2] at hd
      have HO' := Lib.hid (ownsRow_upd (HO.out.alloc _) hu hlz)
      have hgv : ∀ g, u5.ownBlock = some g → g ≠ w4.heap.size := fun g hg => by have := (HO.out.lt g hg).2; omega
      have vo : Own w5 w4.heap.size #[.int .i64 x, .int .i64 y, .int .i64 z] := Own.upd (Own.new rfl) hu (by simp; omega)
      have hvb : w.heap.size + 1 ≤ w4.heap.size := hws
      have hw' := Upd.below (hw.alloc (by omega) _) hu (by simp)
      have hws' : w.heap.size + 1 ≤ w5.heap.size := by have := hu.size; simp at this; omega
      clear HO HD hw hws hu
      have HO := HO'
      have HD := Lib.hid hd
      have hw := hw'
      have hws := hws'
      clear HO' hd hw' hws' HQ3
      clear hx hy hz nb0 nb1 nb2 HDT
      generalize w4.heap.size = vb at *
      have voc := vo.cell
      have vof := vo.thaw
      have voz := vo.lt
      have hz := hw.size
      by_cases c1 : q3 = 1 ∧ 1 < k
      · obtain ⟨rfl, hkk⟩ := c1
        have hkki : (1 : Int) < (k : Int) := by omega
        obtain ⟨g, cp, rfl, hgb, hcp, hcp2, cs, hro, hrc⟩ := rowO_of (by omega) HPL.out HO.out
        have hgvb : g ≠ vb := hgv g rfl
        have hcpi : (k : Int) ≤ (cp : Int) := by omega
        obtain ⟨k1, hk1⟩ : ∃ k1 : Nat, (k : Int) - 1 = k1 := ⟨k - 1, by omega⟩
        have hk1n : k1 < k := by omega
        have hk1i : (k1 : Int) < (k : Int) := by omega
        obtain ⟨k2, hk2⟩ : ∃ k2 : Nat, (k : Int) - 2 = k2 := ⟨k - 2, by omega⟩
        have hk2n : k2 < k := by omega
        have hk2i : (k2 : Int) < (k : Int) := by omega
        obtain ⟨⟨a0, a1, a2⟩, ha⟩ : ∃ X, vAt P k1 = X := ⟨_, rfl⟩
        have ba := in8_at HP8.out (by rw [HPL.out]; omega) ha
        obtain ⟨ea1, ea2, ea3⟩ := hrc k1 (by rw [HPL.out]; omega)
        rw [ha] at ea1 ea2 ea3
        have ca1 := (hro.cell _).trans ea1
        have ca2 := (hro.cell _).trans ea2
        have ca3 := (hro.cell _).trans ea3
        clear ea1 ea2 ea3 ha
        obtain ⟨⟨b0, b1, b2⟩, hb⟩ : ∃ X, vAt P k2 = X := ⟨_, rfl⟩
        have bb := in8_at HP8.out (by rw [HPL.out]; omega) hb
        obtain ⟨eb1, eb2, eb3⟩ := hrc k2 (by rw [HPL.out]; omega)
        rw [hb] at eb1 eb2 eb3
        have cb1 := (hro.cell _).trans eb1
        have cb2 := (hro.cell _).trans eb2
        have cb3 := (hro.cell _).trans eb3
        clear eb1 eb2 eb3 hb
        have hgl := hro.lt
        have da1 := fun v => later_cell (v := v) (T := []) hgl (by simp) ca1
        have da2 := fun v => later_cell (v := v) (T := []) hgl (by simp) ca2
        have da3 := fun v => later_cell (v := v) (T := []) hgl (by simp) ca3
        have db1 := fun v => later_cell (v := v) (T := []) hgl (by simp) cb1
        have db2 := fun v => later_cell (v := v) (T := []) hgl (by simp) cb2
        have db3 := fun v => later_cell (v := v) (T := []) hgl (by simp) cb3
        obtain ⟨s0, hs0⟩ : ∃ s, a0 + b0 = s := ⟨_, rfl⟩
        obtain ⟨t0, ht0⟩ : ∃ s, s0.tdiv 2 = s := ⟨_, rfl⟩
        have hsb0 : -16 ≤ s0 ∧ s0 ≤ 16 := by omega
        have htb0 : -8 ≤ t0 ∧ t0 ≤ 8 := by rw [← ht0]; exact half_bd hsb0.1 hsb0.2
        obtain ⟨s1, hs1⟩ : ∃ s, a1 + b1 = s := ⟨_, rfl⟩
        obtain ⟨t1, ht1⟩ : ∃ s, s1.tdiv 2 = s := ⟨_, rfl⟩
        have hsb1 : -16 ≤ s1 ∧ s1 ≤ 16 := by omega
        have htb1 : -8 ≤ t1 ∧ t1 ≤ 8 := by rw [← ht1]; exact half_bd hsb1.1 hsb1.2
        obtain ⟨s2, hs2⟩ : ∃ s, a2 + b2 = s := ⟨_, rfl⟩
        obtain ⟨t2, ht2⟩ : ∃ s, s2.tdiv 2 = s := ⟨_, rfl⟩
        have hsb2 : -16 ≤ s2 ∧ s2 ≤ 16 := by omega
        have htb2 : -8 ≤ t2 ∧ t2 ≤ 8 := by rw [← ht2]; exact half_bd hsb2.1 hsb2.2
        clear hrc
        go_wp2
        refine region_mem 10 2 0 [] (by kernel_rfl) (by kernel_rfl) (by rfl) [(.cells #[.int .i64 0, .int .i64 0, .int .i64 0] 31, fun p => .pointer (some ⟨p, 0, none⟩)), (.cells #[.int .i64 0, .int .i64 0, .int .i64 0] 31, fun p => .pointer (some ⟨p, 0, none⟩))] ?_
        apply Exists.intro
        refine ⟨fun v hv hne => ?_, ⟨fun u => by go_simp, fun u => by go_simp, trivial⟩, fun u u1 hu hu1 => ?_⟩
        · simp only [List.take_succ_cons, List.take_zero, List.drop_succ_cons, List.drop_zero, Nat.reduceAdd, List.append_nil]
          have dvo := fun x => (vo.later (v := v) (T := []) (by first | (simp; done) | (simp; omega)) x).cell
          repeat (go_big_quiet_step (fail))
          refine wpQuiet_nil ?_
          exact rfl
        · simp only [List.take_succ_cons, List.take_zero, List.drop_succ_cons, List.drop_zero, Nat.reduceAdd, memK]
          intro mab ma1 ma2 ma3 mbb mb1 mb2 mb3
          have hk : Keeps [] w5 u1 := Keeps.of_below (Below.hop hu hu1)
          replace hw := Below.hop (Below.hop hw hu) hu1
          have hwz := hw.size
          have huz := hu.size
          have may : w.heap.size ≤ mab := by have := w.heap.size; omega
          have mag : w5.heap.size ≤ mab := by omega
          have ma : Own u1 mab #[.int .i64 0, .int .i64 0, .int .i64 0] := ⟨_, ma3⟩
          have mac := ma.cell
          have maf := ma.thaw
          have mby : w.heap.size ≤ mbb := by have := w.heap.size; omega
          have mbg : w5.heap.size ≤ mbb := by omega
          have mb : Own u1 mbb #[.int .i64 0, .int .i64 0, .int .i64 0] := ⟨_, mb3⟩
          have mbc := mb.cell
          have mbf := mb.thaw
          have nmbma : mbb ≠ mab := fun e => mb2 (by simp [e])
          have nmamb : mab ≠ mbb := fun e => mb2 (by simp [e])
          clear ma2 ma3 mb2 mb3
          refine chain_mem (fun K hK => ?_)
          go_simp
          refine hK _ _ (((hk.new mag _).new mag _).new mag _) (fun u2 hun => ?_)
          clear hK K
          replace hk : Keeps [] w5 u2 := (((hk.new mag _).new mag _).new mag _).later hun
          replace ma : Own u2 mab #[.int .i64 a0, .int .i64 a1, .int .i64 a2] := (((ma.set 0 _).set 1 _).set 2 _).below hun
          replace mb := (((mb.far nmbma _).far nmbma _).far nmbma _).below hun
          replace hw := Below.hop (((hw.setCell may _).setCell may _).setCell may _) hun
          clear hun
          replace mac := ma.cell
          replace maf := ma.thaw
          replace mbc := mb.cell
          replace mbf := mb.thaw
          refine chain_mem (fun K hK => ?_)
          go_simp
          refine hK _ _ (((hk.new mbg _).new mbg _).new mbg _) (fun u3 hun => ?_)
          clear hK K
          replace hk : Keeps [] w5 u3 := (((hk.new mbg _).new mbg _).new mbg _).later hun
          replace mb : Own u3 mbb #[.int .i64 b0, .int .i64 b1, .int .i64 b2] := (((mb.set 0 _).set 1 _).set 2 _).below hun
          replace ma := (((ma.far nmamb _).far nmamb _).far nmamb _).below hun
          replace hw := Below.hop (((hw.setCell mby _).setCell mby _).setCell mby _) hun
          clear hun
          replace mac := ma.cell
          replace maf := ma.thaw
          replace mbc := mb.cell
          replace mbf := mb.thaw
          replace vo : Own u3 (vb) #[.int .i64 x, .int .i64 y, .int .i64 z] := vo.keeps hk (by simp)
          refine chain_nil ?_
          (try simp only [Act.put, List.setIfInBounds_toArray, List.set_cons_zero, List.set_cons_succ])
          have HO' := Lib.hid (row_keeps HO.out hk (by simp))
          have HD' := Lib.hid (HD.out.keeps hk (by simp))
          have hws' : w.heap.size + 1 ≤ u3.heap.size := by have := hk.1; omega
          clear HO HD hws hro hk hu hu1 hwz huz ca1 ca2 ca3 cb1 cb2 cb3 da1 da2 da3 db1 db2 db3 hgl
          have HO := HO'
          have HD := HD'
          have hws := hws'
          clear HO' HD' hws'
          replace hz := hw.size
          replace voc := vo.cell
          replace vof := vo.thaw
          replace voz := vo.lt
          replace mac := ma.cell
          replace maf := ma.thaw
          replace maz := ma.lt
          replace mbc := mb.cell
          replace mbf := mb.thaw
          replace mbz := mb.lt
          go_wp2_with (at_builtin; refine wpList_append_lies _ rfl _ _ _ (by rfl) (w.heap.size + 1) 31 i0 (.agg #[.int .i64 0, .int .i64 0, .int .i64 0]) 3 24 Try.underlying24 hi hz0 hz1 hz2 rfl (by omega) _ k (P.flatMap encV) (by rfl) ?c0 ⟨u3.heap.size, 0, none⟩ 1 1 [.int .i64 t0, .int .i64 t1, .int .i64 t2] (by rfl) rfl ?c1 ?c2 (by omega) ?c3 ?c4 ?c5 (u3.heap.size + 1) (by simp) ?_)
          case c0 => exact row_upd2 (T := [vb]) HO.out (by repeat' (first | exact Upd.refl _ _ | refine Upd.alloc ?_ _ | refine Upd.set ?_ (by simp) _)) (fun g hg => by simp; exact hgv g hg)
          case c1 => exact World.news_of_block (new_at (by simp))
          case c2 => intro u hu; simp at hu; rcases hu with rfl | rfl | rfl <;> rfl
          case c3 => unfold maxLen; omega
          case c4 => omega
          case c5 => simp; omega
          intro g9 c9 w9 ho9 hg9 hat9 hlt9
          have ho10 : w9.ownsRow (w.heap.size + 1) 31 3 (.slice (some ⟨g9, 0, none⟩) (k + 1) c9) (k + 1) ((P ++ [(⟨t0, t1, t2⟩ : V3)]).flatMap encV) := by rw [flat_snoc]; exact ho9
          have HO10 := Lib.hid ho10
          have hrb : ∀ b, _ = some b → w.heap.size + 1 ≤ b := fun b hb => ownBlock_ge HO.out hb
          have HD10 := Lib.hid ((HD.out.upd (T := [vb]) (by repeat' (first | exact Upd.refl _ _ | refine Upd.alloc ?_ _ | refine Upd.set ?_ (by simp) _)) (by simp; omega)).grown hg9 (fun b hb => by have := hrb b hb; omega))
          have HB10 := Lib.hid (Below.grown (Upd.below (T := [vb]) hw (by repeat' (first | exact Upd.refl _ _ | refine Upd.alloc ?_ _ | refine Upd.set ?_ (by simp) _)) (by simp; omega)) hg9 (by simp; omega) (fun b hb => by have := hrb b hb; omega))
          have s9 : w.heap.size + 1 ≤ w9.heap.size := by have := hg9.size; simp at this; omega
          clear ho9 ho10 hg9 hat9 hlt9 hrb
          go_wp2
          go_roundw
          case rel => exact ⟨k + 1, P ++ [⟨t0, t1, t2⟩], _, by omega, by go_num, HB10.out, s9, HD10.out, HO10.out, by simp [HPL.out], in8_snoc HP8.out ⟨htb0, htb1, htb2⟩⟩
          case measure => simp [intOf]; omega
      · by_cases c2 : q3 = 2 ∧ 0 < k
        · obtain ⟨rfl, hkk⟩ := c2
          have hkki : (0 : Int) < (k : Int) := by omega
          obtain ⟨g, cp, rfl, hgb, hcp, hcp2, cs, hro, hrc⟩ := rowO_of (by omega) HPL.out HO.out
          have hgvb : g ≠ vb := hgv g rfl
          have hcpi : (k : Int) ≤ (cp : Int) := by omega
          obtain ⟨k1, hk1⟩ : ∃ k1 : Nat, (k : Int) - 1 = k1 := ⟨k - 1, by omega⟩
          have hk1n : k1 < k := by omega
          have hk1i : (k1 : Int) < (k : Int) := by omega
          obtain ⟨⟨a0, a1, a2⟩, ha⟩ : ∃ X, vAt P k1 = X := ⟨_, rfl⟩
          have ba := in8_at HP8.out (by rw [HPL.out]; omega) ha
          obtain ⟨ea1, ea2, ea3⟩ := hrc k1 (by rw [HPL.out]; omega)
          rw [ha] at ea1 ea2 ea3
          have ca1 := (hro.cell _).trans ea1
          have ca2 := (hro.cell _).trans ea2
          have ca3 := (hro.cell _).trans ea3
          clear ea1 ea2 ea3 ha
          clear hrc c1
          go_wp2_with (at_builtin; refine wpList_append_lies _ rfl _ _ _ (by rfl) (w.heap.size + 1) 31 i0 (.agg #[.int .i64 0, .int .i64 0, .int .i64 0]) 3 24 Try.underlying24 hi hz0 hz1 hz2 rfl (by omega) _ k (P.flatMap encV) (by rfl) ?c0 ⟨w5.heap.size, 0, none⟩ 1 1 [.int .i64 a0, .int .i64 a1, .int .i64 a2] (by rfl) rfl ?c1 ?c2 (by omega) ?c3 ?c4 ?c5 (w5.heap.size + 1) (by simp) ?_)
          case c0 => exact row_upd2 (T := [vb]) HO.out (by repeat' (first | exact Upd.refl _ _ | refine Upd.alloc ?_ _ | refine Upd.set ?_ (by simp) _)) (fun g hg => by simp; exact hgv g hg)
          case c1 => exact World.news_of_block (new_at (by simp))
          case c2 => intro u hu; simp at hu; rcases hu with rfl | rfl | rfl <;> rfl
          case c3 => unfold maxLen; omega
          case c4 => omega
          case c5 => simp; omega
          intro g9 c9 w9 ho9 hg9 hat9 hlt9
          have ho10 : w9.ownsRow (w.heap.size + 1) 31 3 (.slice (some ⟨g9, 0, none⟩) (k + 1) c9) (k + 1) ((P ++ [(⟨a0, a1, a2⟩ : V3)]).flatMap encV) := by rw [flat_snoc]; exact ho9
          have HO10 := Lib.hid ho10
          have hrb : ∀ b, _ = some b → w.heap.size + 1 ≤ b := fun b hb => ownBlock_ge HO.out hb
          have HD10 := Lib.hid ((HD.out.upd (T := [vb]) (by repeat' (first | exact Upd.refl _ _ | refine Upd.alloc ?_ _ | refine Upd.set ?_ (by simp) _)) (by simp; omega)).grown hg9 (fun b hb => by have := hrb b hb; omega))
          have HB10 := Lib.hid (Below.grown (Upd.below (T := [vb]) hw (by repeat' (first | exact Upd.refl _ _ | refine Upd.alloc ?_ _ | refine Upd.set ?_ (by simp) _)) (by simp; omega)) hg9 (by simp; omega) (fun b hb => by have := hrb b hb; omega))
          have s9 : w.heap.size + 1 ≤ w9.heap.size := by have := hg9.size; simp at this; omega
          clear ho9 ho10 hg9 hat9 hlt9 hrb
          go_wp2
          go_roundw
          case rel => exact ⟨k + 1, P ++ [⟨a0, a1, a2⟩], _, by omega, by go_num, HB10.out, s9, HD10.out, HO10.out, by simp [HPL.out], in8_snoc HP8.out ba⟩
          case measure => simp [intOf]; omega
        · by_cases c3 : q3 = 3 ∧ 2 < k
          · obtain ⟨rfl, hkk⟩ := c3
            have hkki : (2 : Int) < (k : Int) := by omega
            obtain ⟨g, cp, rfl, hgb, hcp, hcp2, cs, hro, hrc⟩ := rowO_of (by omega) HPL.out HO.out
            have hgvb : g ≠ vb := hgv g rfl
            have hcpi : (k : Int) ≤ (cp : Int) := by omega
            obtain ⟨k1, hk1⟩ : ∃ k1 : Nat, (k : Int) - 1 = k1 := ⟨k - 1, by omega⟩
            have hk1n : k1 < k := by omega
            have hk1i : (k1 : Int) < (k : Int) := by omega
            obtain ⟨⟨a0, a1, a2⟩, ha⟩ : ∃ X, vAt P k1 = X := ⟨_, rfl⟩
            have ba := in8_at HP8.out (by rw [HPL.out]; omega) ha
            obtain ⟨ea1, ea2, ea3⟩ := hrc k1 (by rw [HPL.out]; omega)
            rw [ha] at ea1 ea2 ea3
            have ca1 := (hro.cell _).trans ea1
            have ca2 := (hro.cell _).trans ea2
            have ca3 := (hro.cell _).trans ea3
            clear ea1 ea2 ea3 ha
            clear hrc c1 c2
            go_wp2_with (at_builtin; refine wpList_append_lies _ rfl _ _ _ (by rfl) (w.heap.size + 1) 31 i0 (.agg #[.int .i64 0, .int .i64 0, .int .i64 0]) 3 24 Try.underlying24 hi hz0 hz1 hz2 rfl (by omega) _ k (P.flatMap encV) (by rfl) ?c0 ⟨w5.heap.size, 0, none⟩ 1 1 [.int .i64 x, .int .i64 y, .int .i64 a2] (by rfl) rfl ?c1 ?c2 (by omega) ?c3 ?c4 ?c5 (w5.heap.size + 1) (by simp) ?_)
            case c0 => exact row_upd2 (T := [vb]) HO.out (by repeat' (first | exact Upd.refl _ _ | refine Upd.alloc ?_ _ | refine Upd.set ?_ (by simp) _)) (fun g hg => by simp; exact hgv g hg)
            case c1 => exact World.news_of_block (new_at (by simp))
            case c2 => intro u hu; simp at hu; rcases hu with rfl | rfl | rfl <;> rfl
            case c3 => unfold maxLen; omega
            case c4 => omega
            case c5 => simp; omega
            intro g9 c9 w9 ho9 hg9 hat9 hlt9
            have ho10 : w9.ownsRow (w.heap.size + 1) 31 3 (.slice (some ⟨g9, 0, none⟩) (k + 1) c9) (k + 1) ((P ++ [(⟨x, y, a2⟩ : V3)]).flatMap encV) := by rw [flat_snoc]; exact ho9
            have HO10 := Lib.hid ho10
            have hrb : ∀ b, _ = some b → w.heap.size + 1 ≤ b := fun b hb => ownBlock_ge HO.out hb
            have HD10 := Lib.hid ((HD.out.upd (T := [vb]) (by repeat' (first | exact Upd.refl _ _ | refine Upd.alloc ?_ _ | refine Upd.set ?_ (by simp) _)) (by simp; omega)).grown hg9 (fun b hb => by have := hrb b hb; omega))
            have HB10 := Lib.hid (Below.grown (Upd.below (T := [vb]) hw (by repeat' (first | exact Upd.refl _ _ | refine Upd.alloc ?_ _ | refine Upd.set ?_ (by simp) _)) (by simp; omega)) hg9 (by simp; omega) (fun b hb => by have := hrb b hb; omega))
            have s9 : w.heap.size + 1 ≤ w9.heap.size := by have := hg9.size; simp at this; omega
            clear ho9 ho10 hg9 hat9 hlt9 hrb
            go_wp2
            go_roundw
            case rel => exact ⟨k + 1, P ++ [⟨x, y, a2⟩], _, by omega, by go_num, HB10.out, s9, HD10.out, HO10.out, by simp [HPL.out], in8_snoc HP8.out ⟨hbx, hby, ba.2.2⟩⟩
            case measure => simp [intOf]; omega
          · have c4 : (q3 = 1 ∧ (k : Int) ≤ 1) ∨ (q3 = 2 ∧ (k : Int) ≤ 0) ∨ (q3 = 3 ∧ (k : Int) ≤ 2) ∨ (¬ q3 = 1 ∧ ¬ q3 = 2 ∧ ¬ q3 = 3) := by omega
            clear c1 c2 c3
            rcases c4 with ⟨rfl, c4⟩ | ⟨rfl, c4⟩ | ⟨rfl, c4⟩ | ⟨c4, c5, c6⟩
            · skip
              go_wp2_with (at_builtin; refine wpList_append_lies _ rfl _ _ _ (by rfl) (w.heap.size + 1) 31 i0 (.agg #[.int .i64 0, .int .i64 0, .int .i64 0]) 3 24 Try.underlying24 hi hz0 hz1 hz2 rfl (by omega) _ k (P.flatMap encV) (by rfl) ?c0 ⟨w5.heap.size, 0, none⟩ 1 1 [.int .i64 x, .int .i64 y, .int .i64 z] (by rfl) rfl ?c1 ?c2 (by omega) ?c3 ?c4 ?c5 (w5.heap.size + 1) (by simp) ?_)
              case c0 => exact row_upd2 (T := [vb]) HO.out (by repeat' (first | exact Upd.refl _ _ | refine Upd.alloc ?_ _ | refine Upd.set ?_ (by simp) _)) (fun g hg => by simp; exact hgv g hg)
              case c1 => exact World.news_of_block (new_at (by simp))
              case c2 => intro u hu; simp at hu; rcases hu with rfl | rfl | rfl <;> rfl
              case c3 => unfold maxLen; omega
              case c4 => omega
              case c5 => simp; omega
              intro g9 c9 w9 ho9 hg9 hat9 hlt9
              have ho10 : w9.ownsRow (w.heap.size + 1) 31 3 (.slice (some ⟨g9, 0, none⟩) (k + 1) c9) (k + 1) ((P ++ [(⟨x, y, z⟩ : V3)]).flatMap encV) := by rw [flat_snoc]; exact ho9
              have HO10 := Lib.hid ho10
              have hrb : ∀ b, _ = some b → w.heap.size + 1 ≤ b := fun b hb => ownBlock_ge HO.out hb
              have HD10 := Lib.hid ((HD.out.upd (T := [vb]) (by repeat' (first | exact Upd.refl _ _ | refine Upd.alloc ?_ _ | refine Upd.set ?_ (by simp) _)) (by simp; omega)).grown hg9 (fun b hb => by have := hrb b hb; omega))
              have HB10 := Lib.hid (Below.grown (Upd.below (T := [vb]) hw (by repeat' (first | exact Upd.refl _ _ | refine Upd.alloc ?_ _ | refine Upd.set ?_ (by simp) _)) (by simp; omega)) hg9 (by simp; omega) (fun b hb => by have := hrb b hb; omega))
              have s9 : w.heap.size + 1 ≤ w9.heap.size := by have := hg9.size; simp at this; omega
              clear ho9 ho10 hg9 hat9 hlt9 hrb
              go_wp2
              go_roundw
              case rel => exact ⟨k + 1, P ++ [⟨x, y, z⟩], _, by omega, by go_num, HB10.out, s9, HD10.out, HO10.out, by simp [HPL.out], in8_snoc HP8.out ⟨hbx, hby, hbz⟩⟩
              case measure => simp [intOf]; omega
            · skip
              go_wp2_with (at_builtin; refine wpList_append_lies _ rfl _ _ _ (by rfl) (w.heap.size + 1) 31 i0 (.agg #[.int .i64 0, .int .i64 0, .int .i64 0]) 3 24 Try.underlying24 hi hz0 hz1 hz2 rfl (by omega) _ k (P.flatMap encV) (by rfl) ?c0 ⟨w5.heap.size, 0, none⟩ 1 1 [.int .i64 x, .int .i64 y, .int .i64 z] (by rfl) rfl ?c1 ?c2 (by omega) ?c3 ?c4 ?c5 (w5.heap.size + 1) (by simp) ?_)
              case c0 => exact row_upd2 (T := [vb]) HO.out (by repeat' (first | exact Upd.refl _ _ | refine Upd.alloc ?_ _ | refine Upd.set ?_ (by simp) _)) (fun g hg => by simp; exact hgv g hg)
              case c1 => exact World.news_of_block (new_at (by simp))
              case c2 => intro u hu; simp at hu; rcases hu with rfl | rfl | rfl <;> rfl
              case c3 => unfold maxLen; omega
              case c4 => omega
              case c5 => simp; omega
              intro g9 c9 w9 ho9 hg9 hat9 hlt9
              have ho10 : w9.ownsRow (w.heap.size + 1) 31 3 (.slice (some ⟨g9, 0, none⟩) (k + 1) c9) (k + 1) ((P ++ [(⟨x, y, z⟩ : V3)]).flatMap encV) := by rw [flat_snoc]; exact ho9
              have HO10 := Lib.hid ho10
              have hrb : ∀ b, _ = some b → w.heap.size + 1 ≤ b := fun b hb => ownBlock_ge HO.out hb
              have HD10 := Lib.hid ((HD.out.upd (T := [vb]) (by repeat' (first | exact Upd.refl _ _ | refine Upd.alloc ?_ _ | refine Upd.set ?_ (by simp) _)) (by simp; omega)).grown hg9 (fun b hb => by have := hrb b hb; omega))
              have HB10 := Lib.hid (Below.grown (Upd.below (T := [vb]) hw (by repeat' (first | exact Upd.refl _ _ | refine Upd.alloc ?_ _ | refine Upd.set ?_ (by simp) _)) (by simp; omega)) hg9 (by simp; omega) (fun b hb => by have := hrb b hb; omega))
              have s9 : w.heap.size + 1 ≤ w9.heap.size := by have := hg9.size; simp at this; omega
              clear ho9 ho10 hg9 hat9 hlt9 hrb
              go_wp2
              go_roundw
              case rel => exact ⟨k + 1, P ++ [⟨x, y, z⟩], _, by omega, by go_num, HB10.out, s9, HD10.out, HO10.out, by simp [HPL.out], in8_snoc HP8.out ⟨hbx, hby, hbz⟩⟩
              case measure => simp [intOf]; omega
            · skip
              go_wp2_with (at_builtin; refine wpList_append_lies _ rfl _ _ _ (by rfl) (w.heap.size + 1) 31 i0 (.agg #[.int .i64 0, .int .i64 0, .int .i64 0]) 3 24 Try.underlying24 hi hz0 hz1 hz2 rfl (by omega) _ k (P.flatMap encV) (by rfl) ?c0 ⟨w5.heap.size, 0, none⟩ 1 1 [.int .i64 x, .int .i64 y, .int .i64 z] (by rfl) rfl ?c1 ?c2 (by omega) ?c3 ?c4 ?c5 (w5.heap.size + 1) (by simp) ?_)
              case c0 => exact row_upd2 (T := [vb]) HO.out (by repeat' (first | exact Upd.refl _ _ | refine Upd.alloc ?_ _ | refine Upd.set ?_ (by simp) _)) (fun g hg => by simp; exact hgv g hg)
              case c1 => exact World.news_of_block (new_at (by simp))
              case c2 => intro u hu; simp at hu; rcases hu with rfl | rfl | rfl <;> rfl
              case c3 => unfold maxLen; omega
              case c4 => omega
              case c5 => simp; omega
              intro g9 c9 w9 ho9 hg9 hat9 hlt9
              have ho10 : w9.ownsRow (w.heap.size + 1) 31 3 (.slice (some ⟨g9, 0, none⟩) (k + 1) c9) (k + 1) ((P ++ [(⟨x, y, z⟩ : V3)]).flatMap encV) := by rw [flat_snoc]; exact ho9
              have HO10 := Lib.hid ho10
              have hrb : ∀ b, _ = some b → w.heap.size + 1 ≤ b := fun b hb => ownBlock_ge HO.out hb
              have HD10 := Lib.hid ((HD.out.upd (T := [vb]) (by repeat' (first | exact Upd.refl _ _ | refine Upd.alloc ?_ _ | refine Upd.set ?_ (by simp) _)) (by simp; omega)).grown hg9 (fun b hb => by have := hrb b hb; omega))
              have HB10 := Lib.hid (Below.grown (Upd.below (T := [vb]) hw (by repeat' (first | exact Upd.refl _ _ | refine Upd.alloc ?_ _ | refine Upd.set ?_ (by simp) _)) (by simp; omega)) hg9 (by simp; omega) (fun b hb => by have := hrb b hb; omega))
              have s9 : w.heap.size + 1 ≤ w9.heap.size := by have := hg9.size; simp at this; omega
              clear ho9 ho10 hg9 hat9 hlt9 hrb
              go_wp2
              go_roundw
              case rel => exact ⟨k + 1, P ++ [⟨x, y, z⟩], _, by omega, by go_num, HB10.out, s9, HD10.out, HO10.out, by simp [HPL.out], in8_snoc HP8.out ⟨hbx, hby, hbz⟩⟩
              case measure => simp [intOf]; omega
            · skip
              go_wp2_with (at_builtin; refine wpList_append_lies _ rfl _ _ _ (by rfl) (w.heap.size + 1) 31 i0 (.agg #[.int .i64 0, .int .i64 0, .int .i64 0]) 3 24 Try.underlying24 hi hz0 hz1 hz2 rfl (by omega) _ k (P.flatMap encV) (by rfl) ?c0 ⟨w5.heap.size, 0, none⟩ 1 1 [.int .i64 x, .int .i64 y, .int .i64 z] (by rfl) rfl ?c1 ?c2 (by omega) ?c3 ?c4 ?c5 (w5.heap.size + 1) (by simp) ?_)
              case c0 => exact row_upd2 (T := [vb]) HO.out (by repeat' (first | exact Upd.refl _ _ | refine Upd.alloc ?_ _ | refine Upd.set ?_ (by simp) _)) (fun g hg => by simp; exact hgv g hg)
              case c1 => exact World.news_of_block (new_at (by simp))
              case c2 => intro u hu; simp at hu; rcases hu with rfl | rfl | rfl <;> rfl
              case c3 => unfold maxLen; omega
              case c4 => omega
              case c5 => simp; omega
              intro g9 c9 w9 ho9 hg9 hat9 hlt9
              have ho10 : w9.ownsRow (w.heap.size + 1) 31 3 (.slice (some ⟨g9, 0, none⟩) (k + 1) c9) (k + 1) ((P ++ [(⟨x, y, z⟩ : V3)]).flatMap encV) := by rw [flat_snoc]; exact ho9
              have HO10 := Lib.hid ho10
              have hrb : ∀ b, _ = some b → w.heap.size + 1 ≤ b := fun b hb => ownBlock_ge HO.out hb
              have HD10 := Lib.hid ((HD.out.upd (T := [vb]) (by repeat' (first | exact Upd.refl _ _ | refine Upd.alloc ?_ _ | refine Upd.set ?_ (by simp) _)) (by simp; omega)).grown hg9 (fun b hb => by have := hrb b hb; omega))
              have HB10 := Lib.hid (Below.grown (Upd.below (T := [vb]) hw (by repeat' (first | exact Upd.refl _ _ | refine Upd.alloc ?_ _ | refine Upd.set ?_ (by simp) _)) (by simp; omega)) hg9 (by simp; omega) (fun b hb => by have := hrb b hb; omega))
              have s9 : w.heap.size + 1 ≤ w9.heap.size := by have := hg9.size; simp at this; omega
              clear ho9 ho10 hg9 hat9 hlt9 hrb
              go_wp2
              go_roundw
              case rel => exact ⟨k + 1, P ++ [⟨x, y, z⟩], _, by omega, by go_num, HB10.out, s9, HD10.out, HO10.out, by simp [HPL.out], in8_snoc HP8.out ⟨hbx, hby, hbz⟩⟩
              case measure => simp [intOf]; omega
    · obtain rfl : k = m := by omega
      obtain ⟨g, cp, rfl, hgb, hcp, hcp2, hro⟩ := rowO_of (by omega) HPL.out HO.out
      have hvec := hro.vecs (Nat.le_refl _) (by rw [HPL.out]; omega)
      rw [List.take_length, HPL.out] at hvec
      have hin : ∀ v ∈ P, In11 v := fun v hv => (HP8.out v hv).in11
      obtain ⟨s, hs⟩ : ∃ s, flatB P = s := ⟨_, rfl⟩
      have HS := Lib.hid (congrArg Value.bool hs)
      have HSI := Lib.hid hs
      have HIN := Lib.hid hin
      have HRO := Lib.hid hro
      have HVEC := Lib.hid hvec
      clear hs hin hro hvec HO HD
      go_wp2_with fail
      refine Calls.mono (callv (ref8_flat cp HVEC.out (in11_all HIN.out)) HS.out) ?_
      rintro e w2 ⟨rfl, hbx⟩
      have HRO2 := Lib.hid (HRO.out.below hbx)
      have HVEC2 := Lib.hid (HVEC.out.below hbx)
      replace hw := Below.hop hw hbx
      have hws2 : w.heap.size + 1 ≤ w2.heap.size := Nat.le_trans hws hbx.size
      clear hbx HRO HVEC HS hws
      cases s
      · go_wp2
        go_ret
        refine ⟨⟨g, cp, P, by rw [HPL.out]; rfl, by rw [HPL.out]; omega, by rw [HPL.out]; omega, by rw [HPL.out]; omega, hcp2, by rw [HPL.out]; exact HVEC2.out, by omega, HIN.out, check_of (by rw [HPL.out]; omega) HIN.out HSI.out⟩, hw⟩
      · obtain ⟨⟨x0, y0, z0⟩, P1, P2, P3, r, hPP⟩ : ∃ p0 p1 p2 p3 r, P = p0 :: p1 :: p2 :: p3 :: r := by
          have hl := HPL.out
          rcases P with _ | ⟨p0, _ | ⟨p1, _ | ⟨p2, _ | ⟨p3, r⟩⟩⟩⟩
          · simp at hl; omega
          · simp at hl; omega
          · simp at hl; omega
          · simp at hl; omega
          · exact ⟨p0, p1, p2, p3, r, rfl⟩
        have h08 := HP8.out ⟨x0, y0, z0⟩ (by rw [hPP]; simp)
        have hX : vAt P 0 = ⟨x0, y0, z0⟩ := by rw [hPP]; rfl
        have hr11 : ∀ u ∈ r, In11 u := fun u hu => HIN.out u (by rw [hPP]; simp [hu])
        obtain ⟨hbx, hby, hbz⟩ := h08
        simp only [] at hbx hby hbz
        have HPP := Lib.hid hPP
        have HR11 := Lib.hid hr11
        obtain ⟨cs, hro, hrc⟩ := HRO2.out
        obtain ⟨e1, e2, e3⟩ := hrc 0 (by rw [HPL.out]; omega)
        rw [hX] at e1 e2 e3
        simp only [Nat.zero_mul, Nat.zero_add] at e1 e2 e3
        have d1 := (hro.cell _).trans e1
        have d2 := (hro.cell _).trans e2
        have d3 := (hro.cell _).trans e3
        have f0 := hro.thaw
        have g0 := hro.cell
        have hgl := hro.lt
        have hsz : ∀ i : Nat, i < 12 → ∃ v, cs[i]? = some v := fun i hi => by
          obtain ⟨u1, u2, u3⟩ := hrc (i / 3) (by rw [HPL.out]; omega)
          rcases (show i = i / 3 * 3 ∨ i = i / 3 * 3 + 1 ∨ i = i / 3 * 3 + 2 by omega) with h | h | h
          · exact ⟨_, by rw [h]; exact u1⟩
          · exact ⟨_, by rw [h]; exact u2⟩
          · exact ⟨_, by rw [h]; exact u3⟩
        obtain ⟨o3, ho3⟩ := hsz 3 (by omega)
        have j3 := (hro.cell 3).trans ho3
        have fz3 := hro.thaw 3
        clear ho3
        obtain ⟨o4, ho4⟩ := hsz 4 (by omega)
        have j4 := (hro.cell 4).trans ho4
        have fz4 := hro.thaw 4
        clear ho4
        obtain ⟨o5, ho5⟩ := hsz 5 (by omega)
        have j5 := (hro.cell 5).trans ho5
        have fz5 := hro.thaw 5
        clear ho5
        obtain ⟨o6, ho6⟩ := hsz 6 (by omega)
        have j6 := (hro.cell 6).trans ho6
        have fz6 := hro.thaw 6
        clear ho6
        obtain ⟨o7, ho7⟩ := hsz 7 (by omega)
        have j7 := (hro.cell 7).trans ho7
        have fz7 := hro.thaw 7
        clear ho7
        obtain ⟨o8, ho8⟩ := hsz 8 (by omega)
        have j8 := (hro.cell 8).trans ho8
        have fz8 := hro.thaw 8
        clear ho8
        obtain ⟨o9, ho9⟩ := hsz 9 (by omega)
        have j9 := (hro.cell 9).trans ho9
        have fz9 := hro.thaw 9
        clear ho9
        obtain ⟨o10, ho10⟩ := hsz 10 (by omega)
        have j10 := (hro.cell 10).trans ho10
        have fz10 := hro.thaw 10
        clear ho10
        obtain ⟨o11, ho11⟩ := hsz 11 (by omega)
        have j11 := (hro.cell 11).trans ho11
        have fz11 := hro.thaw 11
        clear ho11
        clear hsz e1 e2 e3 hrc hPP hX hr11 g0 f0
        have hkc : (4 : Int) ≤ (k : Int) := by omega
        go_wp2
        go_ret
        have hlen : (fix4 ⟨x0, y0, z0⟩ ++ r).length = k := by
          have q := HPL.out
          rw [HPP.out] at q
          simp [fix4] at q ⊢
          omega
        have hset : ((P.set 1 ⟨x0 - 3, y0, z0⟩).set 2 ⟨x0, y0 - 2, z0⟩).set 3 ⟨x0, y0, z0 - 1⟩ = fix4 ⟨x0, y0, z0⟩ ++ r := by rw [HPP.out]; rfl
        have h8 : In8 ⟨x0, y0, z0⟩ := ⟨hbx, hby, hbz⟩
        have hro1 := ((HRO2.out.set (k := 1) (by rw [HPL.out]; omega) (x0 - 3) y0 z0).set (k := 2) (by simp [HPL.out]; omega) x0 (y0 - 2) z0).set (k := 3) (by simp [HPL.out]; omega) x0 y0 (z0 - 1)
        rw [hset] at hro1
        have hro2 := hro1.below ((Below.refl _ _).alloc (Nat.le_refl _) (.cells #[.int .i64 x0, .int .i64 y0, .int .i64 z0] 31))
        have hv2 := hro2.vecs (Nat.le_refl _) (by rw [hlen]; omega)
        rw [List.take_length] at hv2
        have hall : ∀ v ∈ fix4 ⟨x0, y0, z0⟩ ++ r, In11 v := fun u hu => by
          rcases List.mem_append.1 hu with h | h
          · simp only [fix4, List.mem_cons, List.not_mem_nil, or_false] at h
            unfold In11
            rcases h with rfl | rfl | rfl | rfl <;> first | omega | (simp only []; omega) | (simp; omega)
          · exact HR11.out u h
        refine ⟨⟨g, cp, fix4 ⟨x0, y0, z0⟩ ++ r, by rw [hlen]; rfl, by rw [hlen]; omega, by rw [hlen]; omega, by rw [hlen]; omega, hcp2, hv2, by omega, hall, check_of (by rw [hlen]; omega) hall (fix_flat _ _ h8 HR11.out)⟩, ?_⟩
        exact ((((((((((hw.setCell (by simp; omega) _).setCell (by simp; omega) _).setCell (by simp; omega) _).setCell (by simp; omega) _).setCell (by simp; omega) _).setCell (by simp; omega) _).setCell (by simp; omega) _).setCell (by simp; omega) _).setCell (by simp; omega) _).alloc (by simp; omega) _)
end Go.Proofs.Ytccnlnkgoaelpaa
