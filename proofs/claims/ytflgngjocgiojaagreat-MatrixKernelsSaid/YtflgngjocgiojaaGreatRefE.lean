/- The reference's num: Of, Cmp, Right. -/
import Derived.Test.YtflgngjocgiojaaGreatMatB
import Derived.Deep.AppendLies
import Derived.Test.YtflgngjocgiojaaGreatRatB
import Derived.Test.YtflgngjocgiojaaGreatRatH
namespace Go.Proofs.YtflgngjocgiojaaGreat
open Go.RowKit

def zAt (Z : List Int) (i : Nat) : Int := Z.getD i 0
/-- A slice reads as the list Z of right numbers; all blocks in which they lie are X. -/
structure NumsX (X : Nat → Prop) (w : World) (A : Option Addr) (n : Nat) (Z : List Int) : Prop where
 len : Z.length = n
 row : 0 < n → ∃ b off, A = some ⟨b, off, none⟩ ∧ b < w.heap.size ∧ X b ∧ ∀ i, i < n → ∃ s B m c, w.cell? ⟨b, off + i * 2, none⟩ = some (.bool s) ∧ w.cell? ⟨b, off + i * 2 + 1, none⟩ = some (.slice B m c) ∧
  (∀ b off, B = some ⟨b, off, none⟩ → b < w.heap.size ∧ X b) ∧ NumAt w (.agg #[.bool s, .slice B m c]) (zAt Z i)
theorem NumsX.nil (X : Nat → Prop) (w : World) (A : Option Addr) : NumsX X w A 0 [] := ⟨rfl, fun h => by omega⟩
theorem NumAt.same {w w' : World} {s : Bool} {B : Option Addr} {m c : Nat} {z : Int} (h : NumAt w (.agg #[.bool s, .slice B m c]) z) (hs : w.heap.size ≤ w'.heap.size) (hk : ∀ b off, B = some ⟨b, off, none⟩ → w'.heap[b]? = w.heap[b]?) : NumAt w' (.agg #[.bool s, .slice B m c]) z := by
 obtain ⟨A, n, c', e, h1, h2, h3, h4⟩ := h
 injection e with e
 simp at e
 obtain ⟨rfl, rfl, rfl, rfl⟩ := e
 refine ⟨_, _, _, rfl, h1, h2, h3, h4.len, h4.dg, fun hp => ?_⟩
 obtain ⟨b, off, rfl, hb, hc⟩ := h4.row hp
 exact ⟨b, off, rfl, Nat.lt_of_lt_of_le hb hs, fun i hi => (World.cell?_of_block (w := w) (a := ⟨b, off + i, none⟩) (hk b off rfl)).trans (hc i hi)⟩
/-- What lies in blocks that stay as they are. -/
theorem NumsX.move {X Y : Nat → Prop} {w w' : World} {A : Option Addr} {n : Nat} {Z : List Int} (h : NumsX X w A n Z) (hs : w.heap.size ≤ w'.heap.size) (hk : ∀ b, b < w.heap.size → X b → w'.heap[b]? = w.heap[b]? ∧ Y b) : NumsX Y w' A n Z :=
 ⟨h.len, fun h0 => by
  obtain ⟨b, off, e, hlt, hX, hc⟩ := h.row h0
  refine ⟨b, off, e, Nat.lt_of_lt_of_le hlt hs, (hk b hlt hX).2, fun i hi => ?_⟩
  obtain ⟨s, B, m, c, h1, h2, h3, h4⟩ := hc i hi
  have hB := (hk b hlt hX).1
  refine ⟨s, B, m, c, (World.cell?_of_block (w := w) (a := ⟨b, off + i * 2, none⟩) hB).trans h1, (World.cell?_of_block (w := w) (a := ⟨b, off + i * 2 + 1, none⟩) hB).trans h2, fun b' off' e' => ?_, h4.same hs fun b' off' e' => ?_⟩
  ·obtain ⟨h5, h6⟩ := h3 b' off' e'
   exact ⟨Nat.lt_of_lt_of_le h5 hs, (hk b' h5 h6).2⟩
  ·obtain ⟨h5, h6⟩ := h3 b' off' e'
   exact (hk b' h5 h6).1⟩
theorem NumsX.below {X : Nat → Prop} {w w' : World} {A : Option Addr} {n : Nat} {Z : List Int} (h : NumsX X w A n Z) (hb : Below w.heap.size w w') : NumsX X w' A n Z :=
 h.move hb.size fun b hlt hX => ⟨hb.block b hlt, hX⟩
theorem NumsX.imp {X Y : Nat → Prop} {w : World} {A : Option Addr} {n : Nat} {Z : List Int} (h : NumsX X w A n Z) (hk : ∀ b, b < w.heap.size → X b → Y b) : NumsX Y w A n Z :=
 h.move (Nat.le_refl _) fun b hlt hX => ⟨rfl, hk b hlt hX⟩
theorem NumsX.keeps {X : Nat → Prop} {w u : World} {A : Option Addr} {n : Nat} {Z : List Int} (h : NumsX X w A n Z) (hk : Keeps [] w u) : NumsX X u A n Z :=
 h.move hk.1 fun b hlt hX => ⟨hk.2 b hlt (by simp), hX⟩
/-- A slice of digits whose block is X. -/
def OutB (X : Nat → Prop) (w : World) (v : Value) : Prop := ∃ A n c, v = .slice A n c ∧ ∀ b off, A = some ⟨b, off, none⟩ → b < w.heap.size ∧ X b
/-- Cells of numbers, one after the other; the blocks of their digits are X. -/
def RowC (X : Nat → Prop) (w : World) : List Value → List Int → Prop
 | [], [] => True
 | a :: v :: xs, z :: Z => (∃ s, a = .bool s) ∧ OutB X w v ∧ NumAt w (.agg #[a, v]) z ∧ RowC X w xs Z
 | _, _ => False
theorem RowC.move {X Y : Nat → Prop} {w w' : World} (hs : w.heap.size ≤ w'.heap.size) (hk : ∀ b, b < w.heap.size → X b → w'.heap[b]? = w.heap[b]? ∧ Y b) : ∀ {xs : List Value} {Z : List Int}, RowC X w xs Z → RowC Y w' xs Z
 | [], [], _ => trivial
 | _ :: _ :: _, _ :: _, h => by
  obtain ⟨⟨s, rfl⟩, ⟨B, m, c, rfl, h3⟩, h4, h5⟩ := h
  refine ⟨⟨s, rfl⟩, ⟨B, m, c, rfl, fun b off e => ?_⟩, h4.same hs fun b off e => ?_, RowC.move hs hk h5⟩
  ·obtain ⟨h6, h7⟩ := h3 b off e
   exact ⟨Nat.lt_of_lt_of_le h6 hs, (hk b h6 h7).2⟩
  ·obtain ⟨h6, h7⟩ := h3 b off e
   exact (hk b h6 h7).1
 | [], _ :: _, h => h.elim
 | [_], [], h => h.elim
 | [_], _ :: _, h => h.elim
 | _ :: _ :: _, [], h => h.elim
theorem RowC.below {X : Nat → Prop} {w w' : World} (hb : Below w.heap.size w w') {xs : List Value} {Z : List Int} (h : RowC X w xs Z) : RowC X w' xs Z :=
 h.move hb.size fun b hlt hX => ⟨hb.block b hlt, hX⟩
theorem RowC.grown {X Y : Nat → Prop} {w w' : World} {g : Option Nat} (hg : w.grownBy w' g) (hk : ∀ b, b < w.heap.size → X b → some b ≠ g ∧ Y b) {xs : List Value} {Z : List Int} (h : RowC X w xs Z) : RowC Y w' xs Z :=
 h.move hg.size fun b hlt hX => ⟨hg.block b hlt (hk b hlt hX).1, (hk b hlt hX).2⟩
theorem RowC.snoc {X : Nat → Prop} {w : World} {s : Bool} {v : Value} {z : Int} (h2 : OutB X w v) (h3 : NumAt w (.agg #[.bool s, v]) z) : ∀ {xs : List Value} {Z : List Int}, RowC X w xs Z → RowC X w (xs ++ [.bool s, v]) (Z ++ [z])
 | [], [], _ => ⟨⟨s, rfl⟩, h2, h3, trivial⟩
 | _ :: _ :: _, _ :: _, h => ⟨h.1, h.2.1, h.2.2.1, RowC.snoc h2 h3 h.2.2.2⟩
 | [], _ :: _, h => h.elim
 | [_], [], h => h.elim
 | [_], _ :: _, h => h.elim
 | _ :: _ :: _, [], h => h.elim
theorem RowC.at_ {X : Nat → Prop} {w : World} : ∀ {xs : List Value} {Z : List Int}, RowC X w xs Z → ∀ i, i < Z.length → ∃ s B m c, xs[i * 2]? = some (.bool s) ∧ xs[i * 2 + 1]? = some (.slice B m c) ∧ (∀ b off, B = some ⟨b, off, none⟩ → b < w.heap.size ∧ X b) ∧ NumAt w (.agg #[.bool s, .slice B m c]) (zAt Z i)
 | a :: v :: xs, z :: Z, h, 0, _ => by
  obtain ⟨⟨s, rfl⟩, ⟨B, m, c, rfl, h2⟩, h3, _⟩ := h
  exact ⟨s, B, m, c, rfl, rfl, h2, h3⟩
 | a :: v :: xs, z :: Z, h, i + 1, hi => by
  obtain ⟨s, B, m, c, h1, h2, h3, h4⟩ := RowC.at_ h.2.2.2 i (by simpa using hi)
  refine ⟨s, B, m, c, ?_, ?_, h3, h4⟩
  ·rw [show (i + 1) * 2 = i * 2 + 2 by omega]; exact h1
  ·rw [show (i + 1) * 2 + 1 = i * 2 + 1 + 2 by omega]; exact h2
 | [], [], _, _, h => by simp at h
 | [], _ :: _, h, _, _ => h.elim
 | [_], [], h, _, _ => h.elim
 | [_], _ :: _, h, _, _ => h.elim
 | _ :: _ :: _, [], h, _, _ => h.elim
/-- A value that is a row of numbers. -/
def RowV (X : Nat → Prop) (v : Value) (Z : List Int) (w' : World) : Prop := ∃ A c, v = .slice A Z.length c ∧ (0 < Z.length → ∃ b, A = some ⟨b, 0, none⟩) ∧ Z.length ≤ c ∧ c ≤ 9223372036854775807 ∧ NumsX X w' A Z.length Z
theorem row_of {X : Nat → Prop} {W : World} {base : Nat} {e : TypeId} {v : Value} {Z : List Int} {n : Nat} {xs : List Value} (hn : Z.length = n) (h : W.ownsRow base e 2 v n xs) (hr : RowC X W xs Z) (hX : ∀ b, base ≤ b → v.ownBlock = some b → X b) : RowV X v Z W := by
 subst hn
 rcases h.2 with ⟨rfl, h0⟩ | ⟨g, cap, cur, rfl, h1, h2, h3, h4, h5, h6⟩
 ·obtain rfl : Z = [] := List.eq_nil_of_length_eq_zero h0
  exact ⟨none, 0, rfl, fun h => by simp at h, by simp, by omega, NumsX.nil _ _ _⟩
 ·unfold maxLen at h4
  refine ⟨_, cap, rfl, fun _ => ⟨g, rfl⟩, h3, by omega, ⟨rfl, fun h0 => ⟨g, 0, rfl, ?_, hX g h1 rfl, fun i hi => ?_⟩⟩⟩
  ·rcases Nat.lt_or_ge g W.heap.size with hl | hl
   ·exact hl
   ·rw [Array.getElem?_eq_none hl] at h2; cases h2
  ·obtain ⟨s, B, m, c, e1, e2, e3⟩ := hr.at_ i hi
   have key : ∀ j x, xs[j]? = some x → W.cell? ⟨g, j, none⟩ = some x := fun j x hx => by
    rw [cell_of_row W g j cur e (0, 0) h2]
    rw [← h6, List.getElem?_take] at hx
    split at hx
    ·rw [← Array.getElem?_toList]; exact hx
    ·cases hx
   refine ⟨s, B, m, c, ?_, ?_, e3⟩
   ·rw [Nat.zero_add]; exact key _ _ e1
   ·rw [Nat.zero_add]; exact key _ _ e2
theorem ownsRow_stay {w w' : World} {base : Nat} {e : TypeId} {size : Nat} {v : Value} {n : Nat} {xs : List Value} (h : w.ownsRow base e size v n xs) (hb : Below w.heap.size w w') : w'.ownsRow base e size v n xs := by
 refine ⟨h.1, ?_⟩
 rcases h.2 with h1 | ⟨g, cap, cur, e1, e2, e3, e4⟩
 ·exact .inl h1
 ·refine .inr ⟨g, cap, cur, e1, e2, ?_, e4⟩
  exact (hb.block g (Array.getElem?_eq_some_iff.1 e3).1).trans e3
theorem ownBlock_lt {w : World} {base : Nat} {e : TypeId} {size : Nat} {v : Value} {n : Nat} {xs : List Value} (h : w.ownsRow base e size v n xs) {b : Nat} (hb : v.ownBlock = some b) : b < w.heap.size := by
 rcases h.2 with ⟨rfl, _⟩ | ⟨g, cap, cur, rfl, e2, e3, e4⟩
 ·cases hb
 ·cases hb; exact (Array.getElem?_eq_some_iff.1 e3).1
theorem slN_addr {z : Int} {b0 b off : Nat} {n c : Nat} (h : slN z b0 = .slice (some ⟨b, off, none⟩) n c) : b0 = b := by
 unfold slN at h
 split at h
 ·injection h with h; injection h with h; injection h
 ·injection h with h; cases h
/-- A number that a product of two still fits of. -/
def Sm (z : Int) : Prop := z.natAbs < 2 ^ 1000
theorem fits_iff {z : Int} : fits z = true ↔ z.natAbs < 4294967296 ^ 64 := ⟨fun h => digs_len.1 (of_decide_eq_true h), fun h => decide_eq_true (digs_len.2 h)⟩
theorem sm_top : 2 ^ 1000 * 2 ^ 1000 + 2 ^ 1000 * 2 ^ 1000 < 4294967296 ^ 64 := by decide +kernel
theorem Sm.mul_lt {a b : Int} (ha : Sm a) (hb : Sm b) : (a * b).natAbs < 2 ^ 1000 * 2 ^ 1000 := by
 rw [Int.natAbs_mul]
 have h1 : a.natAbs < 2 ^ 1000 := ha
 have h2 : b.natAbs < 2 ^ 1000 := hb
 revert h1 h2
 generalize 2 ^ 1000 = X
 intro h1 h2
 exact Nat.mul_lt_mul'' h1 h2
theorem Sm.mul {a b : Int} (ha : Sm a) (hb : Sm b) : fits (a * b) = true := by
 have h1 := ha.mul_lt hb
 have h2 := sm_top
 generalize 2 ^ 1000 * 2 ^ 1000 = X at *
 exact fits_iff.2 (Nat.lt_trans h1 (by omega))
theorem Sm.cross {a b c d : Int} (ha : Sm a) (hb : Sm b) (hc : Sm c) (hd : Sm d) : fits (a * b - c * d) = true := by
 have h1 := ha.mul_lt hb
 have h3 := hc.mul_lt hd
 have h2 := sm_top
 have h4 : (a * b - c * d).natAbs ≤ (a * b).natAbs + (c * d).natAbs := Int.natAbs_sub_le _ _
 generalize 2 ^ 1000 * 2 ^ 1000 = X at *
 exact fits_iff.2 (by omega)
theorem Sm.fits {a : Int} (ha : Sm a) : fits a = true := by
 have h1 : a.natAbs < 2 ^ 1000 := ha
 have h2 := sm_top
 have h3 := Nat.le_mul_of_pos_right (2 ^ 1000) (Nat.pow_pos (n := 1000) (show 0 < 2 by omega))
 generalize 2 ^ 1000 * 2 ^ 1000 = X at *
 exact fits_iff.2 (by omega)
/-- A row without a column, by the row that leads in it (Bareiss). -/
def combZ (R O : List Int) (j : Nat) (p : Int) : Nat → List Int
 | 0 => []
 | k + 1 => combZ R O j p k ++ [(zAt O j * zAt R k - zAt R j * zAt O k) / p]
theorem combZ_len (R O : List Int) (j : Nat) (p : Int) : ∀ k, (combZ R O j p k).length = k
 | 0 => rfl
 | k + 1 => by simp [combZ, combZ_len R O j p k]
end Go.Proofs.YtflgngjocgiojaaGreat
namespace Go.Proofs.YtflgngjocgiojaaGreat
open Go.RowKit

/-- A number of the reference: value z, its digits in block b with capacity C; zero, where it does not fit. -/
def slC (z : Int) (b C : Nat) : Value := if fits z = true ∧ z ≠ 0 then .slice (some ⟨b, 0, none⟩) (digs z.natAbs).length C else .slice none 0 0
def numC (z : Int) (b C : Nat) : Value := .agg #[.bool (sgnN z), slC z b C]
def NumC (w : World) (b C : Nat) (z : Int) : Prop := fits z = true → z ≠ 0 → (digs z.natAbs).length ≤ C ∧ C ≤ 9223372036854775807 ∧ DigsAt w (some ⟨b, 0, none⟩) (digs z.natAbs).length (digs z.natAbs)
theorem slC_form (z : Int) (b C : Nat) : ∃ A n c, slC z b C = .slice A n c := by
 unfold slC
 split
 ·exact ⟨_, _, _, rfl⟩
 ·exact ⟨_, _, _, rfl⟩
theorem slC_addr {z : Int} {b C n c : Nat} {a : Addr} (h : slC z b C = .slice (some a) n c) : a = ⟨b, 0, none⟩ := by
 unfold slC at h
 split at h
 ·injection h with h; injection h with h; exact h.symm
 ·injection h with h; cases h
theorem slC_zero (b C : Nat) : slC 0 b C = .slice none 0 0 := by unfold slC; rw [if_neg (by simp)]
theorem numC_zero (b C : Nat) : numC 0 b C = zeroN := by unfold numC; rw [slC_zero]; rfl
theorem numC_no {z : Int} (b C : Nat) (h : fits z = false) : numC z b C = zeroN := by
 unfold numC sgnN slC zeroN
 rw [if_neg (by rw [h]; simp), h]
 rfl
theorem numC_yes {z : Int} (b C : Nat) (h : fits z = true) (h0 : z ≠ 0) : numC z b C = .agg #[.bool (decide (z < 0)), .slice (some ⟨b, 0, none⟩) (digs z.natAbs).length C] := by
 unfold numC sgnN slC
 rw [if_pos ⟨h, h0⟩, h]
 rfl
theorem NumC.at_ {w : World} {b C : Nat} {z : Int} (h : NumC w b C z) (hf : fits z = true) : NumAt w (numC z b C) z := by
 by_cases h0 : z = 0
 ·subst h0
  rw [numC_zero]
  exact num_zero w
 ·rw [numC_yes b C hf h0]
  have hl : (digs z.natAbs).length ≤ 64 := of_decide_eq_true hf
  obtain ⟨h1, h2, h3⟩ := h hf h0
  exact ⟨_, _, _, rfl, h1, h2, hl, h3⟩
theorem NumC.below {w w' : World} {b C : Nat} {z : Int} (h : NumC w b C z) (hb : Below w.heap.size w w') : NumC w' b C z := fun h1 h2 => ⟨(h h1 h2).1, (h h1 h2).2.1, (h h1 h2).2.2.below hb⟩
theorem NumC.far {w : World} {b C : Nat} {z : Int} (h : NumC w b C z) {p : Addr} (hp : b ≠ p.block) (x : Value) : NumC (w.setCell p x) b C z := fun h1 h2 => ⟨(h h1 h2).1, (h h1 h2).2.1, (h h1 h2).2.2.same (by simp [World.setCell]) fun a e => by
 cases e
 exact Below.heap_setCell _ _ _ b hp⟩
theorem NumC.upd {T : List Nat} {w u : World} {b C : Nat} {z : Int} (h : NumC w b C z) (hT : b ∉ T) (k : Upd T w u) : NumC u b C z := fun h1 h2 => by
 obtain ⟨h3, h4, h5⟩ := h h1 h2
 refine ⟨h3, h4, h5.len, h5.dg, fun hp => ?_⟩
 obtain ⟨b', off, e, hlt, hc⟩ := h5.row hp
 cases e
 exact ⟨_, _, rfl, Nat.lt_of_lt_of_le hlt k.size, fun i hi => (World.cell?_of_block (a := ⟨_, 0 + i, none⟩) (k.block _ hlt hT)).trans (hc i hi)⟩
theorem add_off (b off j : Nat) : (⟨b, off, none⟩ : Addr).add j = ⟨b, off + j, none⟩ := by
 unfold Addr.add
 by_cases h : j = 0
 ·rw [if_pos h, h]; rfl
 ·rw [if_neg h]
/-- A function of the reference has returned a number, and whether it fits. -/
def RetM (w : World) (z : Int) (r : Ending) (w' : World) : Prop := (∃ b C, r = .returned (.tuple #[numC z b C, .bool (fits z)]) ∧ NumC w' b C z ∧ w.heap.size ≤ b ∧ b < w'.heap.size) ∧ Below w.heap.size w w'
/-- A function of the reference has returned a number. -/
def RetX (w : World) (z : Int) (r : Ending) (w' : World) : Prop := (∃ b C, r = .returned (numC z b C) ∧ NumC w' b C z ∧ w.heap.size ≤ b ∧ b < w'.heap.size) ∧ Below w.heap.size w w'
theorem refD_at {D : List Nat} {i : Nat} (h : i < D.length) : (D.map fun d => Value.int .u32 ((d : Nat) : Int))[i]? = some (.int .u32 (dAt D i : Nat)) := by
 rw [List.getElem?_map, List.getElem?_eq_getElem h, dAt_in h]; rfl
theorem own_grown {w w' : World} {b : Nat} {cs : Array Value} {row : Option Nat} (h : Own w b cs) (hg : w.grownBy w' row) (hr : ∀ r, row = some r → r ≠ b) : Own w' b cs :=
 h.of_block (hg.block b h.lt (fun e => hr b e.symm rfl))
set_option maxRecDepth 100000 in
set_option maxHeartbeats 4000000 in
theorem ref1_signed {w : World} {A : Option Addr} {n : Nat} {D : List Nat} {z : Int} {neg : Bool} (c : Nat) (hv : DigsAt w A n D) (hnc : n ≤ c) (hc : c ≤ 9223372036854775807) (e : sg neg (vD D) = z) :
  Calls Tryz.prog 115 #[.bool neg, .slice A n c] w (RetM w z) := by
 unfold RetM
 obtain ⟨i0, hi, hz0, hz1, hz2⟩ := infoU_parts
 obtain ⟨ok, hok⟩ : ∃ o, fits z = o := ⟨_, rfl⟩
 rw [hok]
 have HZ := Lib.hid (And.intro e hok)
 clear e
 have HV := Lib.hid hv
 clear hok hv
 have hW := (Below.refl w.heap.size w).alloc (Nat.le_refl _) (.cells #[.bool false, .slice none 0 0] 35)
 have o0 : Own (w.alloc (.cells #[.bool false, .slice none 0 0] 35)) w.heap.size #[.bool false, .slice none 0 0] := Own.new rfl
 go_enter Tryz.func115, Tryz.ntmps115
 go_wp2_with fail
 have HT := Lib.hid (ref1_trim c (HV.out.below hW) hnc hc)
 refine Calls.mono HT.out ?_
 rintro e w2 ⟨rfl, hb2⟩
 have hw2 := hW.trans (hb2.mono hW.size)
 have ht := trim_sl (HV.out.below hw2) hnc hc
 have o1 := o0.below hb2
 have htl := trim_len HV.out.dg HV.out.len
 clear HT o0
 generalize trimN D n = N at *
 have hNc : N ≤ c := by
  obtain ⟨A', n', c', e, h1, _⟩ := ht
  cases e
  exact h1
 have hdg : DigsAt w2 A N (digs (vD D)) := by
  obtain ⟨A', n', c', e, _, _, h2⟩ := ht
  cases e
  exact h2
 have hok2 : ok = decide (N ≤ 64) := by rw [← HZ.out.2, ← HZ.out.1, fits, sg_abs, htl]
 have HT := Lib.hid (And.intro htl hdg)
 have HOK := Lib.hid hok2
 clear ht htl hdg hok2 hb2 hW
 have o1c := o1.cell
 have o1f := o1.thaw
 have o1z := o1.lt
 by_cases h64 : 64 < N
 ·have h64i : (64 : Int) < (N : Int) := by omega
  have hof : ok = false := by rw [HOK.out]; exact decide_eq_false (by omega)
  subst hof
  go_wp2
  refine retC (b := w.heap.size) (v := .tuple #[zeroN, .bool false]) ((o1.set 0 _).set 1 _) (fun w' hw' => by simp [results, Tryz.results115, go_sem, hw', zeroN]) rfl ⟨⟨w.heap.size, 0, by rw [numC_no _ _ HZ.out.2], fun h => by (rw [HZ.out.2] at h; cases h), Nat.le_refl _, by simp [World.setCell]; omega⟩, (hw2.setCell (Nat.le_refl _) _).setCell (Nat.le_refl _) _⟩
 ·have hot : ok = true := by rw [HOK.out]; exact decide_eq_true (by omega)
  subst hot
  have h64j : ¬ (64 : Int) < (N : Int) := by omega
  by_cases h0 : N = 0
  ·subst h0
   have e0 : vD D = 0 := digs_nil.1 (List.eq_nil_of_length_eq_zero HT.out.1.symm)
   have e1 : z = 0 := by
    rw [← HZ.out.1, e0]
    unfold sg
    split <;> rfl
   subst e1
   go_wp2
   refine retC (b := w.heap.size) (v := .tuple #[zeroN, .bool true]) ((o1.set 0 _).set 1 _) (fun w' hw' => by simp [results, Tryz.results115, go_sem, hw', zeroN]) rfl ⟨⟨w.heap.size, 0, by rw [numC_zero], fun _ h => absurd rfl h, Nat.le_refl _, by simp [World.setCell]; omega⟩, (hw2.setCell (Nat.le_refl _) _).setCell (Nat.le_refl _) _⟩
  ·have h0i : ¬ (N : Int) = 0 := by omega
   obtain ⟨b, off, rfl, hbb, hcell⟩ := HT.out.2.row (by omega)
   have hs2 := hw2.size
   have hrow0 : (w2.alloc (.cells #[] 97)).ownsRow w2.heap.size 97 1 (.slice (some ⟨w2.heap.size, 0, none⟩) 0 0) 0 [] := by
    have q := World.ownsRow_lit (base := w2.heap.size) (e := 97) (size := 1) w2 #[] 0 (by simp) (by unfold maxLen; omega) (by simp)
    simpa using q
   have HROW := Lib.hid hrow0
   have HC := Lib.hid hcell
   clear hrow0 hcell
   go_wp2_with (at_builtin; go_loud (refine wpList_append_lies _ rfl _ _ _ (by rfl) w2.heap.size 97 i0 (.int .u32 0) 1 4 Tryz.underlying33 hi hz0 hz1 hz2 rfl (by omega) _ 0 [] (by rfl) HROW.out ⟨b, off, none⟩ N c ((digs (vD D)).map fun d => Value.int .u32 ((d : Nat) : Int)) (by rfl) (by rw [List.length_map, ← HT.out.1, Nat.mul_one]) ?c1 ?c2 (by omega) ?c3 ?c4 ?c5 (w2.heap.size + 1) (by simp) ?_))
   case c1 =>
    intro j u hu
    have hj : j < (digs (vD D)).length := by
     apply Classical.byContradiction
     intro h
     rw [List.getElem?_eq_none (by rw [List.length_map]; omega)] at hu
     cases hu
    rw [refD_at hj] at hu
    cases hu
    have q := HC.out j (by rw [HT.out.1]; exact hj)
    rw [add_off b off j]
    exact (World.cell?_of_block (w := w2) (a := ⟨b, off + j, none⟩) (((Below.refl w2.heap.size w2).alloc (Nat.le_refl _) (.cells #[] 97)).block b hbb)).trans q
   case c2 =>
    intro u hu
    obtain ⟨d, _, rfl⟩ := List.mem_map.1 hu
    rfl
   case c3 => unfold maxLen; omega
   case c4 => omega
   case c5 => simp
   intro g cp w3 ho3 hg3 hat3 hlt3
   have hob : ∀ r, (Value.slice (some ⟨w2.heap.size, 0, none⟩) 0 0).ownBlock = some r → w2.heap.size ≤ r := fun r h => ownBlock_ge HROW.out h
   have hB3 := Below.grown (hw2.alloc hs2 (.cells #[] 97)) hg3 (by simp; omega) (fun r h => by have := hob r h; omega)
   have o3 : Own w3 w.heap.size #[.bool false, .slice none 0 0] := own_grown (o1.alloc _) hg3 (fun r h => by have := hob r h; omega)
   have hgz : w.heap.size < g := by
    rcases hat3 with h | h
    ·have := hob _ h; omega
    ·omega
   have e6 : 0 < vD D := by
    apply Classical.byContradiction
    intro h
    apply h0
    rw [HT.out.1, show vD D = 0 by omega]
    rfl
   have e7 : decide (z < 0) = neg := by rw [← HZ.out.1, sg_neg _ _ e6]
   have e8 : z.natAbs = vD D := by rw [← HZ.out.1, sg_abs]
   have hdg3 : N ≤ cp ∧ cp ≤ 9223372036854775807 ∧ DigsAt w3 (some ⟨g, 0, none⟩) N (digs (vD D)) := by
    have ho3' : w3.ownsRow w2.heap.size 97 1 (.slice (some ⟨g, 0, none⟩) N cp) N ((digs (vD D)).map fun d => Value.int .u32 ((d : Nat) : Int)) := by simpa using ho3
    obtain ⟨_, _, q1, q2, q3⟩ := ownsRow_cell ho3' (by omega)
    unfold maxLen at q2
    refine ⟨q1, q2, HT.out.1.symm, digs_dg _, fun _ => ⟨g, 0, rfl, hlt3, fun i hi => ?_⟩⟩
    rw [Nat.zero_add, q3 i (by omega)]
    exact refD_at (D := digs (vD D)) (i := i) (by rw [← HT.out.1]; exact hi)
   have HE := Lib.hid (And.intro e6 (And.intro e7 e8))
   clear e6 e7 e8
   have o3c := o3.cell
   have o3f := o3.thaw
   have o3z := o3.lt
   have HN := Lib.hid hdg3
   have HB := Lib.hid hB3
   clear ho3 hg3 hat3 hob hdg3 hB3 o1 o1c o1f HROW HC
   go_wp2
   refine retC (b := w.heap.size) (v := .tuple #[.agg #[.bool neg, .slice (some ⟨g, 0, none⟩) N cp], .bool true]) ((o3.set 0 _).set 1 _) (fun w' hw' => by simp [results, Tryz.results115, go_sem, hw']) rfl ⟨⟨g, cp, ?_, fun _ _ => ?_, by omega, by simp [World.setCell]; omega⟩, (HB.out.setCell (Nat.le_refl _) _).setCell (Nat.le_refl _) _⟩
   ·rw [numC_yes g cp HZ.out.2 (by have := HE.out; omega), HE.out.2.1, HE.out.2.2, ← HT.out.1]
   ·rw [HE.out.2.2, ← HT.out.1]
    exact ⟨HN.out.1, HN.out.2.1, HN.out.2.2.same (by simp [World.setCell]) fun a e => by
     cases e
     exact (Below.heap_setCell _ _ _ g (by simp; omega)).trans (Below.heap_setCell _ _ _ g (by simp; omega))⟩
end Go.Proofs.YtflgngjocgiojaaGreat
namespace Go.Proofs.YtflgngjocgiojaaGreat
open Go.RowKit

theorem ref_right {w : World} {v : Value} {z : Int} (h : NumAt w v z) : Calls Tryz.prog 88 #[v] w fun r w' => r = .returned (.bool true) ∧ Below w.heap.size w w' := by
 have q := ref1_Right h.raw.1
 rw [h.raw.2] at q
 exact q
/-- The end: the number is stored in the block of the result. -/
theorem endX {w W : World} {z : Int} {s : Bool} {A : Option Addr} {n c b C B : Nat} (hB : w.heap.size ≤ B) (e1 : sgnN z = s) (e2 : slC z b C = .slice A n c) (hb : Below w.heap.size w W) (hn : NumC W b C z) (h1 : B < b) (h2 : b < W.heap.size) :
  RetX w z (.returned (.agg #[.bool s, .slice A n c])) ((W.setCell ⟨B, 0, none⟩ (.bool s)).setCell ⟨B, 1, none⟩ (.slice A n c)) :=
 ⟨⟨b, C, by rw [numC, e1, e2], (hn.far (p := ⟨B, 0, none⟩) (by simp; omega) _).far (p := ⟨B, 1, none⟩) (by simp; omega) _, by omega, by simp [World.setCell]; exact h2⟩, (hb.setCell hB _).setCell hB _⟩
set_option maxRecDepth 100000 in
set_option maxHeartbeats 2000000 in
theorem ref1_Of {w : World} (n : Int) (h1 : -9223372036854775808 ≤ n) (h2 : n ≤ 9223372036854775807) : Calls Tryz.prog 78 #[.int .i64 n] w (RetX w n) := by
 obtain ⟨m, hm⟩ : ∃ m, n.natAbs = m := ⟨_, rfl⟩
 have hmb : m < 18446744073709551616 := by omega
 have HM := Lib.hid hm
 have HF : Hid (fits n = true) := Lib.hid (fits_small (by omega))
 have hW := (Below.refl w.heap.size w).alloc (Nat.le_refl _) (.cells #[.bool false, .slice none 0 0] 35)
 have o2 : Own (w.alloc (.cells #[.bool false, .slice none 0 0] 35)) w.heap.size #[.bool false, .slice none 0 0] := Own.new rfl
 by_cases hn : n < 0
 ·obtain ⟨x, hx⟩ : ∃ x, 18446744073709551616 - m = x := ⟨_, rfl⟩
  have hc4 : IntKind.u64.wrap n = (x : Int) := by rw [IntKind.wrap_u64]; omega
  have hc5 : IntKind.u64.wrap (-(x : Int)) = (m : Int) := by rw [IntKind.wrap_u64]; omega
  clear hm hx
  go_enter Tryz.func78, Tryz.ntmps78
  go_wp2_with fail
  have hz0 := hW.size
  generalize (w.alloc (.cells #[.bool false, .slice none 0 0] 35)) = W0 at *
  refine Calls.mono (ref1_digits m hmb) ?_
  rintro e w2 ⟨⟨C, rfl, g1, g2, g3, g4⟩, hb2⟩
  have hw2 := hW.trans (hb2.mono hz0)
  have p2 := o2.below hb2
  have HG := Lib.hid g3
  clear g3 hb2 o2 hW
  go_wp2_with fail
  have q := ref1_signed (neg := true) (z := n) C HG.out g1 (by omega) (by rw [digs_val]; have e := HM.out; unfold sg; simp; omega)
  unfold RetM at q
  rw [HF.out] at q
  refine Calls.mono q ?_
  clear q
  rintro e u6 ⟨⟨b, C2, rfl, hb1, hb2, hb3⟩, hb4⟩
  obtain ⟨A9, n9, c9, hsl⟩ := slC_form n b C2
  simp only [numC]
  rw [hsl]
  have hk := (Below.refl u6.heap.size u6).alloc (Nat.le_refl _) (.cells #[.bool (sgnN n), .slice A9 n9 c9] 35)
  have hw6 := hw2.trans (hb4.mono hw2.size)
  have hw7 := hw6.trans (hk.mono hw6.size)
  have p3 := (p2.below hb4).below hk
  have N3 := Lib.hid (And.intro (hb1.below hk) (And.intro hsl (show w.heap.size < b by have := p2.lt; omega)))
  have hz6 : b < (u6.alloc (.cells #[.bool (sgnN n), .slice A9 n9 c9] 35)).heap.size := by simp; omega
  have p3c := p3.cell
  have p3f := p3.thaw
  have p3z := p3.lt
  clear hsl hb1 hb2 hb3 hb4 hk hw6 p2
  go_wp2
  refine retC (b := w.heap.size) (v := .agg #[.bool (sgnN n), .slice A9 n9 c9]) ((p3.set 0 _).set 1 _) (fun w' hw' => by simp [results, Tryz.results78, go_sem, hw']) rfl (endX (Nat.le_refl _) rfl N3.out.2.1 hw7 N3.out.1 N3.out.2.2 hz6)
 ·have hc4 : IntKind.u64.wrap n = (m : Int) := by rw [IntKind.wrap_u64]; omega
  clear hm
  go_enter Tryz.func78, Tryz.ntmps78
  go_wp2_with fail
  have hz0 := hW.size
  generalize (w.alloc (.cells #[.bool false, .slice none 0 0] 35)) = W0 at *
  refine Calls.mono (ref1_digits m hmb) ?_
  rintro e w2 ⟨⟨C, rfl, g1, g2, g3, g4⟩, hb2⟩
  have hw2 := hW.trans (hb2.mono hz0)
  have p2 := o2.below hb2
  have HG := Lib.hid g3
  clear g3 hb2 o2 hW
  go_wp2_with fail
  have q := ref1_signed (neg := false) (z := n) C HG.out g1 (by omega) (by rw [digs_val]; have e := HM.out; unfold sg; simp; omega)
  unfold RetM at q
  rw [HF.out] at q
  refine Calls.mono q ?_
  clear q
  rintro e u6 ⟨⟨b, C2, rfl, hb1, hb2, hb3⟩, hb4⟩
  obtain ⟨A9, n9, c9, hsl⟩ := slC_form n b C2
  simp only [numC]
  rw [hsl]
  have hk := (Below.refl u6.heap.size u6).alloc (Nat.le_refl _) (.cells #[.bool (sgnN n), .slice A9 n9 c9] 35)
  have hw6 := hw2.trans (hb4.mono hw2.size)
  have hw7 := hw6.trans (hk.mono hw6.size)
  have p3 := (p2.below hb4).below hk
  have N3 := Lib.hid (And.intro (hb1.below hk) (And.intro hsl (show w.heap.size < b by have := p2.lt; omega)))
  have hz6 : b < (u6.alloc (.cells #[.bool (sgnN n), .slice A9 n9 c9] 35)).heap.size := by simp; omega
  have p3c := p3.cell
  have p3f := p3.thaw
  have p3z := p3.lt
  clear hsl hb1 hb2 hb3 hb4 hk hw6 p2
  go_wp2
  refine retC (b := w.heap.size) (v := .agg #[.bool (sgnN n), .slice A9 n9 c9]) ((p3.set 0 _).set 1 _) (fun w' hw' => by simp [results, Tryz.results78, go_sem, hw']) rfl (endX (Nat.le_refl _) rfl N3.out.2.1 hw7 N3.out.1 N3.out.2.2 hz6)
set_option maxRecDepth 100000 in
set_option maxHeartbeats 4000000 in
theorem ref1_Cmp {w : World} {v1 v2 : Value} {z1 z2 : Int} (h1 : NumAt w v1 z1) (h2 : NumAt w v2 z2) : Calls Tryz.prog 42 #[v1, v2] w fun r w' => r = .returned (.int .i64 (ordI z1 z2)) ∧ Below w.heap.size w w' := by
 have G1 := Lib.hid h1
 have G2 := Lib.hid h2
 obtain ⟨A1, n1, c1, rfl, hc1, hm1, hl1, d1⟩ := h1
 obtain ⟨A2, n2, c2, rfl, hc2, hm2, hl2, d2⟩ := h2
 obtain ⟨s1, hs1⟩ : ∃ s, decide (z1 < 0) = s := ⟨_, rfl⟩
 obtain ⟨s2, hs2⟩ : ∃ s, decide (z2 < 0) = s := ⟨_, rfl⟩
 rw [hs1] at G1 ⊢
 rw [hs2] at G2 ⊢
 obtain ⟨o, ho⟩ : ∃ o, ordI z1 z2 = o := ⟨_, rfl⟩
 rw [ho]
 have HS := Lib.hid (And.intro hs1 (And.intro hs2 ho))
 have D1 := Lib.hid d1
 have D2 := Lib.hid d2
 clear d1 d2 hs1 hs2 ho
 have hW := (((Below.refl w.heap.size w).alloc (Nat.le_refl _) (.cells #[.bool s1, .slice A1 n1 c1] 35)).alloc (by simp) (.cells #[.bool s2, .slice A2 n2 c2] 35))
 have o3 : Own ((w.alloc (.cells #[.bool s1, .slice A1 n1 c1] 35)).alloc (.cells #[.bool s2, .slice A2 n2 c2] 35)) w.heap.size #[.bool s1, .slice A1 n1 c1] := (by repeat' (first | ((refine Own.new ?_); (focus (first | rfl | omega | (simp; done) | (simp; omega)))) | assumption | refine Own.alloc ?_ _ | refine Own.drew ?_ | (refine Own.far ?_ ?_ _; rotate_left; (focus (first | rfl | omega | (simp; done) | (simp; omega))))))
 have o4 : Own ((w.alloc (.cells #[.bool s1, .slice A1 n1 c1] 35)).alloc (.cells #[.bool s2, .slice A2 n2 c2] 35)) (w.heap.size + 1) #[.bool s2, .slice A2 n2 c2] := (by repeat' (first | ((refine Own.new ?_); (focus (first | rfl | omega | (simp; done) | (simp; omega)))) | assumption | refine Own.alloc ?_ _ | refine Own.drew ?_ | (refine Own.far ?_ ?_ _; rotate_left; (focus (first | rfl | omega | (simp; done) | (simp; omega))))))
 go_enter Tryz.func42, Tryz.ntmps42
 go_wp2_with fail
 generalize ((w.alloc (.cells #[.bool s1, .slice A1 n1 c1] 35)).alloc (.cells #[.bool s2, .slice A2 n2 c2] 35)) = W0 at *
 refine Calls.mono (ref_right (G1.out.below hW)) ?_
 rintro e w1 ⟨rfl, hb1⟩
 have hw1 := hW.trans (hb1.mono hW.size)
 have p3 := o3.below hb1
 have p4 := o4.below hb1
 have p3c := p3.cell
 have p4c := p4.cell
 clear hb1 o3 o4 hW
 go_wp2_with fail
 refine Calls.mono (ref_right (G2.out.below hw1)) ?_
 rintro e w2 ⟨rfl, hb1⟩
 have hw2 := hw1.trans (hb1.mono hw1.size)
 replace p3 := p3.below hb1
 replace p4 := p4.below hb1
 replace p3c := p3.cell
 replace p4c := p4.cell
 clear hb1 hw1
 cases s1 <;> cases s2
 ·go_wp2_with fail
  have q := ref1_compare c1 c2 (D1.out.below hw2) (D2.out.below hw2) (by omega) (by omega)
  rw [ord_pp (of_decide_eq_false HS.out.1) (of_decide_eq_false HS.out.2.1), HS.out.2.2] at q
  refine Calls.mono q ?_
  clear q
  rintro e w3 ⟨rfl, hb⟩
  have hw3 := hw2.trans (hb.mono hw2.size)
  go_wp2
  go_ret
  exact ⟨rfl, hw3⟩
 ·go_wp2
  go_ret
  exact ⟨by rw [← HS.out.2.2, ordI_gt (by have := of_decide_eq_false HS.out.1; have := of_decide_eq_true HS.out.2.1; omega)]; rfl, hw2⟩
 ·go_wp2
  go_ret
  exact ⟨by rw [← HS.out.2.2, ordI_lt (by have := of_decide_eq_true HS.out.1; have := of_decide_eq_false HS.out.2.1; omega)]; rfl, hw2⟩
 ·go_wp2_with fail
  have q := ref1_compare c2 c1 (D2.out.below hw2) (D1.out.below hw2) (by omega) (by omega)
  have e : ordI (z2.natAbs : Nat) (z1.natAbs : Nat) = o := by
   rw [← HS.out.2.2]
   have e1 := of_decide_eq_true HS.out.1
   have e2 := of_decide_eq_true HS.out.2.1
   unfold ordI
   repeat' split
   all_goals omega
  rw [e] at q
  clear e
  refine Calls.mono q ?_
  clear q
  rintro e w3 ⟨rfl, hb⟩
  have hw3 := hw2.trans (hb.mono hw2.size)
  go_wp2
  go_ret
  exact ⟨rfl, hw3⟩
end Go.Proofs.YtflgngjocgiojaaGreat
