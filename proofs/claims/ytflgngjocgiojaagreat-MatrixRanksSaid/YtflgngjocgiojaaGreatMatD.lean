/- Matrix: combine: a row without a column. -/
import Derived.Test.YtflgngjocgiojaaGreatMatB
import Derived.Deep.AppendLies
namespace Go.Proofs.YtflgngjocgiojaaGreat
open Go.RowKit

def zAt (Z : List Int) (i : Nat) : Int := Z.getD i 0
/-- A slice reads as the list Z of right numbers; all blocks in which they lie are X. -/
structure NumsX (X : Nat → Prop) (w : World) (A : Option Addr) (n : Nat) (Z : List Int) : Prop where
 len : Z.length = n
 row : 0 < n → ∃ b off, A = some ⟨b, off, none⟩ ∧ b < w.heap.size ∧ X b ∧ ∀ i, i < n → ∃ s B m c, w.cell? ⟨b, off + i * 2, none⟩ = some (.bool s) ∧ w.cell? ⟨b, off + i * 2 + 1, none⟩ = some (.slice B m c) ∧
  (∀ b off, B = some ⟨b, off, none⟩ → b < w.heap.size ∧ X b) ∧ NumAt w (.agg #[.bool s, .slice B m c]) (zAt Z i)
theorem NumsX.nil (X : Nat → Prop) (w : World) (A : Option Addr) : NumsX X w A 0 [] := ⟨rfl, fun h => by omega⟩
theorem NumAt.same {w w' : World} {s : Bool} {B : Option Addr} {m c : Nat} {z : Int} (h : NumAt w (.agg #[.bool s, .slice B m c]) z) (hs : w.heap.size ≤ w'.heap.size) (hk : ∀ b off, B = some ⟨b, off, none⟩ → w'.heap[b]? = w.heap[b]?) : NumAt w' (.agg #[.bool s, .slice B m c]) z := by
 obtain ⟨A, n, c', e, h1, h2, h3, h4⟩ := h
 injection e with e
 simp at e
 obtain ⟨rfl, rfl, rfl, rfl⟩ := e
 refine ⟨_, _, _, rfl, h1, h2, h3, h4.len, h4.dg, fun hp => ?_⟩
 obtain ⟨b, off, rfl, hb, hc⟩ := h4.row hp
 exact ⟨b, off, rfl, Nat.lt_of_lt_of_le hb hs, fun i hi => (World.cell?_of_block (w := w) (a := ⟨b, off + i, none⟩) (hk b off rfl)).trans (hc i hi)⟩
/-- What lies in blocks that stay as they are. -/
theorem NumsX.move {X Y : Nat → Prop} {w w' : World} {A : Option Addr} {n : Nat} {Z : List Int} (h : NumsX X w A n Z) (hs : w.heap.size ≤ w'.heap.size) (hk : ∀ b, b < w.heap.size → X b → w'.heap[b]? = w.heap[b]? ∧ Y b) : NumsX Y w' A n Z :=
 ⟨h.len, fun h0 => by
  obtain ⟨b, off, e, hlt, hX, hc⟩ := h.row h0
  refine ⟨b, off, e, Nat.lt_of_lt_of_le hlt hs, (hk b hlt hX).2, fun i hi => ?_⟩
  obtain ⟨s, B, m, c, h1, h2, h3, h4⟩ := hc i hi
  have hB := (hk b hlt hX).1
  refine ⟨s, B, m, c, (World.cell?_of_block (w := w) (a := ⟨b, off + i * 2, none⟩) hB).trans h1, (World.cell?_of_block (w := w) (a := ⟨b, off + i * 2 + 1, none⟩) hB).trans h2, fun b' off' e' => ?_, h4.same hs fun b' off' e' => ?_⟩
  ·obtain ⟨h5, h6⟩ := h3 b' off' e'
   exact ⟨Nat.lt_of_lt_of_le h5 hs, (hk b' h5 h6).2⟩
  ·obtain ⟨h5, h6⟩ := h3 b' off' e'
   exact (hk b' h5 h6).1⟩
theorem NumsX.below {X : Nat → Prop} {w w' : World} {A : Option Addr} {n : Nat} {Z : List Int} (h : NumsX X w A n Z) (hb : Below w.heap.size w w') : NumsX X w' A n Z :=
 h.move hb.size fun b hlt hX => ⟨hb.block b hlt, hX⟩
theorem NumsX.imp {X Y : Nat → Prop} {w : World} {A : Option Addr} {n : Nat} {Z : List Int} (h : NumsX X w A n Z) (hk : ∀ b, b < w.heap.size → X b → Y b) : NumsX Y w A n Z :=
 h.move (Nat.le_refl _) fun b hlt hX => ⟨rfl, hk b hlt hX⟩
theorem NumsX.keeps {X : Nat → Prop} {w u : World} {A : Option Addr} {n : Nat} {Z : List Int} (h : NumsX X w A n Z) (hk : Keeps [] w u) : NumsX X u A n Z :=
 h.move hk.1 fun b hlt hX => ⟨hk.2 b hlt (by simp), hX⟩
/-- A slice of digits whose block is X. -/
def OutB (X : Nat → Prop) (w : World) (v : Value) : Prop := ∃ A n c, v = .slice A n c ∧ ∀ b off, A = some ⟨b, off, none⟩ → b < w.heap.size ∧ X b
/-- Cells of numbers, one after the other; the blocks of their digits are X. -/
def RowC (X : Nat → Prop) (w : World) : List Value → List Int → Prop
 | [], [] => True
 | a :: v :: xs, z :: Z => (∃ s, a = .bool s) ∧ OutB X w v ∧ NumAt w (.agg #[a, v]) z ∧ RowC X w xs Z
 | _, _ => False
theorem RowC.move {X Y : Nat → Prop} {w w' : World} (hs : w.heap.size ≤ w'.heap.size) (hk : ∀ b, b < w.heap.size → X b → w'.heap[b]? = w.heap[b]? ∧ Y b) : ∀ {xs : List Value} {Z : List Int}, RowC X w xs Z → RowC Y w' xs Z
 | [], [], _ => trivial
 | _ :: _ :: _, _ :: _, h => by
  obtain ⟨⟨s, rfl⟩, ⟨B, m, c, rfl, h3⟩, h4, h5⟩ := h
  refine ⟨⟨s, rfl⟩, ⟨B, m, c, rfl, fun b off e => ?_⟩, h4.same hs fun b off e => ?_, RowC.move hs hk h5⟩
  ·obtain ⟨h6, h7⟩ := h3 b off e
   exact ⟨Nat.lt_of_lt_of_le h6 hs, (hk b h6 h7).2⟩
  ·obtain ⟨h6, h7⟩ := h3 b off e
   exact (hk b h6 h7).1
 | [], _ :: _, h => h.elim
 | [_], [], h => h.elim
 | [_], _ :: _, h => h.elim
 | _ :: _ :: _, [], h => h.elim
theorem RowC.below {X : Nat → Prop} {w w' : World} (hb : Below w.heap.size w w') {xs : List Value} {Z : List Int} (h : RowC X w xs Z) : RowC X w' xs Z :=
 h.move hb.size fun b hlt hX => ⟨hb.block b hlt, hX⟩
theorem RowC.grown {X Y : Nat → Prop} {w w' : World} {g : Option Nat} (hg : w.grownBy w' g) (hk : ∀ b, b < w.heap.size → X b → some b ≠ g ∧ Y b) {xs : List Value} {Z : List Int} (h : RowC X w xs Z) : RowC Y w' xs Z :=
 h.move hg.size fun b hlt hX => ⟨hg.block b hlt (hk b hlt hX).1, (hk b hlt hX).2⟩
theorem RowC.snoc {X : Nat → Prop} {w : World} {s : Bool} {v : Value} {z : Int} (h2 : OutB X w v) (h3 : NumAt w (.agg #[.bool s, v]) z) : ∀ {xs : List Value} {Z : List Int}, RowC X w xs Z → RowC X w (xs ++ [.bool s, v]) (Z ++ [z])
 | [], [], _ => ⟨⟨s, rfl⟩, h2, h3, trivial⟩
 | _ :: _ :: _, _ :: _, h => ⟨h.1, h.2.1, h.2.2.1, RowC.snoc h2 h3 h.2.2.2⟩
 | [], _ :: _, h => h.elim
 | [_], [], h => h.elim
 | [_], _ :: _, h => h.elim
 | _ :: _ :: _, [], h => h.elim
theorem RowC.at_ {X : Nat → Prop} {w : World} : ∀ {xs : List Value} {Z : List Int}, RowC X w xs Z → ∀ i, i < Z.length → ∃ s B m c, xs[i * 2]? = some (.bool s) ∧ xs[i * 2 + 1]? = some (.slice B m c) ∧ (∀ b off, B = some ⟨b, off, none⟩ → b < w.heap.size ∧ X b) ∧ NumAt w (.agg #[.bool s, .slice B m c]) (zAt Z i)
 | a :: v :: xs, z :: Z, h, 0, _ => by
  obtain ⟨⟨s, rfl⟩, ⟨B, m, c, rfl, h2⟩, h3, _⟩ := h
  exact ⟨s, B, m, c, rfl, rfl, h2, h3⟩
 | a :: v :: xs, z :: Z, h, i + 1, hi => by
  obtain ⟨s, B, m, c, h1, h2, h3, h4⟩ := RowC.at_ h.2.2.2 i (by simpa using hi)
  refine ⟨s, B, m, c, ?_, ?_, h3, h4⟩
  ·rw [show (i + 1) * 2 = i * 2 + 2 by omega]; exact h1
  ·rw [show (i + 1) * 2 + 1 = i * 2 + 1 + 2 by omega]; exact h2
 | [], [], _, _, h => by simp at h
 | [], _ :: _, h, _, _ => h.elim
 | [_], [], h, _, _ => h.elim
 | [_], _ :: _, h, _, _ => h.elim
 | _ :: _ :: _, [], h, _, _ => h.elim
/-- A value that is a row of numbers. -/
def RowV (X : Nat → Prop) (v : Value) (Z : List Int) (w' : World) : Prop := ∃ A c, v = .slice A Z.length c ∧ (0 < Z.length → ∃ b, A = some ⟨b, 0, none⟩) ∧ Z.length ≤ c ∧ c ≤ 9223372036854775807 ∧ NumsX X w' A Z.length Z
theorem row_of {X : Nat → Prop} {W : World} {base : Nat} {e : TypeId} {v : Value} {Z : List Int} {n : Nat} {xs : List Value} (hn : Z.length = n) (h : W.ownsRow base e 2 v n xs) (hr : RowC X W xs Z) (hX : ∀ b, base ≤ b → v.ownBlock = some b → X b) : RowV X v Z W := by
 subst hn
 rcases h.2 with ⟨rfl, h0⟩ | ⟨g, cap, cur, rfl, h1, h2, h3, h4, h5, h6⟩
 ·obtain rfl : Z = [] := List.eq_nil_of_length_eq_zero h0
  exact ⟨none, 0, rfl, fun h => by simp at h, by simp, by omega, NumsX.nil _ _ _⟩
 ·unfold maxLen at h4
  refine ⟨_, cap, rfl, fun _ => ⟨g, rfl⟩, h3, by omega, ⟨rfl, fun h0 => ⟨g, 0, rfl, ?_, hX g h1 rfl, fun i hi => ?_⟩⟩⟩
  ·rcases Nat.lt_or_ge g W.heap.size with hl | hl
   ·exact hl
   ·rw [Array.getElem?_eq_none hl] at h2; cases h2
  ·obtain ⟨s, B, m, c, e1, e2, e3⟩ := hr.at_ i hi
   have key : ∀ j x, xs[j]? = some x → W.cell? ⟨g, j, none⟩ = some x := fun j x hx => by
    rw [cell_of_row W g j cur e (0, 0) h2]
    rw [← h6, List.getElem?_take] at hx
    split at hx
    ·rw [← Array.getElem?_toList]; exact hx
    ·cases hx
   refine ⟨s, B, m, c, ?_, ?_, e3⟩
   ·rw [Nat.zero_add]; exact key _ _ e1
   ·rw [Nat.zero_add]; exact key _ _ e2
theorem ownsRow_stay {w w' : World} {base : Nat} {e : TypeId} {size : Nat} {v : Value} {n : Nat} {xs : List Value} (h : w.ownsRow base e size v n xs) (hb : Below w.heap.size w w') : w'.ownsRow base e size v n xs := by
 refine ⟨h.1, ?_⟩
 rcases h.2 with h1 | ⟨g, cap, cur, e1, e2, e3, e4⟩
 ·exact .inl h1
 ·refine .inr ⟨g, cap, cur, e1, e2, ?_, e4⟩
  exact (hb.block g (Array.getElem?_eq_some_iff.1 e3).1).trans e3
theorem ownBlock_lt {w : World} {base : Nat} {e : TypeId} {size : Nat} {v : Value} {n : Nat} {xs : List Value} (h : w.ownsRow base e size v n xs) {b : Nat} (hb : v.ownBlock = some b) : b < w.heap.size := by
 rcases h.2 with ⟨rfl, _⟩ | ⟨g, cap, cur, rfl, e2, e3, e4⟩
 ·cases hb
 ·cases hb; exact (Array.getElem?_eq_some_iff.1 e3).1
theorem slN_addr {z : Int} {b0 b off : Nat} {n c : Nat} (h : slN z b0 = .slice (some ⟨b, off, none⟩) n c) : b0 = b := by
 unfold slN at h
 split at h
 ·injection h with h; injection h with h; injection h
 ·injection h with h; cases h
/-- A number that a product of two still fits of. -/
def Sm (z : Int) : Prop := z.natAbs < 2 ^ 1000
theorem fits_iff {z : Int} : fits z = true ↔ z.natAbs < 4294967296 ^ 64 := ⟨fun h => digs_len.1 (of_decide_eq_true h), fun h => decide_eq_true (digs_len.2 h)⟩
theorem sm_top : 2 ^ 1000 * 2 ^ 1000 + 2 ^ 1000 * 2 ^ 1000 < 4294967296 ^ 64 := by decide +kernel
theorem Sm.mul_lt {a b : Int} (ha : Sm a) (hb : Sm b) : (a * b).natAbs < 2 ^ 1000 * 2 ^ 1000 := by
 rw [Int.natAbs_mul]
 have h1 : a.natAbs < 2 ^ 1000 := ha
 have h2 : b.natAbs < 2 ^ 1000 := hb
 revert h1 h2
 generalize 2 ^ 1000 = X
 intro h1 h2
 exact Nat.mul_lt_mul'' h1 h2
theorem Sm.mul {a b : Int} (ha : Sm a) (hb : Sm b) : fits (a * b) = true := by
 have h1 := ha.mul_lt hb
 have h2 := sm_top
 generalize 2 ^ 1000 * 2 ^ 1000 = X at *
 exact fits_iff.2 (Nat.lt_trans h1 (by omega))
theorem Sm.cross {a b c d : Int} (ha : Sm a) (hb : Sm b) (hc : Sm c) (hd : Sm d) : fits (a * b - c * d) = true := by
 have h1 := ha.mul_lt hb
 have h3 := hc.mul_lt hd
 have h2 := sm_top
 have h4 : (a * b - c * d).natAbs ≤ (a * b).natAbs + (c * d).natAbs := Int.natAbs_sub_le _ _
 generalize 2 ^ 1000 * 2 ^ 1000 = X at *
 exact fits_iff.2 (by omega)
theorem Sm.fits {a : Int} (ha : Sm a) : fits a = true := by
 have h1 : a.natAbs < 2 ^ 1000 := ha
 have h2 := sm_top
 have h3 := Nat.le_mul_of_pos_right (2 ^ 1000) (Nat.pow_pos (n := 1000) (show 0 < 2 by omega))
 generalize 2 ^ 1000 * 2 ^ 1000 = X at *
 exact fits_iff.2 (by omega)
/-- A row without a column, by the row that leads in it (Bareiss). -/
def combZ (R O : List Int) (j : Nat) (p : Int) : Nat → List Int
 | 0 => []
 | k + 1 => combZ R O j p k ++ [(zAt O j * zAt R k - zAt R j * zAt O k) / p]
theorem combZ_len (R O : List Int) (j : Nat) (p : Int) : ∀ k, (combZ R O j p k).length = k
 | 0 => rfl
 | k + 1 => by simp [combZ, combZ_len R O j p k]
end Go.Proofs.YtflgngjocgiojaaGreat
namespace Go.Proofs.YtflgngjocgiojaaGreat
open Go.RowKit

theorem infoN : (Tryz.prog.info? 35).map (fun i => (i.zero, i.size, i.bytes)) = some (some zeroN, 2, 32) := by kernel_rfl
theorem NumAt.form {w : World} {s : Bool} {v : Value} {z : Int} (h : NumAt w (.agg #[.bool s, v]) z) : ∃ A n c, v = .slice A n c ∧ s = decide (z < 0) := by
 obtain ⟨A, n, c, e, _⟩ := h
 injection e with e
 simp at e
 exact ⟨A, n, c, e.2, e.1⟩
set_option maxRecDepth 100000 in
set_option maxHeartbeats 4000000 in
theorem matrix_combine {w : World} {A1 A2 : Option Addr} {n j : Nat} {Z1 Z2 : List Int} {v : Value} {zb : Int} {X1 X2 : Nat → Prop} (c1 c2 : Nat) (h1 : NumsX X1 w A1 n Z1) (h2 : NumsX X2 w A2 n Z2) (h3 : NumAt w v zb) (h0 : zb ≠ 0) (hj : j < n) (hn : n ≤ 1000) (m1 : ∀ i, i < n → Sm (zAt Z1 i)) (m2 : ∀ i, i < n → Sm (zAt Z2 i)) :
  Calls Tryz.prog 99 #[.slice A1 n c1, .slice A2 n c2, .int .i64 j, v] w fun r w' => (∃ x, r = .returned x ∧ RowV (fun b => w.heap.size ≤ b) x (combZ Z1 Z2 j zb n) w') ∧ Below w.heap.size w w' := by
 obtain ⟨i0, hi, hz0, hz1, hz2⟩ := info_parts infoN
 have M1 := Lib.hid m1
 have M2 := Lib.hid m2
 have H1 := Lib.hid h1
 have H2 := Lib.hid h2
 have G3 := Lib.hid h3
 have Z0 := Lib.hid h0
 obtain ⟨A3, n3, c3, rfl, hc3, hm3, hl3, d3⟩ := h3
 obtain ⟨s3, hs3⟩ : ∃ s, decide (zb < 0) = s := ⟨_, rfl⟩
 rw [hs3] at G3 ⊢
 have HS3 := Lib.hid hs3
 clear m1 m2 h1 h2 h0 d3 hs3
 have hjn : (j : Int) < (n : Int) := by omega
 go_enter Tryz.func99, Tryz.ntmps99
 have hW := (Below.refl w.heap.size w).alloc (Nat.le_refl _) (.cells #[.bool s3, .slice A3 n3 c3] 35)
 have o7 : Own (w.alloc (.cells #[.bool s3, .slice A3 n3 c3] 35)) w.heap.size #[.bool s3, .slice A3 n3 c3] := (by repeat' (first | ((refine Own.new ?_); (focus (first | rfl | omega | (simp; done) | (simp; omega)))) | assumption | refine Own.alloc ?_ _ | refine Own.drew ?_ | (refine Own.far ?_ ?_ _; rotate_left; (focus (first | rfl | omega | (simp; done) | (simp; omega))))))
 have hsz : (w.alloc (.cells #[.bool s3, .slice A3 n3 c3] 35)).heap.size = w.heap.size + 1 := by simp
 go_wp2
 generalize (w.alloc (.cells #[.bool s3, .slice A3 n3 c3] 35)) = W0 at *
 go_loopw [10, 16] (fun v i wr => ∃ (k : Nat) (xs : List Value), k ≤ n ∧ i = .int .i64 k ∧ Below w.heap.size w wr ∧ w.heap.size + 1 ≤ wr.heap.size ∧ Own wr w.heap.size #[.bool s3, .slice A3 n3 c3] ∧ wr.ownsRow (w.heap.size + 1) 35 2 v k xs ∧ RowC (fun b => w.heap.size ≤ b ∧ some b ≠ v.ownBlock) wr xs (combZ Z1 Z2 j zb k)) (fun _ i _ => n - (intOf i).toNat)
 case atStart => exact ⟨0, [], by omega, rfl, hW, by omega, o7, ⟨rfl, .inl ⟨rfl, rfl⟩⟩, trivial⟩
 case round =>
  obtain ⟨k, xs, hk, rfl, hbel, hsz1, o7, hown, hrow⟩ := hrel
  have HO := Lib.hid hown
  have HC := Lib.hid hrow
  have OL : Hid (∀ b, u10.ownBlock = some b → b < wr.heap.size) := Lib.hid (fun b hb => ownBlock_lt hown hb)
  clear hown hrow hsz hW
  by_cases hlt : k < n
  ·have hlt2 : (k : Int) < (n : Int) := by omega
   have hkb := hbel.size
   obtain ⟨b2, off2, hA2, hb2, -, q2⟩ := (H2.out.below hbel).row (by omega)
   obtain ⟨b1, off1, hA1, hb1, -, q1⟩ := (H1.out.below hbel).row (by omega)
   subst hA1 hA2
   obtain ⟨sP, EP, lP, dP, p1, p2, -, NP⟩ := q2 j hj
   obtain ⟨sQ, EQ, lQ, dQ, p3, p4, -, NQ⟩ := q1 k hlt
   obtain ⟨sR, ER, lR, dR, p5, p6, -, NR⟩ := q1 j hj
   obtain ⟨sS, ES, lS, dS, p7, p8, -, NS⟩ := q2 k hlt
   have yP := M2.out j hj
   have yQ := M1.out k hlt
   have yR := M1.out j hj
   have yS := M2.out k hlt
   obtain ⟨zP, hzP⟩ : ∃ z, zAt Z2 j = z := ⟨_, rfl⟩
   obtain ⟨zQ, hzQ⟩ : ∃ z, zAt Z1 k = z := ⟨_, rfl⟩
   obtain ⟨zR, hzR⟩ : ∃ z, zAt Z1 j = z := ⟨_, rfl⟩
   obtain ⟨zS, hzS⟩ : ∃ z, zAt Z2 k = z := ⟨_, rfl⟩
   rw [hzP] at NP yP
   rw [hzQ] at NQ yQ
   rw [hzR] at NR yR
   rw [hzS] at NS yS
   obtain ⟨pq, hpq⟩ : ∃ z, zP * zQ = z := ⟨_, rfl⟩
   obtain ⟨rs, hrs⟩ : ∃ z, zR * zS = z := ⟨_, rfl⟩
   obtain ⟨df, hdf⟩ : ∃ z, pq - rs = z := ⟨_, rfl⟩
   have f1 := yP.mul yQ
   have f2 := yR.mul yS
   have f3 := yP.cross yQ yR yS
   rw [hpq] at f1 f3
   rw [hrs] at f2 f3
   rw [hdf] at f3
   have HF := Lib.hid (And.intro f1 (And.intro f2 f3))
   have HE : Hid (combZ Z1 Z2 j zb (k + 1) = combZ Z1 Z2 j zb k ++ [df / zb]) := Lib.hid (by rw [combZ, hzP, hzQ, hzR, hzS, hpq, hrs, hdf])
   have HP := Lib.hid (And.intro hpq (And.intro hrs hdf))
   have KP := Lib.hid NP
   have KQ := Lib.hid NQ
   have KR := Lib.hid NR
   have KS := Lib.hid NS
   clear hzP hzQ hzR hzS hpq hrs hdf f1 f2 f3 NP NQ NR NS yP yQ yR yS q1 q2
   go_wp2
   refine region_gen (T := []) [.make 9 [] (valB _ pq), .make 19 [] (valB _ rs), .make 20 [9, 19] (numB _ df), .need 21 [20], .need 23 [], .make 24 [] (ownB [] #[.bool false, .slice none 0 0] (fun p => .pointer (some ⟨p, 0, none⟩)))] 25 0 40 (fun _ _ => True) (fun _ _ _ _ _ => trivial) trivial (by kernel_rfl) (by kernel_rfl) (by rfl) ?_
   unfold genWalk
   apply Exists.intro
   apply And.intro
   ·apply Piece.mk
    ·intro f v hv hr hne
     simp only [List.take_succ_cons, List.take_zero, List.drop_zero, Nat.reduceSub]
     have d1 := later_cell (T := []) (w := wr) (v := v) hb2 (by simp) p1
     have d2 := later_cell (T := []) (w := wr) (v := v) hb2 (by simp) p2
     have d3 := later_cell (T := []) (w := wr) (v := v) hb1 (by simp) p3
     have d4 := later_cell (T := []) (w := wr) (v := v) hb1 (by simp) p4
     repeat (go_big_quiet_step (fail))
     refine wpQuiet_nil ?_
     exact rfl
    ·intro f; kernel_rfl
    ·intro f f' hf; kernel_rfl
   simp only [List.take_succ_cons, List.take_zero, List.drop_succ_cons, List.drop_zero, Nat.reduceAdd, oneOp]
   refine ⟨fun f => ⟨rfl, fun u hu _ => ?_⟩, ?_⟩
   ·refine make_call (f := 126) (args := #[.agg #[.bool sP, .slice EP lP dP], .agg #[.bool sQ, .slice EQ lQ dQ]]) (by (try simp only [Act.put, List.setIfInBounds_toArray, List.set_cons_zero, List.set_cons_succ]); (try simp only [newB_val, numB_val, ownB_val, valB_val]); go_simp) ?_
    have q := matrix_mul (w := u) (NumAt.keeps KP.out hu) (NumAt.keeps KQ.out hu)
    rw [HP.out.1] at q
    refine q.mono ?_
    rintro e wx ⟨⟨b, rfl, q1, q2, q3⟩, hbx⟩
    exact ⟨(b, 0), rfl, q2, q3, hbx, (by simp), q1⟩
   unfold genWalk
   apply Exists.intro
   apply And.intro
   ·apply Piece.mk
    ·intro f v hv hr hne
     simp only [List.take_succ_cons, List.take_zero, List.drop_succ_cons, List.drop_zero, Nat.reduceSub]
     (try simp only [Act.put, List.setIfInBounds_toArray, List.set_cons_zero, List.set_cons_succ])
     (try simp only [valB_val, numV])
     have d5 := later_cell (T := []) (w := wr) (v := v) hb1 (by simp) p5
     have d6 := later_cell (T := []) (w := wr) (v := v) hb1 (by simp) p6
     have d7 := later_cell (T := []) (w := wr) (v := v) hb2 (by simp) p7
     have d8 := later_cell (T := []) (w := wr) (v := v) hb2 (by simp) p8
     repeat (go_big_quiet_step (fail))
     refine wpQuiet_nil ?_
     exact rfl
    ·intro f; kernel_rfl
    ·intro f f' hf; simp
   simp only [List.take_succ_cons, List.take_zero, List.drop_succ_cons, List.drop_zero, Nat.reduceAdd, oneOp]
   refine ⟨fun f => ⟨rfl, fun u hu _ => ?_⟩, ?_⟩
   ·refine make_call (f := 126) (args := #[.agg #[.bool sR, .slice ER lR dR], .agg #[.bool sS, .slice ES lS dS]]) (by (try simp only [Act.put, List.setIfInBounds_toArray, List.set_cons_zero, List.set_cons_succ]); (try simp only [newB_val, numB_val, ownB_val, valB_val]); go_simp) ?_
    have q := matrix_mul (w := u) (NumAt.keeps KR.out hu) (NumAt.keeps KS.out hu)
    rw [HP.out.2.1] at q
    refine q.mono ?_
    rintro e wx ⟨⟨b, rfl, q1, q2, q3⟩, hbx⟩
    exact ⟨(b, 0), rfl, q2, q3, hbx, (by simp), q1⟩
   unfold genWalk
   apply Exists.intro
   apply And.intro
   ·apply Piece.mk
    ·intro f v hv hr hne
     simp only [List.take_zero, List.drop_succ_cons, List.drop_zero, Nat.reduceSub]
     (try simp only [Act.put, List.setIfInBounds_toArray, List.set_cons_zero, List.set_cons_succ])
     (try simp only [valB_val, numV])
     repeat (go_big_quiet_step (fail))
     refine wpQuiet_nil ?_
     exact rfl
    ·intro f; kernel_rfl
    ·intro f f' hf; simp
   simp only [List.take_succ_cons, List.take_zero, List.drop_succ_cons, List.drop_zero, Nat.reduceAdd, oneOp]
   refine ⟨fun f => ⟨rfl, fun u hu hm => ?_⟩, ?_⟩
   ·refine make_call (f := 104) (args := #[.agg #[.bool (sgnN pq), slN pq (f 9).1], .agg #[.bool (sgnN rs), slN rs (f 19).1]]) (by (try simp only [Act.put, List.setIfInBounds_toArray, List.set_cons_zero, List.set_cons_succ]); (try simp only [newB_val, numB_val, ownB_val, valB_val]); go_simp) ?_
    have e1 : NumO u (f 9).1 pq := (show (valB [] pq).R (f 9) u from hm 9 (by simp)).2
    have e2 : NumO u (f 19).1 rs := (show (valB [] rs).R (f 19) u from hm 19 (by simp)).2
    have q := num_Sub (w := u) (e1.at_ HF.out.1) (e2.at_ HF.out.2.1)
    rw [HP.out.2.2] at q
    refine q.mono ?_
    rintro e wx ⟨⟨b, rfl, q1, q2, q3⟩, hbx⟩
    exact ⟨(b, 0), rfl, q1, q2, hbx, (by simp), q3⟩
   unfold genWalk
   apply Exists.intro
   apply And.intro
   ·apply Piece.mk
    ·intro f v hv hr hne
     simp only [List.take_zero, List.drop_succ_cons, List.drop_zero, Nat.reduceSub]
     (try simp only [Act.put, List.setIfInBounds_toArray, List.set_cons_zero, List.set_cons_succ])
     (try simp only [numB_val, numV])
     repeat (go_big_quiet_step (fail))
     refine wpQuiet_nil ?_
     exact rfl
    ·intro f; kernel_rfl
    ·intro f f' hf; simp
   unfold genWalk
   apply Exists.intro
   apply And.intro
   ·apply Piece.mk
    ·intro f v hv hr hne
     simp only [List.take_succ_cons, List.take_zero, List.drop_succ_cons, List.drop_zero, Nat.reduceSub]
     (try simp only [Act.put, List.setIfInBounds_toArray, List.set_cons_zero, List.set_cons_succ])
     (try simp only [newB_val, numB_val, ownB_val, valB_val, numV])
     repeat (go_big_quiet_step (fail))
     refine wpQuiet_nil ?_
     exact rfl
    ·intro f; kernel_rfl
    ·intro f f' hf; first | (simp; done) | (simp [hf 20 (by simp)])
   unfold genWalk
   apply Exists.intro
   apply And.intro
   ·apply Piece.mk
    ·intro f v hv hr hne
     simp only [List.take_succ_cons, List.take_zero, List.drop_succ_cons, List.drop_zero, Nat.reduceSub]
     (try simp only [Act.put, List.setIfInBounds_toArray, List.set_cons_zero, List.set_cons_succ])
     (try simp only [newB_val, numB_val, ownB_val, valB_val, numV])
     repeat (go_big_quiet_step (fail))
     refine wpQuiet_nil ?_
     exact rfl
    ·intro f; kernel_rfl
    ·intro f f' hf; simp
   simp only [List.take_succ_cons, List.take_zero, List.drop_succ_cons, List.drop_zero, Nat.reduceAdd, oneOp]
   refine ⟨fun f => ⟨rfl, fun u hu _ => ?_⟩, ?_⟩
   ·refine make_own (e := 35) (by (try simp only [Act.put, List.setIfInBounds_toArray, List.set_cons_zero, List.set_cons_succ]); (try simp only [newB_val, numB_val, ownB_val]); go_simp) (by simp)
   unfold genWalk
   apply Exists.intro
   apply And.intro
   ·apply Piece.mk
    ·intro f v hv hr hne
     simp only [List.take_zero, List.drop_succ_cons, List.drop_zero, Nat.reduceSub]
     (try simp only [Act.put, List.setIfInBounds_toArray, List.set_cons_zero, List.set_cons_succ])
     (try simp only [ownB_val])
     repeat (go_big_quiet_step (fail))
     refine wpQuiet_nil ?_
     exact rfl
    ·intro f; kernel_rfl
    ·intro f f' hf; simp
   intro f u' hup hph hmade hdist
   obtain ⟨⟨hT1, oN⟩, loN, hiN⟩ := hmade 20 (by omega) rfl
   obtain ⟨⟨hT2, qO⟩, loO, hiO⟩ := hmade 24 (by omega) rfl
   have e5 := hdist 20 24 (by omega) (by omega) rfl rfl (by omega)
   replace oN : NumO u' (f 20).1 df := oN
   replace qO : Own u' (f 24).1 #[.bool false, .slice none 0 0] := qO
   clear hmade hdist hph hT1 hT2
   simp only
   (try simp only [Act.put, List.setIfInBounds_toArray, List.set_cons_zero, List.set_cons_succ])
   (try simp only [newB_val, numB_val, ownB_val, valB_val])
   generalize (f 20).1 = b1 at *
   generalize (f 24).1 = b12 at *
   generalize (f 9).1 = b9 at *
   generalize (f 19).1 = b19 at *
   clear f
   obtain ⟨A7, n7, c7, hs7⟩ := slN_form df b1
   try simp only [numV]
   rw [hs7, HF.out.2.2]
   have HSL := Lib.hid hs7
   clear hs7
   have hwu : Below wr.heap.size wr u' := Upd.below (Below.refl _ _) hup (by simp)
   have o7' := o7.upd hup (by simp)
   have hkT := Upd.keeps (Keeps.refl _ _) hup
   have qOc := qO.cell
   have qOf := qO.thaw
   have hz7 := o7.lt
   clear hup
   refine effc_mem (by rfl) (fun K hK => ?_)
   go_simp
   refine hK _ _ ((hkT.new (p := ⟨b12, 0, none⟩) loO (.bool (sgnN df))).new (p := ⟨b12, 1, none⟩) loO (.slice A7 n7 c7)) (fun u3 hu3 => ?_)
   clear hK K
   have hs3 := hu3.size
   simp [World.setCell] at hs3
   have hwu1 := ((hwu.setCell (p := ⟨b12, 0, none⟩) loO (.bool (sgnN df))).setCell (p := ⟨b12, 1, none⟩) loO (.slice A7 n7 c7)).trans (hu3.mono (by simp [World.setCell]; exact hwu.size))
   have r12 := ((qO.set 0 (.bool (sgnN df))).set 1 (.slice A7 n7 c7)).below hu3
   have r7 := ((o7'.far (p := ⟨b12, 0, none⟩) (by simp; omega) (.bool (sgnN df))).far (p := ⟨b12, 1, none⟩) (by simp; omega) (.slice A7 n7 c7)).below hu3
   have oN1 := NumO.below ((oN.far (p := ⟨b12, 0, none⟩) e5 (.bool (sgnN df))).far (p := ⟨b12, 1, none⟩) e5 (.slice A7 n7 c7)) hu3
   have hk1 := ((hkT.new (p := ⟨b12, 0, none⟩) loO (.bool (sgnN df))).new (p := ⟨b12, 1, none⟩) loO (.slice A7 n7 c7)).later hu3
   clear qO qOc qOf oN hkT hu3 o7' hwu
   refine effc_mem (by rfl) (fun K hK => ?_)
   go_simp
   refine hK _ _ hk1 (fun u4 hu4 => ?_)
   clear hK K
   replace r12 := r12.below hu4
   replace r7 := r7.below hu4
   replace oN1 := oN1.below hu4
   have hwu2 := hwu1.trans (hu4.mono hwu1.size)
   have hs4 := hu4.size
   clear hwu1 hk1 hu4
   refine effc_nil ?_
   (try simp only [Act.put, List.setIfInBounds_toArray, List.set_cons_zero, List.set_cons_succ])
   have r12c := r12.cell
   have r7c := r7.cell
   have N1 := oN1.at_ HF.out.2.2
   unfold numV at N1
   rw [HSL.out] at N1
   have HN := Lib.hid (And.intro N1 ((G3.out.below hbel).below hwu2))
   clear N1 oN1
   go_wp2_with fail
   have q := matrix_quotient HN.out.1 HN.out.2 Z0.out
   obtain ⟨zq, hzq⟩ : ∃ z, df / zb = z := ⟨_, rfl⟩
   have fq := fits_div Z0.out HF.out.2.2
   rw [hzq] at q fq
   replace HE : Hid (combZ Z1 Z2 j zb (k + 1) = combZ Z1 Z2 j zb k ++ [zq]) := Lib.hid (by rw [HE.out, hzq])
   have HQ := Lib.hid fq
   clear hzq fq
   refine Calls.mono q ?_
   clear q
   rintro e u5 ⟨⟨b3, rfl, g1, g2, g3⟩, hb⟩
   obtain ⟨A8, n8, c8, hs8⟩ := slN_form zq b3
   have N5 := g1.at_ HQ.out
   simp only [numV] at N5 ⊢
   rw [hs8] at N5 ⊢
   have hw5 := hwu2.trans (hb.mono hwu2.size)
   have N5 := Lib.hid N5
   have O5 := Lib.hid (ownsRow_stay HO.out hw5)
   have C5 := Lib.hid (HC.out.below hw5)
   have s7 := r7.below hb
   have hz5 := hw5.size
   have B5 := Lib.hid (hbel.trans (hw5.mono hkb))
   have OB : Hid (∀ b off, A8 = some ⟨b, off, none⟩ → u4.heap.size ≤ b ∧ b < u5.heap.size) := Lib.hid (fun b off e => by
    subst e
    have h9 := slN_addr hs8
    subst h9
    exact ⟨g2, g3⟩)
   clear hs8 g1 g2 g3 hb r7 r7c r12 r12c hwu2 HN
   go_wp2_with (at_builtin; refine wpList_append_lies _ rfl _ _ _ (by rfl) (w.heap.size + 1) 35 i0 zeroN 2 32 Tryz.underlying49 hi hz0 hz1 hz2 rfl (by omega) _ k xs (by rfl) (O5.out.alloc _) ⟨u5.heap.size, 0, none⟩ 1 1 [.bool (sgnN zq), .slice A8 n8 c8] (by rfl) rfl ?c1 ?c2 (by omega) ?c3 ?c4 ?c5 (u5.heap.size + 1) (by simp) ?_)
   case c1 => exact World.news_of_block (heap_alloc_new u5 _)
   case c2 => intro u hu; simp at hu; rcases hu with rfl | rfl <;> rfl
   case c3 => unfold maxLen; omega
   case c4 => omega
   case c5 => simp; omega
   intro g c w6 ho6 hg6 hat hlt6
   have hob : ∀ b, _ = some b → w.heap.size + 1 ≤ b := fun b hb => ownBlock_ge (O5.out) hb
   have B6 := Lib.hid (Below.grown (B5.out.alloc (by omega) (.cells #[.bool (sgnN zq), .slice A8 n8 c8] 35)) hg6 (by simp; omega) (fun b hb => by have := hob b hb; omega))
   have s6 := hg6.size
   simp at s6
   have t7 : Own w6 w.heap.size #[.bool s3, .slice A3 n3 c3] := (s7.alloc (.cells #[.bool (sgnN zq), .slice A8 n8 c8] 35)).of_block (hg6.block _ (by simp; omega) (fun e => by have := hob _ e.symm; omega))
   have hc6 : RowC (fun b => w.heap.size ≤ b ∧ some b ≠ some g) w6 (xs ++ [.bool (sgnN zq), .slice A8 n8 c8]) (combZ Z1 Z2 j zb (k + 1)) := by
    rw [HE.out]
    have hb5 : Below u5.heap.size u5 (u5.alloc (.cells #[.bool (sgnN zq), .slice A8 n8 c8] 35)) := (Below.refl _ _).alloc (Nat.le_refl _) _
    refine RowC.grown hg6 (fun b hb hX => ⟨hX.2.1, hX.1, fun e => by
     cases e
     rcases hat with h | h
     ·exact hX.2.1 h.symm
     ·have := hX.2.2; omega⟩) (X := fun b => w.heap.size ≤ b ∧ some b ≠ u10.ownBlock ∧ b < u5.heap.size) (RowC.snoc ?_ (N5.out.below hb5) (RowC.move hb5.size (fun b hb hX => ⟨hb5.block b hb, hX.1, hX.2, hb⟩) C5.out))
    exact ⟨_, _, _, rfl, fun b off e => by
     have h9 := OB.out b off e
     exact ⟨by simp; omega, by omega, fun e => by have := OL.out _ e.symm; omega, h9.2⟩⟩
   have HC6 := Lib.hid hc6
   have HO6 := Lib.hid ho6
   clear hc6 ho6 hg6 hat hob s7
   go_wp2
   go_roundw
   case rel => exact ⟨k + 1, _, by omega, by go_num, B6.out, by omega, t7, HO6.out, HC6.out⟩
   case measure => simp [intOf]; omega
  ·have hk2 : k = n := by omega
   subst hk2
   have q := row_of (X := fun b => w.heap.size ≤ b) (combZ_len Z1 Z2 j zb k) HO.out (RowC.move (Nat.le_refl _) (fun b _ hX => ⟨rfl, hX.1⟩) HC.out) (fun b h _ => by omega)
   rw [← show combZ Z1 Z2 j zb k = combZ Z1 Z2 j zb k from rfl] at q
   have HQ := Lib.hid q
   have ev := q
   obtain ⟨Ao, co, rfl, -⟩ := q
   clear ev
   go_wp2
   go_ret
   exact ⟨⟨_, rfl, HQ.out⟩, hbel⟩
end Go.Proofs.YtflgngjocgiojaaGreat
