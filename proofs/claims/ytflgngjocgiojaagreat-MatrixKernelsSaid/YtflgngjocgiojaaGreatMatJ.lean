/- Matrix: ratios in memory, and in plain numbers. -/
import Derived.Test.YtflgngjocgiojaaGreatRatN
import Derived.Test.YtflgngjocgiojaaGreatRatL
namespace Go.Proofs.YtflgngjocgiojaaGreat
open Go.RowKit

/-- A ratio in lowest terms, as a pair. -/
abbrev QI := Int × Int
def mulQ (a b : QI) : QI := (ofN (a.1 * b.1) (a.2 * b.2), ofD (a.1 * b.1) (a.2 * b.2))
def subQ (a b : QI) : QI := (ofN (a.1 * b.2 + -b.1 * a.2) (a.2 * b.2), ofD (a.1 * b.2 + -b.1 * a.2) (a.2 * b.2))
def addQ (a b : QI) : QI := (ofN (a.1 * b.2 + b.1 * a.2) (a.2 * b.2), ofD (a.1 * b.2 + b.1 * a.2) (a.2 * b.2))
def divQ (a b : QI) : QI := (ofN (a.1 * b.2) (a.2 * b.1), ofD (a.1 * b.2) (a.2 * b.1))
/-- Good and small. -/
def SmQ (a : QI) : Prop := goodQ a.1 a.2 = true ∧ Sm a.1 ∧ Sm a.2
theorem ofN_one (z : Int) : ofN z 1 = z := by
 unfold ofN
 rw [if_neg (by omega)]
 simp
theorem ofD_one (z : Int) : ofD z 1 = 1 := by
 unfold ofD
 rw [if_neg (by omega)]
 simp
theorem good_one (z : Int) : goodQ z 1 = true := by unfold goodQ; simp
theorem p_one : (1 : Int).natAbs < 2 ^ 1000 := by decide +kernel
theorem Sm.one : Sm 1 := p_one
theorem Sm.neg {z : Int} (h : Sm z) : Sm (-z) := by unfold Sm; rw [Int.natAbs_neg]; exact h
theorem sm_sum {a b c d : Int} (ha : Sm a) (hb : Sm b) (hc : Sm c) (hd : Sm d) : fits (a * b + c * d) = true := by
 have := ha.cross hb hc.neg hd
 rw [Int.neg_mul, Int.sub_neg] at this
 exact this
theorem SmQ.int {z : Int} (h : Sm z) : SmQ (z, 1) := ⟨good_one z, h, Sm.one⟩
/-- The digits of a ratio lie in blocks that are X; it is p / q. -/
def RatX (X : Nat → Prop) (W : World) (s1 : Bool) (A1 : Option Addr) (n1 c1 : Nat) (s2 : Bool) (A2 : Option Addr) (n2 c2 : Nat) (p q : Int) : Prop :=
 (∀ b off, A1 = some ⟨b, off, none⟩ → b < W.heap.size ∧ X b) ∧ (∀ b off, A2 = some ⟨b, off, none⟩ → b < W.heap.size ∧ X b) ∧ NumAt W (.agg #[.bool s1, .slice A1 n1 c1]) p ∧ NumAt W (.agg #[.bool s2, .slice A2 n2 c2]) q
section
variable {X Y : Nat → Prop} {W W' : World} {s1 s2 : Bool} {A1 A2 : Option Addr} {n1 c1 n2 c2 : Nat} {p q : Int}
theorem RatX.at_ (h : RatX X W s1 A1 n1 c1 s2 A2 n2 c2 p q) : RatAt W (.agg #[.bool s1, .slice A1 n1 c1, .bool s2, .slice A2 n2 c2]) p q := ⟨_, _, _, _, _, _, _, _, rfl, h.2.2.1, h.2.2.2⟩
theorem RatX.move (h : RatX X W s1 A1 n1 c1 s2 A2 n2 c2 p q) (hs : W.heap.size ≤ W'.heap.size) (hk : ∀ b, b < W.heap.size → X b → W'.heap[b]? = W.heap[b]? ∧ Y b) : RatX Y W' s1 A1 n1 c1 s2 A2 n2 c2 p q :=
 ⟨fun b off e => ⟨Nat.lt_of_lt_of_le (h.1 b off e).1 hs, (hk b (h.1 b off e).1 (h.1 b off e).2).2⟩, fun b off e => ⟨Nat.lt_of_lt_of_le (h.2.1 b off e).1 hs, (hk b (h.2.1 b off e).1 (h.2.1 b off e).2).2⟩,
  h.2.2.1.same hs fun b off e => (hk b (h.1 b off e).1 (h.1 b off e).2).1, h.2.2.2.same hs fun b off e => (hk b (h.2.1 b off e).1 (h.2.1 b off e).2).1⟩
theorem RatX.below (h : RatX X W s1 A1 n1 c1 s2 A2 n2 c2 p q) (hb : Below W.heap.size W W') : RatX X W' s1 A1 n1 c1 s2 A2 n2 c2 p q := h.move hb.size fun b hlt hX => ⟨hb.block b hlt, hX⟩
end
/-- What `ratV` says of its blocks. -/
theorem ratX_of {W : World} {p q : Int} {b1 b2 : Nat} {X : Nat → Prop} (h1 : NumO W b1 p) (h2 : NumO W b2 q) (f1 : fits p = true) (f2 : fits q = true) (l1 : b1 < W.heap.size) (l2 : b2 < W.heap.size) (x1 : X b1) (x2 : X b2) {A1 A2 : Option Addr} {n1 c1 n2 c2 : Nat} (e1 : slN p b1 = .slice A1 n1 c1) (e2 : slN q b2 = .slice A2 n2 c2) :
  RatX X W (sgnN p) A1 n1 c1 (sgnN q) A2 n2 c2 p q := by
 have g1 := h1.at_ f1
 have g2 := h2.at_ f2
 unfold numV at g1 g2
 rw [e1] at g1
 rw [e2] at g2
 refine ⟨fun b off e => ?_, fun b off e => ?_, g1, g2⟩
 ·subst e
  have := slN_addr e1
  subst this
  exact ⟨l1, x1⟩
 ·subst e
  have := slN_addr e2
  subst this
  exact ⟨l2, x2⟩
/-- Block b holds the ratio a. -/
def BoxR (W : World) (b : Nat) (a : QI) : Prop := ∃ s1 A1 n1 c1 s2 A2 n2 c2, Own W b #[.bool s1, .slice A1 n1 c1, .bool s2, .slice A2 n2 c2] ∧ RatX (fun x => x ≠ b) W s1 A1 n1 c1 s2 A2 n2 c2 a.1 a.2
theorem BoxR.below {W W' : World} {b : Nat} {a : QI} (h : BoxR W b a) (hb : Below W.heap.size W W') : BoxR W' b a := by
 obtain ⟨s1, A1, n1, c1, s2, A2, n2, c2, ho, hr⟩ := h
 exact ⟨s1, A1, n1, c1, s2, A2, n2, c2, ho.below hb, hr.below hb⟩
/-- Block b holds the ratios x i, for i from lo to n. -/
def RatsO (W : World) (b : Nat) (x : Nat → QI) (lo n : Nat) : Prop := ∃ cs, OwnT W b cs 37 ∧ cs.size = n * 4 ∧ ∀ i, lo ≤ i → i < n → ∃ s1 A1 n1 c1 s2 A2 n2 c2, cs[i * 4]? = some (.bool s1) ∧ cs[i * 4 + 1]? = some (.slice A1 n1 c1) ∧ cs[i * 4 + 2]? = some (.bool s2) ∧ cs[i * 4 + 3]? = some (.slice A2 n2 c2) ∧ RatX (fun y => y ≠ b) W s1 A1 n1 c1 s2 A2 n2 c2 (x i).1 (x i).2
theorem RatsO.below {W W' : World} {b : Nat} {x : Nat → QI} {lo n : Nat} (h : RatsO W b x lo n) (hb : Below W.heap.size W W') : RatsO W' b x lo n := by
 obtain ⟨cs, ho, hz, hc⟩ := h
 refine ⟨cs, ho.below hb, hz, fun i h1 h2 => ?_⟩
 obtain ⟨s1, A1, n1, c1, s2, A2, n2, c2, e1, e2, e3, e4, hr⟩ := hc i h1 h2
 exact ⟨s1, A1, n1, c1, s2, A2, n2, c2, e1, e2, e3, e4, hr.below hb⟩
theorem OwnT.set_ {w : World} {b : Nat} {cs : Array Value} {T : TypeId} (h : OwnT w b cs T) (i : Nat) (x : Value) : OwnT (w.setCell ⟨b, i, none⟩ x) b (cs.setIfInBounds i x) T := by
 have h1 : w.heap[b]? = some (.cells cs T (0, 0)) := h
 show (w.setCell ⟨b, i, none⟩ x).heap[b]? = _
 simp [World.setCell, Array.getElem?_modify, h1]
/-- Four cells are stored. -/
def put4 (W : World) (b o : Nat) (v1 v2 v3 v4 : Value) : World := (((W.setCell ⟨b, o, none⟩ v1).setCell ⟨b, o + 1, none⟩ v2).setCell ⟨b, o + 2, none⟩ v3).setCell ⟨b, o + 3, none⟩ v4
theorem put4_size (W : World) (b o : Nat) (v1 v2 v3 v4 : Value) : (put4 W b o v1 v2 v3 v4).heap.size = W.heap.size := by simp [put4, World.setCell]
theorem put4_block (W : World) (b o : Nat) (v1 v2 v3 v4 : Value) (y : Nat) (hy : y ≠ b) : (put4 W b o v1 v2 v3 v4).heap[y]? = W.heap[y]? :=
 (((Below.heap_setCell _ _ _ y hy).trans (Below.heap_setCell _ _ _ y hy)).trans (Below.heap_setCell _ _ _ y hy)).trans (Below.heap_setCell _ _ _ y hy)
theorem put4_own {W : World} {b : Nat} {cs : Array Value} {T : TypeId} (h : OwnT W b cs T) (o : Nat) (v1 v2 v3 v4 : Value) : ∃ cs', OwnT (put4 W b o v1 v2 v3 v4) b cs' T ∧ cs'.size = cs.size ∧ (o + 3 < cs.size → cs'[o]? = some v1 ∧ cs'[o + 1]? = some v2 ∧ cs'[o + 2]? = some v3 ∧ cs'[o + 3]? = some v4) ∧ ∀ j, (j < o ∨ o + 3 < j) → cs'[j]? = cs[j]? := by
 refine ⟨_, (((h.set_ o v1).set_ (o + 1) v2).set_ (o + 2) v3).set_ (o + 3) v4, by simp, fun hz => ⟨?_, ?_, ?_, ?_⟩, fun j hj => ?_⟩
 ·simp [Array.getElem?_setIfInBounds]; omega
 ·simp [Array.getElem?_setIfInBounds]; omega
 ·simp [Array.getElem?_setIfInBounds]; omega
 ·simp [Array.getElem?_setIfInBounds]; omega
 ·rw [Array.getElem?_setIfInBounds_ne (by omega), Array.getElem?_setIfInBounds_ne (by omega), Array.getElem?_setIfInBounds_ne (by omega), Array.getElem?_setIfInBounds_ne (by omega)]
/-- A ratio is stored. -/
theorem RatsO.set {W : World} {b : Nat} {x y : Nat → QI} {lo lo' k n : Nat} (h : RatsO W b x lo n) (hk : k < n) {s1 s2 : Bool} {A1 A2 : Option Addr} {n1 c1 n2 c2 : Nat} (hr : RatX (fun y => y ≠ b) W s1 A1 n1 c1 s2 A2 n2 c2 (y k).1 (y k).2) (hy : ∀ i, lo' ≤ i → i < n → i ≠ k → lo ≤ i ∧ y i = x i) :
  RatsO (put4 W b (k * 4) (.bool s1) (.slice A1 n1 c1) (.bool s2) (.slice A2 n2 c2)) b y lo' n := by
 obtain ⟨cs, ho, hz, hc⟩ := h
 obtain ⟨cs', ho', hz', hn, hold⟩ := put4_own ho (k * 4) (.bool s1) (.slice A1 n1 c1) (.bool s2) (.slice A2 n2 c2)
 have hmv : ∀ {t1 B1 m1 d1 t2 B2 m2 d2 p q}, RatX (fun y => y ≠ b) W t1 B1 m1 d1 t2 B2 m2 d2 p q → RatX (fun y => y ≠ b) (put4 W b (k * 4) (.bool s1) (.slice A1 n1 c1) (.bool s2) (.slice A2 n2 c2)) t1 B1 m1 d1 t2 B2 m2 d2 p q :=
  fun h => h.move (by rw [put4_size]; exact Nat.le_refl _) fun y _ hX => ⟨put4_block _ _ _ _ _ _ _ y hX, hX⟩
 refine ⟨cs', ho', by rw [hz', hz], fun i h1 h2 => ?_⟩
 by_cases e : i = k
 ·subst e
  obtain ⟨g1, g2, g3, g4⟩ := hn (by omega)
  exact ⟨s1, A1, n1, c1, s2, A2, n2, c2, g1, g2, g3, g4, hmv hr⟩
 ·obtain ⟨h3, h4⟩ := hy i h1 h2 e
  obtain ⟨t1, B1, m1, d1, t2, B2, m2, d2, e1, e2, e3, e4, h5⟩ := hc i h3 h2
  rw [h4]
  exact ⟨t1, B1, m1, d1, t2, B2, m2, d2, (hold _ (by omega)).trans e1, (hold _ (by omega)).trans e2, (hold _ (by omega)).trans e3, (hold _ (by omega)).trans e4, hmv h5⟩
/-- One ratio more is stored. -/
theorem RatsO.put {W : World} {b : Nat} {x : Nat → QI} {k n : Nat} (h : RatsO W b x (k + 1) n) (hk : k < n) {s1 s2 : Bool} {A1 A2 : Option Addr} {n1 c1 n2 c2 : Nat} (hr : RatX (fun y => y ≠ b) W s1 A1 n1 c1 s2 A2 n2 c2 (x k).1 (x k).2) :
  RatsO ((((W.setCell ⟨b, k * 4, none⟩ (.bool s1)).setCell ⟨b, k * 4 + 1, none⟩ (.slice A1 n1 c1)).setCell ⟨b, k * 4 + 2, none⟩ (.bool s2)).setCell ⟨b, k * 4 + 3, none⟩ (.slice A2 n2 c2)) b x k n :=
 h.set hk hr fun i h1 _ h3 => ⟨by omega, rfl⟩
theorem RatsO.put2 {W : World} {b : Nat} {x y : Nat → QI} {lo k n : Nat} (h : RatsO W b x lo n) (hk : k < n) {s1 s2 : Bool} {A1 A2 : Option Addr} {n1 c1 n2 c2 : Nat} (hr : RatX (fun y => y ≠ b) W s1 A1 n1 c1 s2 A2 n2 c2 (y k).1 (y k).2) (hy : ∀ i, i < n → i ≠ k → y i = x i) :
  RatsO ((((W.setCell ⟨b, k * 4, none⟩ (.bool s1)).setCell ⟨b, k * 4 + 1, none⟩ (.slice A1 n1 c1)).setCell ⟨b, k * 4 + 2, none⟩ (.bool s2)).setCell ⟨b, k * 4 + 3, none⟩ (.slice A2 n2 c2)) b y lo n :=
 h.set hk hr fun i h1 h2 h3 => ⟨h1, hy i h2 h3⟩
theorem infoRat : (Tryz.prog.info? 37).map (fun i => (i.zero, i.size, i.bytes)) = some (some (.agg #[.bool false, .slice none 0 0, .bool false, .slice none 0 0]), 4, 64) := by kernel_rfl
def ratCells (n : Nat) : Array Value := madeCells (Value.agg #[.bool false, .slice none 0 0, .bool false, .slice none 0 0]).cells (n * 4)
theorem ratCells_size (n : Nat) : (ratCells n).size = n * 4 := by unfold ratCells madeCells; simp
theorem make_rats (n : Nat) (h : n ≤ 100000) (w : World) : (Instr.makeSlice 38 (.int .i64 (n : Nat)) (.int .i64 (n : Nat))).run Tryz.prog w = .ok (.slice (some ⟨w.heap.size, 0, none⟩) n n) (w.alloc (.cells (ratCells n) 37)) := by
 obtain ⟨i, hi, hz, hs, hb⟩ := info_parts infoRat
 have q := run_make (P := Tryz.prog) w 38 37 i _ (by kernel_rfl) hi hz .i64 .i64 n n (by omega) (Int.le_refl _) (by rw [hb]; omega) (by omega)
 rw [hs] at q
 simp only [Int.toNat_natCast] at q
 exact q
/-- The right side less j terms, from column k + 1 on. -/
def sumQ (R : List Int) (x : Nat → QI) (k last : Nat) : Nat → QI
 | 0 => (zAt R last, 1)
 | j + 1 => subQ (sumQ R x k last j) (mulQ (zAt R (k + 1 + j), 1) (x (k + 1 + j)))
/-- What `back` computes, and that all of it is small. -/
structure BackQ (L : List (List Int)) (x : Nat → QI) (n last : Nat) : Prop where
 eq : ∀ k, k < n → x k = divQ (sumQ (rAt L k) x k last (n - 1 - k)) (zAt (rAt L k) k, 1)
 lead : ∀ k, k < n → zAt (rAt L k) k ≠ 0
 elem : ∀ k, k < n → Sm (zAt (rAt L k) last) ∧ ∀ c, c < n → Sm (zAt (rAt L k) c)
 sum : ∀ k, k < n → ∀ j, j ≤ n - 1 - k → SmQ (sumQ (rAt L k) x k last j)
 part : ∀ k, k < n → ∀ j, j < n - 1 - k → SmQ (mulQ (zAt (rAt L k) (k + 1 + j), 1) (x (k + 1 + j)))
 val : ∀ k, k < n → SmQ (x k)
end Go.Proofs.YtflgngjocgiojaaGreat
