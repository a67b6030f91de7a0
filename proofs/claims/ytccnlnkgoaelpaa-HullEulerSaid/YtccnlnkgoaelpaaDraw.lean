/- What Mod, Draw.Next, Vec, Points, Made and Odd of the references return. The slice of numbers holds int64. -/
import Derived.Test.YtccnlnkgoaelpaaPlaneC
import Derived.Laws.OwnMore
import Derived.Deep.AppendLies
namespace Go.Proofs.Ytccnlnkgoaelpaa
open Go.RowKit

/-- w' is w but for the blocks T and what is new. -/
structure Upd (T : List Nat) (w w' : World) : Prop where
  os : w'.os = w.os
  tape : w'.tape = w.tape
  output : w'.output = w.output
  size : w.heap.size ≤ w'.heap.size
  block : ∀ b, b < w.heap.size → b ∉ T → w'.heap[b]? = w.heap[b]?
theorem Upd.refl (T : List Nat) (w : World) : Upd T w w := ⟨rfl, rfl, rfl, Nat.le_refl _, fun _ _ _ => rfl⟩
theorem Upd.trans {T : List Nat} {a b c : World} (h : Upd T a b) (k : Upd T b c) : Upd T a c :=
  ⟨k.os.trans h.os, k.tape.trans h.tape, k.output.trans h.output, Nat.le_trans h.size k.size, fun i hi ht => (k.block i (Nat.lt_of_lt_of_le hi h.size) ht).trans (h.block i hi ht)⟩
theorem Upd.of_below {T : List Nat} {w w' : World} (h : Below w.heap.size w w') : Upd T w w' := ⟨h.os, h.tape, h.output, h.size, fun b hb _ => h.block b hb⟩
theorem Upd.drewN {T : List Nat} {a w : World} (h : Upd T a w) (n : Nat) : Upd T a (w.drewN n) := ⟨h.os, h.tape, h.output, h.size, h.block⟩
theorem Upd.drew {T : List Nat} {a w : World} (h : Upd T a w) : Upd T a w.drew := ⟨h.os, h.tape, h.output, h.size, h.block⟩
theorem Upd.alloc {T : List Nat} {a w : World} (h : Upd T a w) (o : Obj) : Upd T a (w.alloc o) :=
  h.trans (.of_below ((Below.refl _ _).alloc (Nat.le_refl _) o))
theorem Upd.set {T : List Nat} {a w : World} (h : Upd T a w) {p : Addr} (hp : p.block ∈ T) (x : Value) : Upd T a (w.setCell p x) :=
  h.trans ⟨rfl, rfl, rfl, by simp [World.setCell], fun b hb ht => Below.heap_setCell _ _ _ _ (fun e => ht (e ▸ hp))⟩
theorem Upd.setNew {T : List Nat} {a w : World} (h : Upd T a w) {p : Addr} (hp : a.heap.size ≤ p.block) (x : Value) : Upd T a (w.setCell p x) :=
  ⟨h.os, h.tape, h.output, by simpa [World.setCell] using h.size, fun b hb ht => (Below.heap_setCell _ _ _ _ (by omega)).trans (h.block b hb ht)⟩
theorem Upd.hop {T : List Nat} {a b c : World} (h : Upd T a b) (k : Below b.heap.size b c) : Upd T a c := h.trans (.of_below k)
/-- What is written is new to an elder world. -/
theorem Upd.below {T : List Nat} {w v v' : World} (k : Below w.heap.size w v) (h : Upd T v v') (ht : ∀ b ∈ T, w.heap.size ≤ b) : Below w.heap.size w v' :=
  k.trans ⟨h.os, h.tape, h.output, h.size, fun b hb => h.block b (Nat.lt_of_lt_of_le hb k.size) (fun hm => by have := ht b hm; omega)⟩
theorem Own.upd {T : List Nat} {w w' : World} {b : Nat} {cs : Array Value} (h : Own w b cs) (k : Upd T w w') (ht : b ∉ T) : Own w' b cs := h.of_block (k.block b h.lt ht)

theorem mod_eq (a b : Int) : a.tmod b % b = a % b := by
  have h := Int.tmod_add_mul_tdiv a b
  have e : a.tmod b = a + b * (-(a.tdiv b)) := by rw [Int.mul_neg]; omega
  rw [e, Int.add_mul_emod_self_left]
theorem tmod_bd (a b : Int) (hb : 1 ≤ b) : -b < a.tmod b ∧ a.tmod b < b :=
  ⟨Int.lt_tmod_of_pos a (by omega), Int.tmod_lt_of_pos a (by omega)⟩

set_option maxHeartbeats 400000 in
theorem ref1_Mod (a b : Int) (hb : 1 ≤ b) (hb2 : b ≤ 1000000000) (w : World) :
    Calls Try.prog 21 #[.int .i64 a, .int .i64 b] w fun r w' => r = .returned (.int .i64 (a % b)) ∧ w = w' := by
  have hm := Lib.hid (mod_eq a b)
  have hbd := tmod_bd a b hb
  have h0 : ¬ b = 0 := by omega
  have hlt : ¬ b < 1 := by omega
  go_enter Try.func21, Try.ntmps21
  go_wp2
  go_ret
  exact ⟨ret_int hm.out, rfl⟩

/-- The draw in block bd has the numbers l left. -/
structure DrawAt (w : World) (bd : Nat) (l : List Int) : Prop where
  ex : ∃ (A : Option Addr) (n cap at_ : Nat), Own w bd #[.slice A n cap, .int .i64 at_] ∧ at_ + l.length = n ∧ n ≤ 9223372036854775807 ∧
    (l ≠ [] → ∃ b off, A = some ⟨b, off, none⟩ ∧ b < bd ∧ ∀ i, i < l.length → w.cell? ⟨b, off + (at_ + i), none⟩ = some (.int .i64 (l.getD i 0)))
def nextV : List Int → Int → Int
  | [], _ => 0
  | x :: _, m => x % m

set_option maxRecDepth 100000 in
set_option maxHeartbeats 400000 in
theorem ref1_Next (bd : Nat) (l : List Int) (m : Int) (hm : 1 ≤ m) (hm2 : m ≤ 1000000000) (w : World) (hd : DrawAt w bd l) :
    Calls Try.prog 26 #[.pointer (some ⟨bd, 0, none⟩), .int .i64 m] w fun r w' => r = .returned (.int .i64 (nextV l m)) ∧ (Upd [bd] w w' ∧ DrawAt w' bd l.tail) := by
  obtain ⟨A, n, cap, at_, ho, hn, hmax, hl⟩ := hd.ex
  have oc := ho.cell
  have of := ho.thaw
  cases l with
  | nil =>
    have hge : (n : Int) ≤ (at_ : Int) := by simp at hn; omega
    go_enter Try.func26, Try.ntmps26
    go_wp2
    go_quiet (fail)
    go_wp2
    go_ret
    exact ⟨rfl, ⟨rfl, rfl, rfl, by simp, fun _ _ _ => rfl⟩, ⟨A, n, cap, at_, ho, hn, hmax, fun h => absurd rfl h⟩⟩
  | cons x l =>
    obtain ⟨b, off, rfl, hbd, hc⟩ := hl (by simp)
    have hne : b ≠ bd := by omega
    have hlt : b < w.heap.size := by have := ho.lt; omega
    have h0 := hc 0 (by simp)
    have hlt2 : at_ < n := by simp at hn; omega
    have hge : ¬ (n : Int) ≤ (at_ : Int) := by omega
    have hge2 : (at_ : Int) < (n : Int) := by omega
    simp at h0
    go_enter Try.func26, Try.ntmps26
    go_wp2
    go_quiet (fail)
    go_wp2
    have p := (ho.drewN nq).set 1 (.int .i64 ((at_ : Int) + 1))
    have hcW : ((w.drewN nq).setCell ⟨bd, 1, none⟩ (.int .i64 ((at_ : Int) + 1))).cell? ⟨b, off + at_, none⟩ = some (.int .i64 x) := by
      rw [World.cell?_setCell_other _ _ _ _ (by intro e; injection e with e1; exact hne e1.symm)]; exact h0
    have hall : ∀ i, i < l.length → ((w.drewN nq).setCell ⟨bd, 1, none⟩ (.int .i64 ((at_ : Int) + 1))).cell? ⟨b, off + (at_ + 1 + i), none⟩ = some (.int .i64 (l.getD i 0)) := fun i hi => by
      rw [World.cell?_setCell_other _ _ _ _ (by intro e; injection e with e1; exact hne e1.symm)]
      have := hc (i + 1) (by simp; omega)
      rw [show off + (at_ + (i + 1)) = off + (at_ + 1 + i) by omega] at this
      simpa using this
    have hU : Upd [bd] w ((w.drewN nq).setCell ⟨bd, 1, none⟩ (.int .i64 ((at_ : Int) + 1))) := ((Upd.refl _ _).drewN nq).set (by simp) _
    generalize (w.drewN nq).setCell ⟨bd, 1, none⟩ (.int .i64 ((at_ : Int) + 1)) = W at *
    have HALL := Lib.hid hall
    clear hall h0 oc of hc hl
    have p1 := p.lt
    have hbW : b < W.heap.size := Nat.lt_of_lt_of_le hlt hU.size
    refine region_late 13 [] (by kernel_rfl) (by kernel_rfl) (by rfl) ?_
    apply Exists.intro
    refine ⟨fun v hv hne2 => ?_, fun u hu => ?_⟩
    · simp only [List.take_succ_cons, List.take_zero]
      have d1 := fun x => (p.later (v := v) (T := []) (by simp) x).cell
      have d2 := fun y : Later [] W v => (y.cell b (off + at_) hbW (by simp)).trans hcW
      simp only [List.setIfInBounds_toArray, List.set_cons_zero, List.set_cons_succ] at d1
      repeat (go_big_quiet_step ((go_at_call 21; exact lateS (ref1_Mod _ _ hm hm2 _))))
      refine wpQuiet_nil ?_
      exact rfl
    · simp only [List.drop_succ_cons, List.drop_zero]
      refine late_mem (fun K hK => ?_)
      go_simp
      refine hK _ _ (Keeps.of_below hu) (fun u2 hu2 => ?_)
      clear hK K
      refine late_nil ?_
      (try simp only [Act.put, List.setIfInBounds_toArray, List.set_cons_zero, List.set_cons_succ])
      go_wp2
      go_ret
      have hb2 := Below.hop hu hu2
      exact ⟨rfl, hU.hop hb2, ⟨_, n, cap, at_ + 1, p.below hb2, by simp at hn ⊢; omega, hmax, fun _ => ⟨b, off, rfl, hbd, fun i hi => (hb2.cell (p := ⟨b, _, none⟩) hbW).trans (HALL.out i hi)⟩⟩⟩

theorem DrawAt.of_blocks {w w' : World} {bd : Nat} {l : List Int} (h : DrawAt w bd l) (hb : ∀ i, i ≤ bd → w'.heap[i]? = w.heap[i]?) : DrawAt w' bd l := by
  obtain ⟨A, n, cap, at_, ho, hn, hmax, hl⟩ := h.ex
  refine ⟨A, n, cap, at_, ho.of_block (hb bd (Nat.le_refl _)), hn, hmax, fun h1 => ?_⟩
  obtain ⟨b, off, e, hlt, hc⟩ := hl h1
  exact ⟨b, off, e, hlt, fun i hi => (World.cell?_of_block (w := w) (a := ⟨b, _, none⟩) (hb b (by omega))).trans (hc i hi)⟩
theorem DrawAt.below {w w' : World} {bd : Nat} {l : List Int} (h : DrawAt w bd l) (hb : Below w.heap.size w w') : DrawAt w' bd l := by
  have hlt : bd < w.heap.size := by obtain ⟨_, _, _, _, ho, _⟩ := h.ex; exact ho.lt
  exact h.of_blocks fun i hi => hb.block i (by omega)
theorem DrawAt.alloc {w : World} {bd : Nat} {l : List Int} (h : DrawAt w bd l) (o : Obj) : DrawAt (w.alloc o) bd l := h.below ((Below.refl _ _).alloc (Nat.le_refl _) o)
theorem DrawAt.lt {w : World} {bd : Nat} {l : List Int} (h : DrawAt w bd l) : bd < w.heap.size := by
  obtain ⟨_, _, _, _, ho, _⟩ := h.ex
  exact ho.lt

/-- A slice of ints reads as the list l. -/
structure SliceI (w : World) (A : Option Addr) (n : Nat) (l : List Int) : Prop where
  len : l.length = n
  max : n ≤ 9223372036854775807
  row : l ≠ [] → ∃ b off, A = some ⟨b, off, none⟩ ∧ b < w.heap.size ∧ ∀ i, i < l.length → w.cell? ⟨b, off + i, none⟩ = some (.int .i64 (l.getD i 0))
theorem SliceI.below {w w' : World} {A : Option Addr} {n : Nat} {l : List Int} (h : SliceI w A n l) (hb : Below w.heap.size w w') : SliceI w' A n l :=
  ⟨h.len, h.max, fun h1 => by
    obtain ⟨b, off, e, hlt, hc⟩ := h.row h1
    exact ⟨b, off, e, Nat.lt_of_lt_of_le hlt hb.size, fun i hi => (hb.cell (p := ⟨b, _, none⟩) hlt).trans (hc i hi)⟩⟩
theorem DrawAt.start {w : World} {A : Option Addr} {n cap : Nat} {l : List Int} {T : TypeId} (h : SliceI w A n l) : DrawAt (w.alloc (.cells #[.slice A n cap, .int .i64 0] T)) w.heap.size l := by
  refine ⟨A, n, cap, 0, Own.new rfl, by rw [h.len]; omega, h.max, fun h1 => ?_⟩
  obtain ⟨b, off, e, hlt, hc⟩ := h.row h1
  exact ⟨b, off, e, hlt, fun i hi => by rw [Nat.zero_add]; exact (World.cell?_alloc_lt w _ ⟨b, _, none⟩ hlt).trans (hc i hi)⟩

theorem ownsRow_upd {w w' : World} {base : Nat} {e : TypeId} {size : Nat} {v : Value} {n : Nat} {xs : List Value} {bd : Nat} (h : w.ownsRow base e size v n xs) (k : Upd [bd] w w') (hb : bd < base) : w'.ownsRow base e size v n xs := by
  obtain ⟨h1, h2⟩ := h
  refine ⟨h1, ?_⟩
  rcases h2 with h2 | ⟨g, cap, cur, e1, e2, e3, e4⟩
  · exact .inl h2
  · refine .inr ⟨g, cap, cur, e1, e2, ?_, e4⟩
    have hg : g < w.heap.size := by
      rcases Nat.lt_or_ge g w.heap.size with h | h
      · exact h
      · rw [Array.getElem?_eq_none h] at e3; cases e3
    rw [k.block g hg (by simp; omega)]; exact e3
theorem ownBlock_ge {w : World} {base : Nat} {e : TypeId} {size : Nat} {v : Value} {n : Nat} {xs : List Value} (h : w.ownsRow base e size v n xs) {g : Nat} (hg : v.ownBlock = some g) : base ≤ g := by
  rcases h.2 with ⟨rfl, _⟩ | ⟨g', cap, cur, rfl, e2, _⟩
  · cases hg
  · simp [Value.ownBlock] at hg; omega
theorem ownsRow_cell {w : World} {base : Nat} {e : TypeId} {size : Nat} {g n cap : Nat} {xs : List Value} (h : w.ownsRow base e size (.slice (some ⟨g, 0, none⟩) n cap) n xs) (hn : 0 < n) :
    base ≤ g ∧ g < w.heap.size ∧ n ≤ cap ∧ cap ≤ maxLen ∧ ∀ i, i < n * size → w.cell? ⟨g, i, none⟩ = xs[i]? := by
  rcases h.2 with ⟨e1, e2⟩ | ⟨g', cap', cur, e1, e2, e3, e4, e5, e6, e7⟩
  · omega
  · injection e1 with a1 a2 a3
    injection a1 with a1; injection a1 with a1
    subst a1; subst a3
    have hg : g < w.heap.size := by
      rcases Nat.lt_or_ge g w.heap.size with h | h
      · exact h
      · rw [Array.getElem?_eq_none h] at e3; cases e3
    refine ⟨e2, hg, e4, e5, fun i hi => ?_⟩
    rw [cell_of_row w g i cur e (0, 0) e3, ← e7]
    rw [List.getElem?_take_of_lt hi, Array.getElem?_toList]

def vecV (l : List Int) (m : Int) : V3 := ⟨nextV l (2 * m + 1) - m, nextV l.tail (2 * m + 1) - m, nextV l.tail.tail (2 * m + 1) - m⟩
theorem nextV_bd (l : List Int) (m : Int) (hm : 1 ≤ m) : 0 ≤ nextV l m ∧ nextV l m < m := by
  cases l with
  | nil => simp [nextV]; omega
  | cons x l => exact ⟨Int.emod_nonneg _ (by omega), Int.emod_lt_of_pos _ (by omega)⟩

def mostV (n : Int) : Int := if n = 0 then 8 else if n = 1 then 8 else if n = 2 then 3 else 24
def ptAt (l : List Int) (k : Nat) : V3 := vecV (l.drop (4 * k + 1)) (mostV (nextV (l.drop (4 * k)) 4))
def ptCells (l : List Int) (k : Nat) : List Value := (List.range k).flatMap fun j => [.int .i64 (ptAt l j).x, .int .i64 (ptAt l j).y, .int .i64 (ptAt l j).z]
/-- The slice of points that Points returns. -/
def PtsAt (w : World) (B : Nat) (l : List Int) (many g cap : Nat) : Prop :=
  B ≤ g ∧ g < w.heap.size ∧ many ≤ cap ∧ cap ≤ maxLen ∧ ∀ i, i < many * 3 → w.cell? ⟨g, i, none⟩ = (ptCells l many)[i]?

theorem infoVec : (Try.prog.info? 31).map (fun i => (i.zero, i.size, i.bytes)) = some (some (.agg #[.int .i64 0, .int .i64 0, .int .i64 0]), 3, 24) := by kernel_rfl

end Go.Proofs.Ytccnlnkgoaelpaa
