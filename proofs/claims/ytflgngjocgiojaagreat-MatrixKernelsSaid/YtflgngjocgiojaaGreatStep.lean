/- A region that draws its order, as in Eff, with steppers: operations that follow each other, each of which has a known value and takes memory from one phase to the next (a draw from a list of numbers, say). No condition. -/
import Derived.Test.YtflgngjocgiojaaGreatPlaneA
import Derived.Test.YtflgngjocgiojaaGreatLate
import Derived.Laws.OwnMore
import Derived.Deep.AppendLies
import Derived.Test.YtflgngjocgiojaaGreatRows
import Derived.WalkKit
import Derived.ProofKit
import Derived.OpenShut
import Derived.ShutString
import Derived.ChangeOld
import Derived.Below
import Derived.ChangeSame
namespace Go.Proofs.YtflgngjocgiojaaGreat
open Go.RowKit

end Go.Proofs.YtflgngjocgiojaaGreat
namespace Go.Proofs.YtflgngjocgiojaaGreat
open Go.RowKit

end Go.Proofs.YtflgngjocgiojaaGreat
namespace Go.Proofs.YtflgngjocgiojaaGreat
open Go.RowKit

/-- w' is w but for the blocks T and what is new. -/
structure Upd (T : List Nat) (w w' : World) : Prop where
 os : w'.os = w.os
 tape : w'.tape = w.tape
 output : w'.output = w.output
 size : w.heap.size ≤ w'.heap.size
 block : ∀ b, b < w.heap.size → b ∉ T → w'.heap[b]? = w.heap[b]?
theorem Upd.refl (T : List Nat) (w : World) : Upd T w w := ⟨rfl, rfl, rfl, Nat.le_refl _, fun _ _ _ => rfl⟩
theorem Upd.trans {T : List Nat} {a b c : World} (h : Upd T a b) (k : Upd T b c) : Upd T a c :=
 ⟨k.os.trans h.os, k.tape.trans h.tape, k.output.trans h.output, Nat.le_trans h.size k.size, fun i hi ht => (k.block i (Nat.lt_of_lt_of_le hi h.size) ht).trans (h.block i hi ht)⟩
theorem Upd.of_below {T : List Nat} {w w' : World} (h : Below w.heap.size w w') : Upd T w w' := ⟨h.os, h.tape, h.output, h.size, fun b hb _ => h.block b hb⟩
theorem Upd.drewN {T : List Nat} {a w : World} (h : Upd T a w) (n : Nat) : Upd T a (w.drewN n) := ⟨h.os, h.tape, h.output, h.size, h.block⟩
theorem Upd.drew {T : List Nat} {a w : World} (h : Upd T a w) : Upd T a w.drew := ⟨h.os, h.tape, h.output, h.size, h.block⟩
theorem Upd.alloc {T : List Nat} {a w : World} (h : Upd T a w) (o : Obj) : Upd T a (w.alloc o) :=
 h.trans (.of_below ((Below.refl _ _).alloc (Nat.le_refl _) o))
theorem Upd.set {T : List Nat} {a w : World} (h : Upd T a w) {p : Addr} (hp : p.block ∈ T) (x : Value) : Upd T a (w.setCell p x) :=
 h.trans ⟨rfl, rfl, rfl, by simp [World.setCell], fun b hb ht => Below.heap_setCell _ _ _ _ (fun e => ht (e ▸ hp))⟩
theorem Upd.hop {T : List Nat} {a b c : World} (h : Upd T a b) (k : Below b.heap.size b c) : Upd T a c := h.trans (.of_below k)
/-- What is written is new to an elder world. -/
theorem Upd.below {T : List Nat} {w v v' : World} (k : Below w.heap.size w v) (h : Upd T v v') (ht : ∀ b ∈ T, w.heap.size ≤ b) : Below w.heap.size w v' :=
 k.trans ⟨h.os, h.tape, h.output, h.size, fun b hb => h.block b (Nat.lt_of_lt_of_le hb k.size) (fun hm => by have := ht b hm; omega)⟩
theorem Own.upd {T : List Nat} {w w' : World} {b : Nat} {cs : Array Value} (h : Own w b cs) (k : Upd T w w') (ht : b ∉ T) : Own w' b cs := h.of_block (k.block b h.lt ht)

theorem mod_eq (a b : Int) : a.tmod b % b = a % b := by
 have h := Int.tmod_add_mul_tdiv a b
 have e : a.tmod b = a + b * (-(a.tdiv b)) := by rw [Int.mul_neg]; omega
 rw [e, Int.add_mul_emod_self_left]
theorem tmod_bd (a b : Int) (hb : 1 ≤ b) : -b < a.tmod b ∧ a.tmod b < b :=
 ⟨Int.lt_tmod_of_pos a (by omega), Int.tmod_lt_of_pos a (by omega)⟩

set_option maxHeartbeats 400000 in
theorem ref1_Mod (a b : Int) (hb : 1 ≤ b) (hb2 : b ≤ 1000000000) (w : World) :
  Calls Tryz.prog 39 #[.int .i64 a, .int .i64 b] w fun r w' => r = .returned (.int .i64 (a % b)) ∧ w = w' := by
 have hm := Lib.hid (mod_eq a b)
 have hbd := tmod_bd a b hb
 have h0 : ¬ b = 0 := by omega
 have hlt : ¬ b < 1 := by omega
 go_enter Tryz.func39, Tryz.ntmps39
 go_wp2
 go_ret
 exact ⟨ret_int hm.out, rfl⟩

/-- The draw in block bd has the numbers l left. -/
structure DrawAt (w : World) (bd : Nat) (l : List Int) : Prop where
 ex : ∃ (A : Option Addr) (n cap at_ : Nat), Own w bd #[.slice A n cap, .int .i64 at_] ∧ at_ + l.length = n ∧ n ≤ 9223372036854775807 ∧
  (l ≠ [] → ∃ b off, A = some ⟨b, off, none⟩ ∧ b < bd ∧ ∀ i, i < l.length → w.cell? ⟨b, off + (at_ + i), none⟩ = some (.int .i64 (l.getD i 0)))
def nextV : List Int → Int → Int
 | [], _ => 0
 | x :: _, m => x % m

set_option maxRecDepth 100000 in
set_option maxHeartbeats 400000 in
theorem ref1_Next (bd : Nat) (l : List Int) (m : Int) (hm : 1 ≤ m) (hm2 : m ≤ 1000000000) (w : World) (hd : DrawAt w bd l) :
  Calls Tryz.prog 34 #[.pointer (some ⟨bd, 0, none⟩), .int .i64 m] w fun r w' => r = .returned (.int .i64 (nextV l m)) ∧ (Upd [bd] w w' ∧ DrawAt w' bd l.tail) := by
 obtain ⟨A, n, cap, at_, ho, hn, hmax, hl⟩ := hd.ex
 have oc := ho.cell
 have of := ho.thaw
 cases l with
 | nil =>
  have hge : (n : Int) ≤ (at_ : Int) := by simp at hn; omega
  go_enter Tryz.func34, Tryz.ntmps34
  go_wp2
  go_quiet (fail)
  go_wp2
  go_ret
  exact ⟨rfl, ⟨rfl, rfl, rfl, by simp, fun _ _ _ => rfl⟩, ⟨A, n, cap, at_, ho, hn, hmax, fun h => absurd rfl h⟩⟩
 | cons x l =>
  obtain ⟨b, off, rfl, hbd, hc⟩ := hl (by simp)
  have hne : b ≠ bd := by omega
  have hlt : b < w.heap.size := by have := ho.lt; omega
  have h0 := hc 0 (by simp)
  have hlt2 : at_ < n := by simp at hn; omega
  have hge : ¬ (n : Int) ≤ (at_ : Int) := by omega
  have hge2 : (at_ : Int) < (n : Int) := by omega
  simp at h0
  go_enter Tryz.func34, Tryz.ntmps34
  go_wp2
  go_quiet (fail)
  go_wp2
  have p := (ho.drewN nq).set 1 (.int .i64 ((at_ : Int) + 1))
  have hcW : ((w.drewN nq).setCell ⟨bd, 1, none⟩ (.int .i64 ((at_ : Int) + 1))).cell? ⟨b, off + at_, none⟩ = some (.int .i64 x) := by
   rw [World.cell?_setCell_other _ _ _ _ (by intro e; injection e with e1; exact hne e1.symm)]; exact h0
  have hall : ∀ i, i < l.length → ((w.drewN nq).setCell ⟨bd, 1, none⟩ (.int .i64 ((at_ : Int) + 1))).cell? ⟨b, off + (at_ + 1 + i), none⟩ = some (.int .i64 (l.getD i 0)) := fun i hi => by
   rw [World.cell?_setCell_other _ _ _ _ (by intro e; injection e with e1; exact hne e1.symm)]
   have := hc (i + 1) (by simp; omega)
   rw [show off + (at_ + (i + 1)) = off + (at_ + 1 + i) by omega] at this
   simpa using this
  have hU : Upd [bd] w ((w.drewN nq).setCell ⟨bd, 1, none⟩ (.int .i64 ((at_ : Int) + 1))) := ((Upd.refl _ _).drewN nq).set (by simp) _
  generalize (w.drewN nq).setCell ⟨bd, 1, none⟩ (.int .i64 ((at_ : Int) + 1)) = W at *
  have HALL := Lib.hid hall
  clear hall h0 oc of hc hl
  have p1 := p.lt
  have hbW : b < W.heap.size := Nat.lt_of_lt_of_le hlt hU.size
  refine region_late 13 [] (by kernel_rfl) (by kernel_rfl) (by rfl) ?_
  apply Exists.intro
  refine ⟨fun v hv hne2 => ?_, fun u hu => ?_⟩
  ·simp only [List.take_succ_cons, List.take_zero]
   have d1 := fun x => (p.later (v := v) (T := []) (by simp) x).cell
   have d2 := fun y : Later [] W v => (y.cell b (off + at_) hbW (by simp)).trans hcW
   simp only [List.setIfInBounds_toArray, List.set_cons_zero, List.set_cons_succ] at d1
   repeat (go_big_quiet_step ((go_at_call 39; exact lateS (ref1_Mod _ _ hm hm2 _))))
   refine wpQuiet_nil ?_
   exact rfl
  ·simp only [List.drop_succ_cons, List.drop_zero]
   refine late_mem (fun K hK => ?_)
   go_simp
   refine hK _ _ (Keeps.of_below hu) (fun u2 hu2 => ?_)
   clear hK K
   refine late_nil ?_
   (try simp only [Act.put, List.setIfInBounds_toArray, List.set_cons_zero, List.set_cons_succ])
   go_wp2
   go_ret
   have hb2 := Below.hop hu hu2
   exact ⟨rfl, hU.hop hb2, ⟨_, n, cap, at_ + 1, p.below hb2, by simp at hn ⊢; omega, hmax, fun _ => ⟨b, off, rfl, hbd, fun i hi => (hb2.cell (p := ⟨b, _, none⟩) hbW).trans (HALL.out i hi)⟩⟩⟩

theorem DrawAt.of_blocks {w w' : World} {bd : Nat} {l : List Int} (h : DrawAt w bd l) (hb : ∀ i, i ≤ bd → w'.heap[i]? = w.heap[i]?) : DrawAt w' bd l := by
 obtain ⟨A, n, cap, at_, ho, hn, hmax, hl⟩ := h.ex
 refine ⟨A, n, cap, at_, ho.of_block (hb bd (Nat.le_refl _)), hn, hmax, fun h1 => ?_⟩
 obtain ⟨b, off, e, hlt, hc⟩ := hl h1
 exact ⟨b, off, e, hlt, fun i hi => (World.cell?_of_block (w := w) (a := ⟨b, _, none⟩) (hb b (by omega))).trans (hc i hi)⟩
theorem DrawAt.below {w w' : World} {bd : Nat} {l : List Int} (h : DrawAt w bd l) (hb : Below w.heap.size w w') : DrawAt w' bd l := by
 have hlt : bd < w.heap.size := by obtain ⟨_, _, _, _, ho, _⟩ := h.ex; exact ho.lt
 exact h.of_blocks fun i hi => hb.block i (by omega)
theorem DrawAt.alloc {w : World} {bd : Nat} {l : List Int} (h : DrawAt w bd l) (o : Obj) : DrawAt (w.alloc o) bd l := h.below ((Below.refl _ _).alloc (Nat.le_refl _) o)
theorem DrawAt.lt {w : World} {bd : Nat} {l : List Int} (h : DrawAt w bd l) : bd < w.heap.size := by
 obtain ⟨_, _, _, _, ho, _⟩ := h.ex
 exact ho.lt

/-- A slice of ints reads as the list l. -/
structure SliceI (w : World) (A : Option Addr) (n : Nat) (l : List Int) : Prop where
 len : l.length = n
 max : n ≤ 9223372036854775807
 row : l ≠ [] → ∃ b off, A = some ⟨b, off, none⟩ ∧ b < w.heap.size ∧ ∀ i, i < l.length → w.cell? ⟨b, off + i, none⟩ = some (.int .i64 (l.getD i 0))
theorem SliceI.below {w w' : World} {A : Option Addr} {n : Nat} {l : List Int} (h : SliceI w A n l) (hb : Below w.heap.size w w') : SliceI w' A n l :=
 ⟨h.len, h.max, fun h1 => by
  obtain ⟨b, off, e, hlt, hc⟩ := h.row h1
  exact ⟨b, off, e, Nat.lt_of_lt_of_le hlt hb.size, fun i hi => (hb.cell (p := ⟨b, _, none⟩) hlt).trans (hc i hi)⟩⟩
theorem DrawAt.start {w : World} {A : Option Addr} {n cap : Nat} {l : List Int} {T : TypeId} (h : SliceI w A n l) : DrawAt (w.alloc (.cells #[.slice A n cap, .int .i64 0] T)) w.heap.size l := by
 refine ⟨A, n, cap, 0, Own.new rfl, by rw [h.len]; omega, h.max, fun h1 => ?_⟩
 obtain ⟨b, off, e, hlt, hc⟩ := h.row h1
 exact ⟨b, off, e, hlt, fun i hi => by rw [Nat.zero_add]; exact (World.cell?_alloc_lt w _ ⟨b, _, none⟩ hlt).trans (hc i hi)⟩

theorem ownsRow_upd {w w' : World} {base : Nat} {e : TypeId} {size : Nat} {v : Value} {n : Nat} {xs : List Value} {bd : Nat} (h : w.ownsRow base e size v n xs) (k : Upd [bd] w w') (hb : bd < base) : w'.ownsRow base e size v n xs := by
 obtain ⟨h1, h2⟩ := h
 refine ⟨h1, ?_⟩
 rcases h2 with h2 | ⟨g, cap, cur, e1, e2, e3, e4⟩
 ·exact .inl h2
 ·refine .inr ⟨g, cap, cur, e1, e2, ?_, e4⟩
  have hg : g < w.heap.size := by
   rcases Nat.lt_or_ge g w.heap.size with h | h
   ·exact h
   ·rw [Array.getElem?_eq_none h] at e3; cases e3
  rw [k.block g hg (by simp; omega)]; exact e3
theorem ownBlock_ge {w : World} {base : Nat} {e : TypeId} {size : Nat} {v : Value} {n : Nat} {xs : List Value} (h : w.ownsRow base e size v n xs) {g : Nat} (hg : v.ownBlock = some g) : base ≤ g := by
 rcases h.2 with ⟨rfl, _⟩ | ⟨g', cap, cur, rfl, e2, _⟩
 ·cases hg
 ·simp [Value.ownBlock] at hg; omega
theorem ownsRow_cell {w : World} {base : Nat} {e : TypeId} {size : Nat} {g n cap : Nat} {xs : List Value} (h : w.ownsRow base e size (.slice (some ⟨g, 0, none⟩) n cap) n xs) (hn : 0 < n) :
  base ≤ g ∧ g < w.heap.size ∧ n ≤ cap ∧ cap ≤ maxLen ∧ ∀ i, i < n * size → w.cell? ⟨g, i, none⟩ = xs[i]? := by
 rcases h.2 with ⟨e1, e2⟩ | ⟨g', cap', cur, e1, e2, e3, e4, e5, e6, e7⟩
 ·omega
 ·injection e1 with a1 a2 a3
  injection a1 with a1; injection a1 with a1
  subst a1; subst a3
  have hg : g < w.heap.size := by
   rcases Nat.lt_or_ge g w.heap.size with h | h
   ·exact h
   ·rw [Array.getElem?_eq_none h] at e3; cases e3
  refine ⟨e2, hg, e4, e5, fun i hi => ?_⟩
  rw [cell_of_row w g i cur e (0, 0) e3, ← e7]
  rw [List.getElem?_take_of_lt hi, Array.getElem?_toList]

theorem nextV_bd (l : List Int) (m : Int) (hm : 1 ≤ m) : 0 ≤ nextV l m ∧ nextV l m < m := by
 cases l with
 | nil => simp [nextV]; omega
 | cons x l => exact ⟨Int.emod_nonneg _ (by omega), Int.emod_lt_of_pos _ (by omega)⟩

end Go.Proofs.YtflgngjocgiojaaGreat
namespace Go.Proofs.YtflgngjocgiojaaGreat
open Go.ChangeShapes Go.WideShapes Go.ChangeAt Go.RowKit

theorem own : ownKnob Tryz.prog.godebug = none := by kernel_rfl
theorem laidOut : laidOutB Tryz.prog = true := by kernel_rfl

section
variable {H : Type} {enc : TypeId × Value → H} {P : Program} {w : World} {base : Nat} {spare : Nat → Bool} {held : Bool}

end
/-- A slice of ints that came in. -/
theorem sliceI_of {W : World} {a : Option Addr} {len cap : Nat} {zs : List Int}
  (h : (a = none ∧ len = 0 ∧ cap = 0 ∧ zs = []) ∨ ∃ x, a = some x ∧ len ≤ cap ∧ cap ≤ maxLen ∧ zs.length = cap ∧ (∀ i, i < zs.length → W.cell? (x.add i) = some (.int .i64 (zs.getD i 0))) ∧ ∀ n ∈ zs, (Lit.int .i64 n).wf = true)
  : SliceI W a len (zs.take len) ∧ len ≤ cap ∧ cap ≤ 9223372036854775807 := by
 rcases h with ⟨rfl, rfl, rfl, rfl⟩ | ⟨x, rfl, hl, hm, hz, hc, _⟩
 ·exact ⟨⟨rfl, by omega, fun h => absurd rfl h⟩, by omega, by omega⟩
 ·unfold maxLen at hm
  refine ⟨⟨by simp; omega, by omega, fun hne => ?_⟩, hl, hm⟩
  have hpos : 0 < len := by
   rcases Nat.eq_zero_or_pos len with h | h
   ·rw [h] at hne; simp at hne
   ·exact h
  obtain ⟨b, off, spot⟩ := x
  have h0 := hc 0 (by omega)
  have hs : spot = none := by simpa [Addr.add] using World.cell?_spot h0
  subst hs
  refine ⟨b, off, rfl, ?_, fun i hi => ?_⟩
  ·simp [Addr.add] at h0
   rcases Nat.lt_or_ge b W.heap.size with h | h
   ·exact h
   ·simp [World.cell?, Array.getElem?_eq_none h] at h0
  ·have hi' : i < len := by simp at hi; omega
   have h1 := hc i (by omega)
   have e : (zs.take len).getD i 0 = zs.getD i 0 := by
    simp [List.getElem?_take_of_lt hi']
   rw [e, ← h1]
   by_cases h2 : i = 0
   ·subst h2; simp [Addr.add]
   ·simp [Addr.add, h2]
end Go.Proofs.YtflgngjocgiojaaGreat
namespace Go.Proofs.YtflgngjocgiojaaGreat
open Go.RowKit
end Go.Proofs.YtflgngjocgiojaaGreat
namespace Go.Proofs.YtflgngjocgiojaaGreat
open Go.ChangeShapes Go.WideShapes Go.ChangeAt Go.RowKit

section
variable {H : Type} {enc : TypeId × Value → H} {P : Program} {w : World} {base : Nat} {held : Bool}
theorem slice_in {e i : TypeId} {fuel : Nat} {cs : List Value} {x : DataW H × List MemPlace} (he : P.underlying e = some (.slice i)) (hi : P.underlying i = some (.int .i64)) (hc : P.cellsOf i = 1)
  (h : DataW.trod enc P w base (fun _ => true) held fuel e cs = some x) :
  ∃ a n c z, cs = [.slice a n c] ∧ SliceI w a n z ∧ n ≤ c ∧ c ≤ 9223372036854775807 := by
 rcases open_ints he hi hc h with ⟨rfl, _⟩ | ⟨x, l, c, zs, rfl, _, hl, hm, hz, _, hcell, hwz⟩
 ·exact ⟨_, _, _, _, rfl, sliceI_of (zs := []) (.inl ⟨rfl, rfl, rfl, rfl⟩)⟩
 ·exact ⟨_, _, _, _, rfl, sliceI_of (zs := zs) (.inr ⟨_, rfl, hl, hm, by simpa using hz, hcell, hwz⟩)⟩
end
end Go.Proofs.YtflgngjocgiojaaGreat
namespace Go.Proofs.YtflgngjocgiojaaGreat
open Go.ChangeShapes Go.WideShapes Go.ChangeAt Go.RowKit

theorem u8M_wf {n : Int} (h : (Lit.int .u8 n).wf = true) : 0 ≤ n ∧ n ≤ 255 := by
 simp [Lit.wf] at h
 exact h
section
variable {H : Type} {enc : TypeId × Value → H} {w : World} {base : Nat} {held : Bool}
set_option maxRecDepth 100000 in
theorem open_case {v : Value} {cs : Array Value} {d : DataW H} {p : List MemPlace} (hv : v = .agg cs) (h : DataW.Trod enc Tryz.prog w base (fun _ => true) held 24 v d p) :
  ∃ a n c z x y, v = .agg #[.slice a n c, .int .u8 x, .int .u8 y] ∧ SliceI w a n z ∧ (0 ≤ x ∧ x ≤ 255) ∧ (0 ≤ y ∧ y ≤ 255) := by
 obtain ⟨fuel, h⟩ := h
 subst hv
 obtain ⟨xs, f, _, _, hlen, hxs, hat⟩ := DataW.trod_struct Tryz.underlying24 h
 have hc3 : Tryz.prog.cellsOf 24 = 3 := by kernel_rfl
 have hl3 : cs.toList.length = 3 := hlen.trans hc3
 have hx3 : xs.length = 3 := hxs
 match hcs : cs.toList, hl3 with
 | [x0, x1, x2], _ =>
  match xs, hx3 with
  | [y0, y1, y2], _ =>
   have e0 : Tryz.prog.cellsOf 22 = 1 := by kernel_rfl
   have e1 : Tryz.prog.cellsOf 5 = 1 := by kernel_rfl
   have h0 : DataW.trod enc Tryz.prog w base (fun _ => true) held f 22 ((List.drop 0 cs.toList).take (Tryz.prog.cellsOf 22)) = some y0 := hat 0 _ rfl
   have h1 : DataW.trod enc Tryz.prog w base (fun _ => true) held f 5 ((List.drop 1 cs.toList).take (Tryz.prog.cellsOf 5)) = some y1 := hat 1 _ rfl
   have h2 : DataW.trod enc Tryz.prog w base (fun _ => true) held f 5 ((List.drop 2 cs.toList).take (Tryz.prog.cellsOf 5)) = some y2 := hat 2 _ rfl
   rw [e0, hcs] at h0
   rw [e1, hcs] at h1
   rw [e1, hcs] at h2
   simp only [List.drop_zero, List.drop_succ_cons, List.take_succ_cons, List.take_zero] at h0 h1 h2
   obtain ⟨a, n, c, z, g0, s0⟩ := slice_in Tryz.underlying22 Tryz.underlying3 (by kernel_rfl) h0
   obtain ⟨m1, g1, _, w1⟩ := DataW.trod_int Tryz.underlying5 h1
   obtain ⟨m2, g2, _, w2⟩ := DataW.trod_int Tryz.underlying5 h2
   simp at g0 g1 g2
   subst g0 g1 g2
   have hca : cs = #[.slice a n c, .int .u8 m1, .int .u8 m2] := by rw [← Array.toList_inj]; exact hcs
   exact ⟨a, n, c, z, m1, m2, by rw [hca], s0.1, u8M_wf w1, u8M_wf w2⟩
end
end Go.Proofs.YtflgngjocgiojaaGreat
namespace Go.Proofs.YtflgngjocgiojaaGreat
open Go.RowKit

section
variable {P : Program} {ops : Array Oper} {T : List Nat} {w : World} {Q : Exit → Act → World → Prop}

def wpChain (P : Program) (T : List Nat) (w : World) (Q : Act → World → Prop) : List Oper → Act → World → Prop
 | [], A, u => Q A u
 | o :: os, A, u => lateOp P o A u (fun v u' => Keeps T w u' ∧ ∀ u'', Below u'.heap.size u' u'' → wpChain P T w Q os (A.put o.dst v) u'')

/-- An operation that makes one block: its number, itself, the block, and its value by the block's number. -/
structure ME where
 j : Nat
 o : Oper
 obj : Obj
 val : Nat → Value
def putM : List ME → (Nat → Nat) → Act → Act
 | [], _, A => A
 | m :: ms, f, A => putM ms f (A.put m.o.dst (m.val (f m.j)))
def AMem (P : Program) (T : List Nat) (w : World) (Q : Act → World → Prop) (ls : List Oper) (ms : List ME) (A : Act) (u : World) : Prop :=
 ∀ (f : Nat → Nat) (u' : World), Below u.heap.size u u' → (∀ m ∈ ms, u.heap.size ≤ f m.j ∧ u'.heap[f m.j]? = some m.obj) → (ms.map fun m => f m.j).Nodup → wpChain P T w Q ls (putM ms f A) u'
theorem AMem.later {ls : List Oper} {ms : List ME} {A : Act} {u v : World} {Q : Act → World → Prop} (h : AMem P T w Q ls ms A u) (hv : Below u.heap.size u v) : AMem P T w Q ls ms A v :=
 fun f u' hu hm hn => h f u' (hv.trans (hu.mono hv.size)) (fun m hm' => ⟨Nat.le_trans hv.size (hm m hm').1, (hm m hm').2⟩) hn

end

end Go.Proofs.YtflgngjocgiojaaGreat
namespace Go.Proofs.YtflgngjocgiojaaGreat
open Go.RowKit

section
variable {P : Program} {ops : Array Oper} {T : List Nat} {w : World} {Q : Exit → Act → World → Prop}

def effChain (P : Program) (ops : Array Oper) (T : List Nat) (w : World) (Q : Act → World → Prop) : List Oper → Act → World → Prop
 | [], A, u => Q A u
 | o :: os, A, u => Region.wanted o (yielded ops A.tmps) = true ∧ lateOp P o A u (fun v u' => Keeps T w u' ∧ ∀ u'', Below u'.heap.size u' u'' → effChain P ops T w Q os (A.put o.dst v) u'')

/-- An operation that makes memory: its number, itself, its value by a block's number and a number, and what it leaves behind, which lasts. -/
structure EF where
 j : Nat
 o : Oper
 val : Nat × Nat → Value
 R : Nat × Nat → World → Prop
 st : ∀ a u u', R a u → Below u.heap.size u u' → R a u'
def putE : List EF → (Nat → Nat × Nat) → Act → Act
 | [], _, A => A
 | m :: ms, f, A => putE ms f (A.put m.o.dst (m.val (f m.j)))
def AEff (P : Program) (ops : Array Oper) (T : List Nat) (w : World) (Q : Act → World → Prop) (ls : List Oper) (ms : List EF) (A : Act) (u : World) : Prop :=
 ∀ (f : Nat → Nat × Nat) (u' : World), Below u.heap.size u u' → (∀ m ∈ ms, u.heap.size ≤ (f m.j).1 ∧ (f m.j).1 < u'.heap.size ∧ m.R (f m.j) u') → (ms.map fun m => (f m.j).1).Nodup → effChain P ops T w Q ls (putE ms f A) u'
theorem AEff.later {ls : List Oper} {ms : List EF} {A : Act} {u v : World} {Q : Act → World → Prop} (h : AEff P ops T w Q ls ms A u) (hv : Below u.heap.size u v) : AEff P ops T w Q ls ms A v :=
 fun f u' hu hm hn => h f u' (hv.trans (hu.mono hv.size)) (fun m hm' => ⟨Nat.le_trans hv.size (hm m hm').1, (hm m hm').2⟩) hn

theorem wanted_puts {o : Oper} {t : Nat} (ht : ops[t]? = some o) :
  ∀ (hs : List Nat) (vs : List Value) (a : Act), (∀ i ∈ hs, (∃ o, ops[i]? = some o) ∧ Apart ops i t) → Region.wanted o (yielded ops (puts ops hs vs a).tmps) = Region.wanted o (yielded ops a.tmps)
 | [], _, _, _ => by simp [puts]
 | _ :: _, [], _, _ => by simp [puts]
 | i :: hs, v :: vs, a, hap => by
  obtain ⟨⟨oi, hoi⟩, h1⟩ := hap i (List.mem_cons_self)
  simp only [puts]
  rw [wanted_puts ht hs vs _ (fun k hk => hap k (List.mem_cons_of_mem _ hk)), dstOf_some hoi]
  exact wanted_put (ops := ops) o a oi.dst v (Oper.apart_spec (h1 oi o hoi ht)).1

theorem seg_at {l : List Oper} {i k j x : Nat} (h : (List.range' i k)[j]? = some x) : ((l.drop i).take k)[j]? = l[x]? ∧ i ≤ x ∧ x < i + k := by
 rw [List.getElem?_eq_some_iff] at h
 obtain ⟨hj, h⟩ := h
 simp only [List.getElem_range'] at h
 have hjk : j < k := by simpa using hj
 have hx : x = i + j := by omega
 subst hx
 rw [List.getElem?_take_of_lt hjk, List.getElem?_drop]
 exact ⟨rfl, by omega, by omega⟩
end

theorem effc_nil {P : Program} {ops : Array Oper} {T : List Nat} {w : World} {Q : Act → World → Prop} {A : Act} {u : World} (h : Q A u) : effChain P ops T w Q [] A u := h
theorem effc_mem {P : Program} {ops : Array Oper} {T : List Nat} {w : World} {Q : Act → World → Prop} {o : Oper} {os : List Oper} {A : Act} {u : World} (hwant : Region.wanted o (yielded ops A.tmps) = true)
  (h : ∀ K : Value → World → Prop, (∀ v u', Keeps T w u' → (∀ u'', Below u'.heap.size u' u'' → effChain P ops T w Q os (A.put o.dst v) u'') → K v u') → lateOp P o A u K) : effChain P ops T w Q (o :: os) A u :=
 ⟨hwant, h _ fun _ _ h1 h2 => ⟨h1, h2⟩⟩
end Go.Proofs.YtflgngjocgiojaaGreat
namespace Go.Proofs.YtflgngjocgiojaaGreat
open Go.RowKit

section
variable {P : Program} {ops : Array Oper} {T : List Nat} {w : World} {Q : Exit → Act → World → Prop}

theorem Upd.keeps {w u v : World} (h : Keeps T w u) (k : Upd T u v) : Keeps T w v :=
 ⟨Nat.le_trans h.1 k.size, fun b hb ht => (k.block b (Nat.lt_of_lt_of_le hb h.1) ht).trans (h.2 b hb ht)⟩

/-- The operations numbered so have these values, each said by D. -/
def YG (ops : Array Oper) (D : Nat → Value → Act → Prop) : List Nat → List Value → Act → Prop
 | [], [], _ => True
 | i :: hs, v :: vs, a => ((∃ o, ops[i]? = some o) ∧ D i v a) ∧ YG ops D hs vs (a.put (dstOf ops i) v)
 | _, _, _ => False
/-- D does not see what is written elsewhere. -/
structure Blind (ops : Array Oper) (D : Nat → Value → Act → Prop) : Prop where
 l : ∀ (i j : Nat) (v u : Value) (a : Act), (∃ o, ops[i]? = some o) → (∃ o, ops[j]? = some o) → Apart ops i j → (D j v (a.put (dstOf ops i) u) ↔ D j v a)
 r : ∀ (i j : Nat) (v u : Value) (a : Act), (∃ o, ops[i]? = some o) → (∃ o, ops[j]? = some o) → Apart ops i j → (D i v (a.put (dstOf ops j) u) ↔ D i v a)

theorem yg_pull {D : Nat → Value → Act → Prop} (hD : Blind ops D) {j : Nat} {post : List Nat} {vj : Value} {vpost : List Value} :
  ∀ (pre : List Nat) (vpre : List Value) (a : Act), pre.length = vpre.length → (∀ i ∈ pre, Apart ops i j) →
   YG ops D (pre ++ j :: post) (vpre ++ vj :: vpost) a →
   YG ops D (j :: (pre ++ post)) (vj :: (vpre ++ vpost)) a ∧ puts ops (pre ++ j :: post) (vpre ++ vj :: vpost) a = puts ops (j :: (pre ++ post)) (vj :: (vpre ++ vpost)) a
 | [], [], a, _, _, h => ⟨h, rfl⟩
 | i :: pre, v :: vpre, a, hl, hap, h => by
  obtain ⟨⟨⟨oi, hoi⟩, hyi⟩, h2⟩ := h
  obtain ⟨h3, h4⟩ := yg_pull hD pre vpre _ (by simpa using hl) (fun k hk => hap k (List.mem_cons_of_mem _ hk)) h2
  obtain ⟨⟨⟨oj, hoj⟩, hyj⟩, h5⟩ := h3
  have hij := hap i (List.mem_cons_self)
  have ha := hij oi oj hoi hoj
  have hsw := put_swap hoi hoj ha a v vj
  refine ⟨⟨⟨⟨oj, hoj⟩, ?_⟩, ⟨⟨oi, hoi⟩, ?_⟩, ?_⟩, ?_⟩
  ·exact (hD.l i j vj v a ⟨oi, hoi⟩ ⟨oj, hoj⟩ hij).1 hyj
  ·exact (hD.r i j v vj a ⟨oi, hoi⟩ ⟨oj, hoj⟩ hij).2 hyi
  ·rw [← hsw]; exact h5
  ·simp only [List.cons_append, puts] at h4 ⊢
   rw [h4, hsw]
theorem yg_put {D : Nat → Value → Act → Prop} (hD : Blind ops D) {t : Nat} {ot : Oper} (ht : ops[t]? = some ot) {x : Value} :
  ∀ (hs : List Nat) (vs : List Value) (a : Act), (∀ i ∈ hs, Apart ops i t) → YG ops D hs vs a →
   YG ops D hs vs (a.put (dstOf ops t) x)
 | [], [], _, _, _ => trivial
 | i :: hs, v :: vs, a, hap, h => by
  obtain ⟨⟨⟨oi, hoi⟩, hyi⟩, h2⟩ := h
  have hit := hap i (List.mem_cons_self)
  have ha := hit oi ot hoi ht
  refine ⟨⟨⟨oi, hoi⟩, (hD.r i t v x a ⟨oi, hoi⟩ ⟨ot, ht⟩ hit).2 hyi⟩, ?_⟩
  rw [← put_swap hoi ht ha]
  exact yg_put hD ht hs vs _ (fun k hk => hap k (List.mem_cons_of_mem _ hk)) h2
theorem yg_append {D : Nat → Value → Act → Prop} : ∀ (hs : List Nat) (vs : List Value) (hs' : List Nat) (vs' : List Value) (a : Act), YG ops D hs vs a → YG ops D hs' vs' (puts ops hs vs a) →
  YG ops D (hs ++ hs') (vs ++ vs') a ∧ puts ops (hs ++ hs') (vs ++ vs') a = puts ops hs' vs' (puts ops hs vs a)
 | [], [], _, _, _, _, h2 => ⟨by simpa [puts] using h2, by simp [puts]⟩
 | i :: hs, v :: vs, hs', vs', a, h1, h2 => by
  have h3 := yg_append hs vs hs' vs' (a.put (dstOf ops i) v) h1.2 (by simpa [puts] using h2)
  exact ⟨⟨h1.1, h3.1⟩, by simpa [puts] using h3.2⟩

/-- A step from phase k to the next. -/
def stepRun (P : Program) (ops : Array Oper) (T : List Nat) (w : World) (Ph : Nat → World → Prop) (k : Nat) (o : Oper) (v : Value) (a : Act) : Prop :=
 Region.wanted o (yielded ops a.tmps) = true ∧ ∀ u, Keeps T w u → Ph k u → lateOp P o a u (fun v' u' => v' = v ∧ Upd T u u' ∧ Ph (k + 1) u')
/-- What an operation before the chain, no maker, answers: a stepper, or one that only reads, reckons or calls. -/
def DS (P : Program) (ops : Array Oper) (T : List Nat) (w : World) (Ph : Nat → World → Prop) (si : List Nat) (i : Nat) (v : Value) (a : Act) : Prop :=
 ∃ o, ops[i]? = some o ∧ ((i ∈ si ∧ stepRun P ops T w Ph (si.idxOf i) o v a) ∨ (i ∉ si ∧ ∀ x, Keeps T w x → YieldsIn P ops (CL T w x) o v a))
theorem stepRun_l {Ph : Nat → World → Prop} {k : Nat} {oi oj : Oper} {v u : Value} {a : Act} (hs : ∀ cs b, oj.op ≠ .select cs b) (hap : oi.apart ops oj = true) :
  stepRun P ops T w Ph k oj v (a.put oi.dst u) ↔ stepRun P ops T w Ph k oj v a := by
 obtain ⟨h1, _, _⟩ := Oper.apart_spec hap
 unfold stepRun lateOp
 rw [execOp_put (ops := ops) oj hs a oi.dst u h1, wanted_put (ops := ops) oj a oi.dst u h1]
theorem stepRun_r {Ph : Nat → World → Prop} {k : Nat} {oi oj : Oper} {v u : Value} {a : Act} (hs : ∀ cs b, oi.op ≠ .select cs b) (hap : oi.apart ops oj = true) :
  stepRun P ops T w Ph k oi v (a.put oj.dst u) ↔ stepRun P ops T w Ph k oi v a := by
 obtain ⟨_, _, h1⟩ := Oper.apart_spec hap
 unfold stepRun lateOp
 rw [execOp_put (ops := ops) oi hs a oj.dst u h1, wanted_put (ops := ops) oi a oj.dst u h1]
/-- A maker; what it leaves behind lasts, whatever happens to T. -/
structure ES (T : List Nat) where
 j : Nat
 o : Oper
 val : Nat × Nat → Value
 R : Nat × Nat → World → Prop
 st : ∀ a u u', R a u → Upd T u u' → R a u'
def putS {T : List Nat} : List (ES T) → (Nat → Nat × Nat) → Act → Act
 | [], _, A => A
 | m :: ms, f, A => putS ms f (A.put m.o.dst (m.val (f m.j)))
def ASt (P : Program) (ops : Array Oper) (T : List Nat) (w : World) (Ph : Nat → World → Prop) (n : Nat) (Q : Act → World → Prop) (ls : List Oper) (ms : List (ES T)) (A : Act) (u : World) : Prop :=
 ∀ (f : Nat → Nat × Nat) (u' : World), Upd T u u' → Ph n u' → (∀ m ∈ ms, u.heap.size ≤ (f m.j).1 ∧ (f m.j).1 < u'.heap.size ∧ m.R (f m.j) u') → (ms.map fun m => (f m.j).1).Nodup → effChain P ops T w Q ls (putS ms f A) u'
theorem ASt.later {Ph : Nat → World → Prop} {n : Nat} {ls : List Oper} {ms : List (ES T)} {A : Act} {u v : World} {Q : Act → World → Prop} (h : ASt P ops T w Ph n Q ls ms A u) (hv : Upd T u v) : ASt P ops T w Ph n Q ls ms A v :=
 fun f u' hu hp hm hn => h f u' (hv.trans hu) hp (fun m hm' => ⟨Nat.le_trans hv.size (hm m hm').1, (hm m hm').2⟩) hn

def oneOp : List Oper → (Oper → Prop) → Prop
 | [o], K => K o
 | _, _ => False
theorem yg_of_all {Ph : Nat → World → Prop} {si : List Nat} : ∀ (is : List Nat) (vs : List Value) (a : Act), (∀ i ∈ is, i ∉ si) → (∀ v, Keeps T w v → YSeq P ops (CL T w v) is vs a) → YG ops (DS P ops T w Ph si) is vs a
 | [], [], _, _, _ => trivial
 | i :: is, v :: vs, a, hn, h => by
  obtain ⟨⟨o, ho, _⟩, _⟩ := h w (Keeps.refl _ _)
  refine ⟨⟨⟨o, ho⟩, o, ho, .inr ⟨hn i List.mem_cons_self, fun x hx => ?_⟩⟩, yg_of_all is vs _ (fun j hj => hn j (List.mem_cons_of_mem _ hj)) (fun x hx => (h x hx).2)⟩
  obtain ⟨⟨o', ho', hy⟩, _⟩ := h x hx
  rw [ho] at ho'; cases ho'
  exact hy
 | [], _ :: _, _, _, h => (h w (Keeps.refl _ _)).elim
 | _ :: _, [], _, _, h => (h w (Keeps.refl _ _)).elim

theorem piece {l : List Oper} {Ph : Nat → World → Prop} {si : List Nat} {i m : Nat} {a A : Act} (hml : m ≤ l.length) (hp : placesFit ((l.drop i).take (m - i)) a.tmps.size = true) (hns : ∀ x, i ≤ x → x < m → x ∉ si)
  (hq : ∀ v, Keeps T w v → Nonempty (Later T w v) → wpQuiet P l.toArray (fun w' => ∃ x : Later T w v, w' = x.u) (fun a' => a' = A) ((l.drop i).take (m - i)) a) :
  ∃ vs : List Value, (List.range' i (m - i)).length = vs.length ∧ YG l.toArray (DS P l.toArray T w Ph si) (List.range' i (m - i)) vs a ∧ puts l.toArray (List.range' i (m - i)) vs a = A := by
 simp only [placesFit, Bool.and_eq_true, decide_eq_true_eq] at hp
 have hlen : ((l.drop i).take (m - i)).length = (List.range' i (m - i)).length := by simp; omega
 have hY := fun v hv => yseq_of_quiet (P := P) (ops := l.toArray) (C := CL T w v) (A := A) ((l.drop i).take (m - i)) (List.range' i (m - i)) a hlen (fun j x hj => by rw [(seg_at hj).1]; simp) (fun o ho => by
   have := List.all_eq_true.1 hp.1 o ho
   cases hd : o.dst with
   | none => rw [hd] at this; cases this
   | some d => rw [hd] at this; exact ⟨d, rfl, by simpa using this⟩) hp.2 (hq v hv ⟨⟨v, hv, Below.refl _ _⟩⟩)
 refine ⟨_, by rw [List.length_map]; exact hlen.symm, yg_of_all _ _ a (fun x hx => ?_) (fun v hv => (hY v hv).1), (hY w (Keeps.refl _ _)).2⟩
 have := List.mem_range'_1.1 hx
 exact hns x (by omega) (by omega)

/-- What a maker answers, and what it leaves behind. -/
structure EBS (T : List Nat) where
 val : Nat × Nat → Value
 R : Nat × Nat → World → Prop
 st : ∀ a u u', R a u → Upd T u u' → R a u'
end
end Go.Proofs.YtflgngjocgiojaaGreat
