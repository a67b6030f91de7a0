/- Plain: determinants over the integers, by the last column. No program in sight. -/
import Derived.Test.YtflgngjocgiojaaGreatPlaneA
import Derived.Test.YtflgngjocgiojaaGreatLate
import Derived.Laws.OwnMore
import Derived.Deep.AppendLies
import Derived.Test.YtflgngjocgiojaaGreatRows
import Derived.WalkKit
import Derived.ProofKit
import Derived.OpenShut
import Derived.ShutString
import Derived.ChangeOld
import Derived.Below
import Derived.ChangeSame
namespace Go.Proofs.YtflgngjocgiojaaGreat
open Go.RowKit

end Go.Proofs.YtflgngjocgiojaaGreat
namespace Go.Proofs.YtflgngjocgiojaaGreat
open Go.RowKit

end Go.Proofs.YtflgngjocgiojaaGreat
namespace Go.Proofs.YtflgngjocgiojaaGreat
open Go.RowKit

/-- w' is w but for the blocks T and what is new. -/
structure Upd (T : List Nat) (w w' : World) : Prop where
 os : w'.os = w.os
 tape : w'.tape = w.tape
 output : w'.output = w.output
 size : w.heap.size ≤ w'.heap.size
 block : ∀ b, b < w.heap.size → b ∉ T → w'.heap[b]? = w.heap[b]?
theorem Upd.refl (T : List Nat) (w : World) : Upd T w w := ⟨rfl, rfl, rfl, Nat.le_refl _, fun _ _ _ => rfl⟩
theorem Upd.trans {T : List Nat} {a b c : World} (h : Upd T a b) (k : Upd T b c) : Upd T a c :=
 ⟨k.os.trans h.os, k.tape.trans h.tape, k.output.trans h.output, Nat.le_trans h.size k.size, fun i hi ht => (k.block i (Nat.lt_of_lt_of_le hi h.size) ht).trans (h.block i hi ht)⟩
theorem Upd.of_below {T : List Nat} {w w' : World} (h : Below w.heap.size w w') : Upd T w w' := ⟨h.os, h.tape, h.output, h.size, fun b hb _ => h.block b hb⟩
theorem Upd.drewN {T : List Nat} {a w : World} (h : Upd T a w) (n : Nat) : Upd T a (w.drewN n) := ⟨h.os, h.tape, h.output, h.size, h.block⟩
theorem Upd.drew {T : List Nat} {a w : World} (h : Upd T a w) : Upd T a w.drew := ⟨h.os, h.tape, h.output, h.size, h.block⟩
theorem Upd.alloc {T : List Nat} {a w : World} (h : Upd T a w) (o : Obj) : Upd T a (w.alloc o) :=
 h.trans (.of_below ((Below.refl _ _).alloc (Nat.le_refl _) o))
theorem Upd.set {T : List Nat} {a w : World} (h : Upd T a w) {p : Addr} (hp : p.block ∈ T) (x : Value) : Upd T a (w.setCell p x) :=
 h.trans ⟨rfl, rfl, rfl, by simp [World.setCell], fun b hb ht => Below.heap_setCell _ _ _ _ (fun e => ht (e ▸ hp))⟩
theorem Upd.hop {T : List Nat} {a b c : World} (h : Upd T a b) (k : Below b.heap.size b c) : Upd T a c := h.trans (.of_below k)
/-- What is written is new to an elder world. -/
theorem Upd.below {T : List Nat} {w v v' : World} (k : Below w.heap.size w v) (h : Upd T v v') (ht : ∀ b ∈ T, w.heap.size ≤ b) : Below w.heap.size w v' :=
 k.trans ⟨h.os, h.tape, h.output, h.size, fun b hb => h.block b (Nat.lt_of_lt_of_le hb k.size) (fun hm => by have := ht b hm; omega)⟩
theorem Own.upd {T : List Nat} {w w' : World} {b : Nat} {cs : Array Value} (h : Own w b cs) (k : Upd T w w') (ht : b ∉ T) : Own w' b cs := h.of_block (k.block b h.lt ht)

theorem mod_eq (a b : Int) : a.tmod b % b = a % b := by
 have h := Int.tmod_add_mul_tdiv a b
 have e : a.tmod b = a + b * (-(a.tdiv b)) := by rw [Int.mul_neg]; omega
 rw [e, Int.add_mul_emod_self_left]
theorem tmod_bd (a b : Int) (hb : 1 ≤ b) : -b < a.tmod b ∧ a.tmod b < b :=
 ⟨Int.lt_tmod_of_pos a (by omega), Int.tmod_lt_of_pos a (by omega)⟩

set_option maxHeartbeats 400000 in
theorem ref1_Mod (a b : Int) (hb : 1 ≤ b) (hb2 : b ≤ 1000000000) (w : World) :
  Calls Tryz.prog 39 #[.int .i64 a, .int .i64 b] w fun r w' => r = .returned (.int .i64 (a % b)) ∧ w = w' := by
 have hm := Lib.hid (mod_eq a b)
 have hbd := tmod_bd a b hb
 have h0 : ¬ b = 0 := by omega
 have hlt : ¬ b < 1 := by omega
 go_enter Tryz.func39, Tryz.ntmps39
 go_wp2
 go_ret
 exact ⟨ret_int hm.out, rfl⟩

/-- The draw in block bd has the numbers l left. -/
structure DrawAt (w : World) (bd : Nat) (l : List Int) : Prop where
 ex : ∃ (A : Option Addr) (n cap at_ : Nat), Own w bd #[.slice A n cap, .int .i64 at_] ∧ at_ + l.length = n ∧ n ≤ 9223372036854775807 ∧
  (l ≠ [] → ∃ b off, A = some ⟨b, off, none⟩ ∧ b < bd ∧ ∀ i, i < l.length → w.cell? ⟨b, off + (at_ + i), none⟩ = some (.int .i64 (l.getD i 0)))
def nextV : List Int → Int → Int
 | [], _ => 0
 | x :: _, m => x % m

set_option maxRecDepth 100000 in
set_option maxHeartbeats 400000 in
theorem ref1_Next (bd : Nat) (l : List Int) (m : Int) (hm : 1 ≤ m) (hm2 : m ≤ 1000000000) (w : World) (hd : DrawAt w bd l) :
  Calls Tryz.prog 34 #[.pointer (some ⟨bd, 0, none⟩), .int .i64 m] w fun r w' => r = .returned (.int .i64 (nextV l m)) ∧ (Upd [bd] w w' ∧ DrawAt w' bd l.tail) := by
 obtain ⟨A, n, cap, at_, ho, hn, hmax, hl⟩ := hd.ex
 have oc := ho.cell
 have of := ho.thaw
 cases l with
 | nil =>
  have hge : (n : Int) ≤ (at_ : Int) := by simp at hn; omega
  go_enter Tryz.func34, Tryz.ntmps34
  go_wp2
  go_quiet (fail)
  go_wp2
  go_ret
  exact ⟨rfl, ⟨rfl, rfl, rfl, by simp, fun _ _ _ => rfl⟩, ⟨A, n, cap, at_, ho, hn, hmax, fun h => absurd rfl h⟩⟩
 | cons x l =>
  obtain ⟨b, off, rfl, hbd, hc⟩ := hl (by simp)
  have hne : b ≠ bd := by omega
  have hlt : b < w.heap.size := by have := ho.lt; omega
  have h0 := hc 0 (by simp)
  have hlt2 : at_ < n := by simp at hn; omega
  have hge : ¬ (n : Int) ≤ (at_ : Int) := by omega
  have hge2 : (at_ : Int) < (n : Int) := by omega
  simp at h0
  go_enter Tryz.func34, Tryz.ntmps34
  go_wp2
  go_quiet (fail)
  go_wp2
  have p := (ho.drewN nq).set 1 (.int .i64 ((at_ : Int) + 1))
  have hcW : ((w.drewN nq).setCell ⟨bd, 1, none⟩ (.int .i64 ((at_ : Int) + 1))).cell? ⟨b, off + at_, none⟩ = some (.int .i64 x) := by
   rw [World.cell?_setCell_other _ _ _ _ (by intro e; injection e with e1; exact hne e1.symm)]; exact h0
  have hall : ∀ i, i < l.length → ((w.drewN nq).setCell ⟨bd, 1, none⟩ (.int .i64 ((at_ : Int) + 1))).cell? ⟨b, off + (at_ + 1 + i), none⟩ = some (.int .i64 (l.getD i 0)) := fun i hi => by
   rw [World.cell?_setCell_other _ _ _ _ (by intro e; injection e with e1; exact hne e1.symm)]
   have := hc (i + 1) (by simp; omega)
   rw [show off + (at_ + (i + 1)) = off + (at_ + 1 + i) by omega] at this
   simpa using this
  have hU : Upd [bd] w ((w.drewN nq).setCell ⟨bd, 1, none⟩ (.int .i64 ((at_ : Int) + 1))) := ((Upd.refl _ _).drewN nq).set (by simp) _
  generalize (w.drewN nq).setCell ⟨bd, 1, none⟩ (.int .i64 ((at_ : Int) + 1)) = W at *
  have HALL := Lib.hid hall
  clear hall h0 oc of hc hl
  have p1 := p.lt
  have hbW : b < W.heap.size := Nat.lt_of_lt_of_le hlt hU.size
  refine region_late 13 [] (by kernel_rfl) (by kernel_rfl) (by rfl) ?_
  apply Exists.intro
  refine ⟨fun v hv hne2 => ?_, fun u hu => ?_⟩
  ·simp only [List.take_succ_cons, List.take_zero]
   have d1 := fun x => (p.later (v := v) (T := []) (by simp) x).cell
   have d2 := fun y : Later [] W v => (y.cell b (off + at_) hbW (by simp)).trans hcW
   simp only [List.setIfInBounds_toArray, List.set_cons_zero, List.set_cons_succ] at d1
   repeat (go_big_quiet_step ((go_at_call 39; exact lateS (ref1_Mod _ _ hm hm2 _))))
   refine wpQuiet_nil ?_
   exact rfl
  ·simp only [List.drop_succ_cons, List.drop_zero]
   refine late_mem (fun K hK => ?_)
   go_simp
   refine hK _ _ (Keeps.of_below hu) (fun u2 hu2 => ?_)
   clear hK K
   refine late_nil ?_
   (try simp only [Act.put, List.setIfInBounds_toArray, List.set_cons_zero, List.set_cons_succ])
   go_wp2
   go_ret
   have hb2 := Below.hop hu hu2
   exact ⟨rfl, hU.hop hb2, ⟨_, n, cap, at_ + 1, p.below hb2, by simp at hn ⊢; omega, hmax, fun _ => ⟨b, off, rfl, hbd, fun i hi => (hb2.cell (p := ⟨b, _, none⟩) hbW).trans (HALL.out i hi)⟩⟩⟩

theorem DrawAt.of_blocks {w w' : World} {bd : Nat} {l : List Int} (h : DrawAt w bd l) (hb : ∀ i, i ≤ bd → w'.heap[i]? = w.heap[i]?) : DrawAt w' bd l := by
 obtain ⟨A, n, cap, at_, ho, hn, hmax, hl⟩ := h.ex
 refine ⟨A, n, cap, at_, ho.of_block (hb bd (Nat.le_refl _)), hn, hmax, fun h1 => ?_⟩
 obtain ⟨b, off, e, hlt, hc⟩ := hl h1
 exact ⟨b, off, e, hlt, fun i hi => (World.cell?_of_block (w := w) (a := ⟨b, _, none⟩) (hb b (by omega))).trans (hc i hi)⟩
theorem DrawAt.below {w w' : World} {bd : Nat} {l : List Int} (h : DrawAt w bd l) (hb : Below w.heap.size w w') : DrawAt w' bd l := by
 have hlt : bd < w.heap.size := by obtain ⟨_, _, _, _, ho, _⟩ := h.ex; exact ho.lt
 exact h.of_blocks fun i hi => hb.block i (by omega)
theorem DrawAt.alloc {w : World} {bd : Nat} {l : List Int} (h : DrawAt w bd l) (o : Obj) : DrawAt (w.alloc o) bd l := h.below ((Below.refl _ _).alloc (Nat.le_refl _) o)
theorem DrawAt.lt {w : World} {bd : Nat} {l : List Int} (h : DrawAt w bd l) : bd < w.heap.size := by
 obtain ⟨_, _, _, _, ho, _⟩ := h.ex
 exact ho.lt

/-- A slice of ints reads as the list l. -/
structure SliceI (w : World) (A : Option Addr) (n : Nat) (l : List Int) : Prop where
 len : l.length = n
 max : n ≤ 9223372036854775807
 row : l ≠ [] → ∃ b off, A = some ⟨b, off, none⟩ ∧ b < w.heap.size ∧ ∀ i, i < l.length → w.cell? ⟨b, off + i, none⟩ = some (.int .i64 (l.getD i 0))
theorem SliceI.below {w w' : World} {A : Option Addr} {n : Nat} {l : List Int} (h : SliceI w A n l) (hb : Below w.heap.size w w') : SliceI w' A n l :=
 ⟨h.len, h.max, fun h1 => by
  obtain ⟨b, off, e, hlt, hc⟩ := h.row h1
  exact ⟨b, off, e, Nat.lt_of_lt_of_le hlt hb.size, fun i hi => (hb.cell (p := ⟨b, _, none⟩) hlt).trans (hc i hi)⟩⟩
theorem DrawAt.start {w : World} {A : Option Addr} {n cap : Nat} {l : List Int} {T : TypeId} (h : SliceI w A n l) : DrawAt (w.alloc (.cells #[.slice A n cap, .int .i64 0] T)) w.heap.size l := by
 refine ⟨A, n, cap, 0, Own.new rfl, by rw [h.len]; omega, h.max, fun h1 => ?_⟩
 obtain ⟨b, off, e, hlt, hc⟩ := h.row h1
 exact ⟨b, off, e, hlt, fun i hi => by rw [Nat.zero_add]; exact (World.cell?_alloc_lt w _ ⟨b, _, none⟩ hlt).trans (hc i hi)⟩

theorem ownsRow_upd {w w' : World} {base : Nat} {e : TypeId} {size : Nat} {v : Value} {n : Nat} {xs : List Value} {bd : Nat} (h : w.ownsRow base e size v n xs) (k : Upd [bd] w w') (hb : bd < base) : w'.ownsRow base e size v n xs := by
 obtain ⟨h1, h2⟩ := h
 refine ⟨h1, ?_⟩
 rcases h2 with h2 | ⟨g, cap, cur, e1, e2, e3, e4⟩
 ·exact .inl h2
 ·refine .inr ⟨g, cap, cur, e1, e2, ?_, e4⟩
  have hg : g < w.heap.size := by
   rcases Nat.lt_or_ge g w.heap.size with h | h
   ·exact h
   ·rw [Array.getElem?_eq_none h] at e3; cases e3
  rw [k.block g hg (by simp; omega)]; exact e3
theorem ownBlock_ge {w : World} {base : Nat} {e : TypeId} {size : Nat} {v : Value} {n : Nat} {xs : List Value} (h : w.ownsRow base e size v n xs) {g : Nat} (hg : v.ownBlock = some g) : base ≤ g := by
 rcases h.2 with ⟨rfl, _⟩ | ⟨g', cap, cur, rfl, e2, _⟩
 ·cases hg
 ·simp [Value.ownBlock] at hg; omega
theorem ownsRow_cell {w : World} {base : Nat} {e : TypeId} {size : Nat} {g n cap : Nat} {xs : List Value} (h : w.ownsRow base e size (.slice (some ⟨g, 0, none⟩) n cap) n xs) (hn : 0 < n) :
  base ≤ g ∧ g < w.heap.size ∧ n ≤ cap ∧ cap ≤ maxLen ∧ ∀ i, i < n * size → w.cell? ⟨g, i, none⟩ = xs[i]? := by
 rcases h.2 with ⟨e1, e2⟩ | ⟨g', cap', cur, e1, e2, e3, e4, e5, e6, e7⟩
 ·omega
 ·injection e1 with a1 a2 a3
  injection a1 with a1; injection a1 with a1
  subst a1; subst a3
  have hg : g < w.heap.size := by
   rcases Nat.lt_or_ge g w.heap.size with h | h
   ·exact h
   ·rw [Array.getElem?_eq_none h] at e3; cases e3
  refine ⟨e2, hg, e4, e5, fun i hi => ?_⟩
  rw [cell_of_row w g i cur e (0, 0) e3, ← e7]
  rw [List.getElem?_take_of_lt hi, Array.getElem?_toList]

theorem nextV_bd (l : List Int) (m : Int) (hm : 1 ≤ m) : 0 ≤ nextV l m ∧ nextV l m < m := by
 cases l with
 | nil => simp [nextV]; omega
 | cons x l => exact ⟨Int.emod_nonneg _ (by omega), Int.emod_lt_of_pos _ (by omega)⟩

end Go.Proofs.YtflgngjocgiojaaGreat
namespace Go.Proofs.YtflgngjocgiojaaGreat
open Go.ChangeShapes Go.WideShapes Go.ChangeAt Go.RowKit

theorem own : ownKnob Tryz.prog.godebug = none := by kernel_rfl
theorem laidOut : laidOutB Tryz.prog = true := by kernel_rfl

section
variable {H : Type} {enc : TypeId × Value → H} {P : Program} {w : World} {base : Nat} {spare : Nat → Bool} {held : Bool}

/-- Whatever reads at type t is n ints of kind k. -/
def Flat (P : Program) (t : TypeId) (n : Nat) (k : IntKind) : Prop :=
 ∀ (H : Type) (enc : TypeId × Value → H) (w : World) (base : Nat) (spare : Nat → Bool) (held : Bool) (fuel : Nat) (cs : List Value) (x : DataW H × List MemPlace),
  DataW.trod enc P w base spare held fuel t cs = some x → cs.length = n ∧ ∀ i, i < n → ∃ m, cs[i]? = some (.int k m) ∧ (Lit.int k m).wf = true

theorem flat_int {t : TypeId} {k : IntKind} (ht : P.underlying t = some (.int k)) : Flat P t 1 k := by
 intro H enc w base spare held fuel cs x h
 obtain ⟨n, rfl, _, hw⟩ := DataW.trod_int ht h
 refine ⟨rfl, fun i hi => ?_⟩
 obtain rfl : i = 0 := by omega
 exact ⟨n, rfl, hw⟩
theorem flat_array {t e : TypeId} {c m : Nat} {k : IntKind} (ht : P.underlying t = some (.array c e)) (hm : P.cellsOf e = m) (hc : P.cellsOf t = c * m) (h0 : 0 < m) (he : Flat P e m k) : Flat P t (c * m) k := by
 intro H enc w base spare held fuel cs x h
 obtain ⟨xs, f, _, _, hlen, hxs, hat⟩ := DataW.trod_array ht h
 refine ⟨hlen.trans hc, fun i hi => ?_⟩
 have hq : i / m < c := Nat.div_lt_of_lt_mul (by rw [Nat.mul_comm]; exact hi)
 have h1 := hat (i / m) hq
 rw [hm] at h1
 have hx : xs[i / m]? = some (xs[i / m]'(by omega)) := List.getElem?_eq_getElem (by omega)
 rw [hx] at h1
 obtain ⟨_, h2⟩ := he _ _ _ _ _ _ _ _ _ h1
 obtain ⟨v, hv, hw⟩ := h2 (i % m) (Nat.mod_lt _ h0)
 refine ⟨v, ?_, hw⟩
 rw [List.getElem?_take_of_lt (Nat.mod_lt _ h0), List.getElem?_drop, Nat.mul_comm, Nat.div_add_mod] at hv
 exact hv
theorem ints_of {k : IntKind} : ∀ (cs : List Value), (∀ i, i < cs.length → ∃ m, cs[i]? = some (.int k m) ∧ (Lit.int k m).wf = true) → ∃ ms : List Int, cs = ms.map (Value.int k) ∧ ∀ m ∈ ms, (Lit.int k m).wf = true
 | [], _ => ⟨[], rfl, by simp⟩
 | c :: cs, h => by
  obtain ⟨m, hm, hw⟩ := h 0 (by simp)
  obtain ⟨ms, he, hws⟩ := ints_of cs (fun i hi => by simpa using h (i + 1) (by simp; omega))
  simp at hm
  refine ⟨m :: ms, by rw [he, hm]; rfl, ?_⟩
  intro x hx
  rcases List.mem_cons.1 hx with rfl | hx
  ·exact hw
  ·exact hws x hx
theorem okWide_arr {t : TypeId} {v : Value} {r : Reach} {b : Nat} {c : Nat} {e : TypeId} (ht : P.underlying t = some (.array c e)) (h : Value.okWide P w r b t v) : ∃ cs, v = .agg cs ∧ cs.size = P.cellsOf t := by
 simp only [Value.okWide, ht] at h
 obtain ⟨cs, h1, h2, _⟩ := h
 exact ⟨cs, h1, h2⟩
theorem open_flat {t : TypeId} {n : Nat} {k : IntKind} {v : Value} {cs : Array Value} {d : DataW H} {p : List MemPlace} (hf : Flat P t n k) (hv : v = .agg cs) (h : DataW.Trod enc P w base spare held t v d p) :
  ∃ ms : List Int, v = .agg (ms.map (Value.int k)).toArray ∧ ms.length = n ∧ ∀ m ∈ ms, (Lit.int k m).wf = true := by
 obtain ⟨fuel, h⟩ := h
 subst hv
 obtain ⟨h1, h2⟩ := hf _ _ _ _ _ _ _ _ _ h
 obtain ⟨ms, he, hw⟩ := ints_of cs.toList (fun i hi => h2 i (by simpa [Value.cells] using h1 ▸ hi))
 refine ⟨ms, ?_, ?_, hw⟩
 ·rw [← he]
 ·have : cs.toList.length = n := h1
  rw [he] at this; simpa using this
end
/-- A slice of ints that came in. -/
theorem sliceI_of {W : World} {a : Option Addr} {len cap : Nat} {zs : List Int}
  (h : (a = none ∧ len = 0 ∧ cap = 0 ∧ zs = []) ∨ ∃ x, a = some x ∧ len ≤ cap ∧ cap ≤ maxLen ∧ zs.length = cap ∧ (∀ i, i < zs.length → W.cell? (x.add i) = some (.int .i64 (zs.getD i 0))) ∧ ∀ n ∈ zs, (Lit.int .i64 n).wf = true)
  : SliceI W a len (zs.take len) ∧ len ≤ cap ∧ cap ≤ 9223372036854775807 := by
 rcases h with ⟨rfl, rfl, rfl, rfl⟩ | ⟨x, rfl, hl, hm, hz, hc, _⟩
 ·exact ⟨⟨rfl, by omega, fun h => absurd rfl h⟩, by omega, by omega⟩
 ·unfold maxLen at hm
  refine ⟨⟨by simp; omega, by omega, fun hne => ?_⟩, hl, hm⟩
  have hpos : 0 < len := by
   rcases Nat.eq_zero_or_pos len with h | h
   ·rw [h] at hne; simp at hne
   ·exact h
  obtain ⟨b, off, spot⟩ := x
  have h0 := hc 0 (by omega)
  have hs : spot = none := by simpa [Addr.add] using World.cell?_spot h0
  subst hs
  refine ⟨b, off, rfl, ?_, fun i hi => ?_⟩
  ·simp [Addr.add] at h0
   rcases Nat.lt_or_ge b W.heap.size with h | h
   ·exact h
   ·simp [World.cell?, Array.getElem?_eq_none h] at h0
  ·have hi' : i < len := by simp at hi; omega
   have h1 := hc i (by omega)
   have e : (zs.take len).getD i 0 = zs.getD i 0 := by
    simp [List.getElem?_take_of_lt hi']
   rw [e, ← h1]
   by_cases h2 : i = 0
   ·subst h2; simp [Addr.add]
   ·simp [Addr.add, h2]
theorem len3 {l : List Int} (h : l.length = 3) : ∃ a b c, l = [a, b, c] := by
 match l, h with
 | [a, b, c], _ => exact ⟨a, b, c, rfl⟩
end Go.Proofs.YtflgngjocgiojaaGreat
namespace Go.Proofs.YtflgngjocgiojaaGreat
open Go.RowKit
end Go.Proofs.YtflgngjocgiojaaGreat
namespace Go.Proofs.YtflgngjocgiojaaGreat
open Go.ChangeShapes Go.WideShapes Go.ChangeAt Go.RowKit

section
variable {H : Type} {enc : TypeId × Value → H} {P : Program} {w : World} {base : Nat} {held : Bool}
theorem slice_in {e i : TypeId} {fuel : Nat} {cs : List Value} {x : DataW H × List MemPlace} (he : P.underlying e = some (.slice i)) (hi : P.underlying i = some (.int .i64)) (hc : P.cellsOf i = 1)
  (h : DataW.trod enc P w base (fun _ => true) held fuel e cs = some x) :
  ∃ a n c z, cs = [.slice a n c] ∧ SliceI w a n z ∧ n ≤ c ∧ c ≤ 9223372036854775807 := by
 rcases open_ints he hi hc h with ⟨rfl, _⟩ | ⟨x, l, c, zs, rfl, _, hl, hm, hz, _, hcell, hwz⟩
 ·exact ⟨_, _, _, _, rfl, sliceI_of (zs := []) (.inl ⟨rfl, rfl, rfl, rfl⟩)⟩
 ·exact ⟨_, _, _, _, rfl, sliceI_of (zs := zs) (.inr ⟨_, rfl, hl, hm, by simpa using hz, hcell, hwz⟩)⟩
end
end Go.Proofs.YtflgngjocgiojaaGreat
namespace Go.Proofs.YtflgngjocgiojaaGreat
open Go.ChangeShapes Go.WideShapes Go.ChangeAt Go.RowKit

theorem u8M_wf {n : Int} (h : (Lit.int .u8 n).wf = true) : 0 ≤ n ∧ n ≤ 255 := by
 simp [Lit.wf] at h
 exact h
section
variable {H : Type} {enc : TypeId × Value → H} {w : World} {base : Nat} {held : Bool}
set_option maxRecDepth 100000 in
theorem open_case {v : Value} {cs : Array Value} {d : DataW H} {p : List MemPlace} (hv : v = .agg cs) (h : DataW.Trod enc Tryz.prog w base (fun _ => true) held 24 v d p) :
  ∃ a n c z x y, v = .agg #[.slice a n c, .int .u8 x, .int .u8 y] ∧ SliceI w a n z ∧ (0 ≤ x ∧ x ≤ 255) ∧ (0 ≤ y ∧ y ≤ 255) := by
 obtain ⟨fuel, h⟩ := h
 subst hv
 obtain ⟨xs, f, _, _, hlen, hxs, hat⟩ := DataW.trod_struct Tryz.underlying24 h
 have hc3 : Tryz.prog.cellsOf 24 = 3 := by kernel_rfl
 have hl3 : cs.toList.length = 3 := hlen.trans hc3
 have hx3 : xs.length = 3 := hxs
 match hcs : cs.toList, hl3 with
 | [x0, x1, x2], _ =>
  match xs, hx3 with
  | [y0, y1, y2], _ =>
   have e0 : Tryz.prog.cellsOf 22 = 1 := by kernel_rfl
   have e1 : Tryz.prog.cellsOf 5 = 1 := by kernel_rfl
   have h0 : DataW.trod enc Tryz.prog w base (fun _ => true) held f 22 ((List.drop 0 cs.toList).take (Tryz.prog.cellsOf 22)) = some y0 := hat 0 _ rfl
   have h1 : DataW.trod enc Tryz.prog w base (fun _ => true) held f 5 ((List.drop 1 cs.toList).take (Tryz.prog.cellsOf 5)) = some y1 := hat 1 _ rfl
   have h2 : DataW.trod enc Tryz.prog w base (fun _ => true) held f 5 ((List.drop 2 cs.toList).take (Tryz.prog.cellsOf 5)) = some y2 := hat 2 _ rfl
   rw [e0, hcs] at h0
   rw [e1, hcs] at h1
   rw [e1, hcs] at h2
   simp only [List.drop_zero, List.drop_succ_cons, List.take_succ_cons, List.take_zero] at h0 h1 h2
   obtain ⟨a, n, c, z, g0, s0⟩ := slice_in Tryz.underlying22 Tryz.underlying3 (by kernel_rfl) h0
   obtain ⟨m1, g1, _, w1⟩ := DataW.trod_int Tryz.underlying5 h1
   obtain ⟨m2, g2, _, w2⟩ := DataW.trod_int Tryz.underlying5 h2
   simp at g0 g1 g2
   subst g0 g1 g2
   have hca : cs = #[.slice a n c, .int .u8 m1, .int .u8 m2] := by rw [← Array.toList_inj]; exact hcs
   exact ⟨a, n, c, z, m1, m2, by rw [hca], s0.1, u8M_wf w1, u8M_wf w2⟩
end
end Go.Proofs.YtflgngjocgiojaaGreat
namespace Go.Proofs.YtflgngjocgiojaaGreat
open Go.ChangeShapes Go.WideShapes Go.ChangeAt Go.RowKit
theorem flatU8x2 : Flat Tryz.prog 68 2 .u8 := flat_array (c := 2) (m := 1) Tryz.underlying68 (by kernel_rfl) (by kernel_rfl) (by omega) (flat_int Tryz.underlying5)
theorem len2 {l : List Int} (h : l.length = 2) : ∃ a b, l = [a, b] := by
 match l, h with
 | [a, b], _ => exact ⟨a, b, rfl⟩
end Go.Proofs.YtflgngjocgiojaaGreat
namespace Go.Proofs.YtflgngjocgiojaaGreat

/-- The value of digits, the lowest one first. -/
def valD (B : Nat) : List Nat → Nat
 | [] => 0
 | d :: l => d + B * valD B l
theorem valD_append (B : Nat) : ∀ (l m : List Nat), valD B (l ++ m) = valD B l + B ^ l.length * valD B m
 | [], m => by simp [valD]
 | d :: l, m => by
  simp only [List.cons_append, valD, valD_append B l m, List.length_cons, Nat.pow_succ]
  grind
theorem valD_lt {B : Nat} (hB : 0 < B) : ∀ (l : List Nat), (∀ d ∈ l, d < B) → valD B l < B ^ l.length
 | [], _ => by simp [valD]
 | d :: l, h => by
  have h1 := valD_lt hB l (fun x hx => h x (List.mem_cons_of_mem _ hx))
  have h2 := h d List.mem_cons_self
  simp only [valD, List.length_cons, Nat.pow_succ]
  have h3 : B * (valD B l + 1) ≤ B * B ^ l.length := Nat.mul_le_mul_left _ h1
  rw [Nat.mul_add] at h3
  rw [Nat.mul_comm (B ^ l.length) B]
  omega
theorem valD_take (B : Nat) {l : List Nat} {k : Nat} (h : k < l.length) : valD B (l.take (k + 1)) = valD B (l.take k) + B ^ k * l[k] := by
 rw [List.take_succ_eq_append_getElem h, valD_append, List.length_take, Nat.min_eq_left (Nat.le_of_lt h)]
 simp [valD]
theorem valD_zeros (B : Nat) : ∀ n, valD B (List.replicate n 0) = 0
 | 0 => rfl
 | n + 1 => by simp [List.replicate_succ, valD, valD_zeros B n]
/-- Digits without a zero at the end are at least the power of their number less one. -/
theorem valD_ge {B : Nat} (hB : 0 < B) : ∀ (l : List Nat), l ≠ [] → (∀ h : l ≠ [], l.getLast h ≠ 0) → B ^ (l.length - 1) ≤ valD B l
 | [], h, _ => absurd rfl h
 | [d], _, h => by
  have := h (by simp)
  simp at this
  simp [valD]
  omega
 | d :: e :: l, _, h => by
  have q := valD_ge hB (e :: l) (by simp) (fun _ => by have := h (by simp); simpa using this)
  have e1 : valD B (d :: e :: l) = d + B * valD B (e :: l) := rfl
  rw [e1]
  have q2 : B * B ^ ((e :: l).length - 1) ≤ B * valD B (e :: l) := Nat.mul_le_mul_left _ q
  have e2 : B ^ ((d :: e :: l).length - 1) = B * B ^ ((e :: l).length - 1) := by
   simp [Nat.pow_succ, Nat.mul_comm]
  rw [e2]
  omega
/-- One digit of an addition with a carry. -/
theorem add_step {B p x y c k o r s dx dy : Nat} (hp : p = B ^ k) (h : o + p * c = x + y) (hd : r + B * s = dx + dy + c) : (o + p * r) + B ^ (k + 1) * s = (x + p * dx) + (y + p * dy) := by
 rw [Nat.pow_succ, ← hp]
 have e : p * r + p * (B * s) = p * dx + p * dy + p * c := by rw [← Nat.mul_add, hd, Nat.mul_add, Nat.mul_add]
 grind
/-- The estimate is not too small. -/
theorem guess_hi {u v uh ul vh vl W : Nat} (hv : v = vh * W + vl) (hu : u = uh * W + ul) (hul : ul < W) (hvh : 0 < vh) : u / v ≤ uh / vh := by
 rw [Nat.le_div_iff_mul_le hvh]
 have h1 : u / v * v ≤ u := Nat.div_mul_le_self u v
 have h2 : u / v * (vh * W) ≤ u / v * v := Nat.mul_le_mul_left _ (by omega)
 have h3 : (u / v * vh) * W < (uh + 1) * W := by
  rw [Nat.add_mul, Nat.mul_assoc]
  omega
 have h4 := Nat.lt_of_mul_lt_mul_right h3
 omega
theorem valD_set (B : Nat) : ∀ (l : List Nat) (j r : Nat) (h : j < l.length), valD B (l.set j r) + B ^ j * l[j] = valD B l + B ^ j * r
 | [], j, r, h => by simp at h
 | d :: l, 0, r, _ => by simp [valD]; omega
 | d :: l, j + 1, r, h => by
  have q := valD_set B l j r (by simpa using h)
  simp only [List.set_cons_succ, valD, List.getElem_cons_succ, Nat.pow_succ]
  have e : B * (valD B (l.set j r) + B ^ j * l[j]'(by simpa using h)) = B * (valD B l + B ^ j * r) := by rw [q]
  rw [Nat.mul_add, Nat.mul_add] at e
  grind
/-- One digit of a product, with a carry: v is the value before, v' behind, at place p. -/
theorem mul_step {B p v v' d r c s x y t : Nat} (hset : v' + p * d = v + p * r) (hd : r + B * s = c + d + x * y) (h : v + p * c = t) : v' + p * B * s = t + p * (x * y) := by
 have e : p * r + p * B * s = p * c + p * d + p * (x * y) := by rw [Nat.mul_assoc, ← Nat.mul_add, hd, Nat.mul_add, Nat.mul_add]
 omega
/-- One digit of a difference, with a borrow. -/
theorem sub_step {B p x y c k o r s dx dy : Nat} (hp : p = B ^ k) (h : o + y = x + p * c) (hd : r + dy + c = dx + B * s) : (o + p * r) + (y + p * dy) = (x + p * dx) + B ^ (k + 1) * s := by
 rw [Nat.pow_succ, ← hp]
 have e : p * r + p * dy + p * c = p * dx + p * (B * s) := by rw [← Nat.mul_add, ← Nat.mul_add, hd, Nat.mul_add]
 grind
/-- A quotient and a rest are those of the division. -/
theorem div_of {u v q r : Nat} (h : u = q * v + r) (hr : r < v) : u / v = q ∧ u % v = r := by
 subst h
 have hv : 0 < v := by omega
 constructor
 ·rw [Nat.mul_comm, Nat.mul_add_div hv, Nat.div_eq_of_lt hr, Nat.add_zero]
 ·rw [Nat.mul_comm, Nat.mul_add_mod, Nat.mod_eq_of_lt hr]
/-- Shifted digits: the division of u * s by v * s has the same quotient, and the rest times s. -/
theorem div_shift {u v s : Nat} (hs : 0 < s) : (u * s) / (v * s) = u / v ∧ (u * s) % (v * s) = u % v * s := by
 constructor
 ·exact Nat.mul_div_mul_right u v hs
 ·exact Nat.mul_mod_mul_right s u v
end Go.Proofs.YtflgngjocgiojaaGreat
namespace Go.Proofs.YtflgngjocgiojaaGreat

def sumF (f : Nat → Int) : Nat → Int
 | 0 => 0
 | n + 1 => sumF f n + f n
theorem sumF_eq {f g : Nat → Int} : ∀ {n : Nat}, (∀ i, i < n → f i = g i) → sumF f n = sumF g n
 | 0, _ => rfl
 | n + 1, h => by rw [sumF, sumF, sumF_eq (fun i hi => h i (by omega)), h n (by omega)]
theorem sumF_zero {f : Nat → Int} : ∀ {n : Nat}, (∀ i, i < n → f i = 0) → sumF f n = 0
 | 0, _ => rfl
 | n + 1, h => by rw [sumF, sumF_zero (fun i hi => h i (by omega)), h n (by omega)]; rfl
theorem sumF_add (f g : Nat → Int) : ∀ n, sumF (fun i => f i + g i) n = sumF f n + sumF g n
 | 0 => rfl
 | n + 1 => by rw [sumF, sumF, sumF, sumF_add f g n]; omega
theorem sumF_mul (c : Int) (f : Nat → Int) : ∀ n, sumF (fun i => c * f i) n = c * sumF f n
 | 0 => by simp [sumF]
 | n + 1 => by rw [sumF, sumF, sumF_mul c f n, Int.mul_add]
theorem sumF_neg (f : Nat → Int) : ∀ n, sumF (fun i => -f i) n = -sumF f n
 | 0 => rfl
 | n + 1 => by rw [sumF, sumF, sumF_neg f n]; omega
theorem sumF_swap (f : Nat → Nat → Int) (m : Nat) : ∀ n, sumF (fun i => sumF (f i) m) n = sumF (fun k => sumF (fun i => f i k) n) m
 | 0 => by rw [sumF]; exact (sumF_zero (fun _ _ => rfl)).symm
 | n + 1 => by
  rw [sumF, sumF_swap f m n, ← sumF_add]
  rfl
def skip (i a : Nat) : Nat := if a < i then a else a + 1
theorem sumF_skip (f : Nat → Int) : ∀ {n i : Nat}, i ≤ n → sumF (fun k => f (skip i k)) n + f i = sumF f (n + 1)
 | 0, i, h => by
  obtain rfl : i = 0 := by omega
  simp [sumF]
 | n + 1, i, h => by
  rw [sumF, sumF]
  by_cases e : i = n + 1
  ·subst e
   rw [show skip (n + 1) n = n by unfold skip; rw [if_pos (by omega)]]
   have : sumF (fun k => f (skip (n + 1) k)) n = sumF f n := sumF_eq fun k hk => by unfold skip; rw [if_pos (by omega)]
   rw [this]; rfl
  ·rw [show skip i n = n + 1 by unfold skip; rw [if_neg (by omega)]]
   have := sumF_skip f (n := n) (i := i) (by omega)
   omega
/-- 1 or -1. -/
def sg1 (k : Nat) : Int := if k % 2 = 0 then 1 else -1
theorem sg1_succ (k : Nat) : sg1 (k + 1) = -sg1 k := by
 unfold sg1
 by_cases h : k % 2 = 0
 ·rw [if_pos h, if_neg (by omega)]
 ·rw [if_neg h, if_pos (by omega)]; rfl
theorem sg1_mul (a b : Nat) : sg1 a * sg1 b = sg1 (a + b) := by
 unfold sg1
 by_cases h1 : a % 2 = 0
 ·by_cases h2 : b % 2 = 0
  ·rw [if_pos h1, if_pos h2, if_pos (by omega)]; rfl
  ·rw [if_pos h1, if_neg h2, if_neg (by omega)]; rfl
 ·by_cases h2 : b % 2 = 0
  ·rw [if_neg h1, if_pos h2, if_neg (by omega)]; rfl
  ·rw [if_neg h1, if_neg h2, if_pos (by omega)]; rfl
theorem sg1_two (k : Nat) : sg1 (k + k) = 1 := by unfold sg1; rw [if_pos (by omega)]
theorem sg1_abs (k : Nat) : (sg1 k).natAbs = 1 := by unfold sg1; split <;> rfl
/-- The determinant of the first n rows and columns. -/
def det : Nat → (Nat → Nat → Int) → Int
 | 0, _ => 1
 | n + 1, M => sumF (fun i => sg1 (i + n) * M i n * det n (fun a b => M (skip i a) b)) (n + 1)
theorem det_eq : ∀ {n : Nat} {M N : Nat → Nat → Int}, (∀ a b, a < n → b < n → M a b = N a b) → det n M = det n N
 | 0, _, _, _ => rfl
 | n + 1, M, N, h => by
  rw [det, det]
  refine sumF_eq fun i hi => ?_
  rw [h i n hi (by omega), det_eq (N := fun a b => N (skip i a) b) fun a b ha hb => h _ _ (by unfold skip; split <;> omega) (by omega)]
/-- Columns j and j + 1 change places. -/
def swp (j : Nat) (M : Nat → Nat → Int) : Nat → Nat → Int := fun a b => M a (if b = j then j + 1 else if b = j + 1 then j else b)
def eps (i l : Nat) : Int := if l < i then sg1 (i + l + 1) else if i < l then sg1 (i + l) else 0
theorem eps_neg (i l : Nat) : eps l i = -eps i l := by
 unfold eps
 rcases Nat.lt_trichotomy i l with h | h | h
 ·rw [if_pos h, if_neg (by omega), if_pos h, Nat.add_comm l i, sg1_succ]
 ·subst h; rw [if_neg (by omega), if_neg (by omega)]; rfl
 ·rw [if_neg (by omega), if_pos h, if_pos h, Nat.add_comm l i, sg1_succ]; omega
/-- Without the rows i and l. -/
def two (i l a : Nat) : Nat := if i < l then skip l (skip i a) else skip i (skip l a)
theorem two_comm (i l a : Nat) (h : i ≠ l) : two i l a = two l i a := by
 unfold two
 by_cases h1 : i < l
 ·rw [if_pos h1, if_neg (by omega)]
 ·rw [if_neg h1, if_pos (by omega)]
theorem two_skip (i k a : Nat) : skip i (skip k a) = two i (skip i k) a := by
 unfold two skip
 repeat' split
 all_goals omega
theorem det_two (n : Nat) (M : Nat → Nat → Int) :
  det (n + 2) M = sumF (fun i => sumF (fun l => eps i l * M i (n + 1) * M l n * det n (fun a b => M (two i l a) b)) (n + 2)) (n + 2) := by
 rw [det]
 refine sumF_eq fun i hi => ?_
 have h0 : eps i i * M i (n + 1) * M i n * det n (fun a b => M (two i i a) b) = 0 := by
  rw [show eps i i = 0 by unfold eps; rw [if_neg (by omega), if_neg (by omega)]]
  simp
 have h1 := sumF_skip (fun l => eps i l * M i (n + 1) * M l n * det n (fun a b => M (two i l a) b)) (n := n + 1) (i := i) (by omega)
 rw [← h1, h0, Int.add_zero, det, ← sumF_mul]
 refine sumF_eq fun k hk => ?_
 have h2 : det n (fun a b => (fun a b => M (skip i a) b) (skip k a) b) = det n (fun a b => M (two i (skip i k) a) b) := det_eq fun a b _ _ => by rw [← two_skip]
 rw [h2]
 have h3 : eps i (skip i k) = sg1 (i + (n + 1)) * sg1 (k + n) := by
  have e : sg1 (i + (n + 1)) * sg1 (k + n) = sg1 (i + k + 1) := by
   rw [sg1_mul]
   unfold sg1
   by_cases h : (i + k + 1) % 2 = 0
   ·rw [if_pos h, if_pos (by omega)]
   ·rw [if_neg h, if_neg (by omega)]
  rw [e]
  unfold eps skip
  by_cases h : k < i
  ·rw [if_pos h, if_pos h]
  ·rw [if_neg h, if_neg (by omega), if_pos (by omega)]; rfl
 rw [h3]
 simp only [Int.mul_assoc, Int.mul_left_comm, Int.mul_comm]
theorem det_swp : ∀ {n j : Nat} {M : Nat → Nat → Int}, j + 1 ≤ n → det (n + 1) (swp j M) = -det (n + 1) M
 | 0, j, M, h => by omega
 | n + 1, j, M, h => by
  by_cases e : j + 1 = n + 1
  ·obtain rfl : j = n := by omega
   rw [det_two, det_two, ← sumF_neg, sumF_swap]
   refine sumF_eq fun i hi => ?_
   rw [← sumF_neg]
   refine sumF_eq fun l hl => ?_
   by_cases hil : i = l
   ·subst hil
    rw [show eps i i = 0 by unfold eps; rw [if_neg (by omega), if_neg (by omega)]]
    simp
   ·have h1 : swp j M l (j + 1) = M l j := by unfold swp; rw [if_neg (by omega), if_pos rfl]
    have h2 : swp j M i j = M i (j + 1) := by unfold swp; rw [if_pos rfl]
    have h3 : det j (fun a b => swp j M (two l i a) b) = det j (fun a b => M (two i l a) b) := det_eq fun a b _ hb => by
     unfold swp
     rw [if_neg (by omega), if_neg (by omega), two_comm l i a (fun h => hil h.symm)]
    rw [h1, h2, h3, eps_neg i l]
    simp only [Int.neg_mul, Int.mul_neg, Int.mul_assoc, Int.mul_left_comm, Int.mul_comm]
  ·rw [det, det, ← sumF_neg]
   refine sumF_eq fun i hi => ?_
   have h1 : swp j M i (n + 1) = M i (n + 1) := by unfold swp; rw [if_neg (by omega), if_neg (by omega)]
   have h2 : det (n + 1) (fun a b => swp j M (skip i a) b) = -det (n + 1) (fun a b => M (skip i a) b) := det_swp (n := n) (j := j) (M := fun a b => M (skip i a) b) (by omega)
   rw [h1, h2, Int.mul_neg]
/-- Two equal columns, one of them the last. -/
theorem det_same : ∀ (d : Nat) {n j : Nat} {M : Nat → Nat → Int}, j + 1 + d = n → (∀ a, M a j = M a n) → det (n + 1) M = 0
 | 0, n, j, M, h, hc => by
  subst h
  have h1 := det_swp (n := j + 1 + 0) (j := j) (M := M) (Nat.le_refl _)
  have h2 : det (j + 1 + 0 + 1) (swp j M) = det (j + 1 + 0 + 1) M := det_eq fun a b _ _ => by
   unfold swp
   by_cases e : b = j
   ·subst e; rw [if_pos rfl]; exact (hc a).symm
   ·rw [if_neg e]
    by_cases e2 : b = j + 1
    ·subst e2; rw [if_pos rfl]; exact hc a
    ·rw [if_neg e2]
  rw [h2] at h1
  omega
 | d + 1, n, j, M, h, hc => by
  have h1 := det_swp (n := n) (j := j) (M := M) (by omega)
  have h2 := det_same d (n := n) (j := j + 1) (M := swp j M) (by omega) (fun a => by
   unfold swp
   rw [if_neg (by omega), if_pos rfl, if_neg (by omega), if_neg (by omega)]
   exact hc a)
  rw [h2] at h1
  omega
theorem det_same' {n j : Nat} {M : Nat → Nat → Int} (hj : j < n) (hc : ∀ a, M a j = M a n) : det (n + 1) M = 0 := det_same (n - j - 1) (by omega) hc
def fac : Nat → Nat
 | 0 => 1
 | n + 1 => (n + 1) * fac n
theorem sumF_abs {f : Nat → Int} {B : Nat} : ∀ {n : Nat}, (∀ i, i < n → (f i).natAbs ≤ B) → (sumF f n).natAbs ≤ n * B
 | 0, _ => by simp [sumF]
 | n + 1, h => by
  rw [sumF]
  have h1 := sumF_abs (n := n) (fun i hi => h i (by omega))
  have h2 := h n (by omega)
  have h3 := Int.natAbs_add_le (sumF f n) (f n)
  rw [Nat.succ_mul]
  omega
theorem det_abs {B : Nat} : ∀ {n : Nat} {M : Nat → Nat → Int}, (∀ a b, a < n → b < n → (M a b).natAbs ≤ B) → (det n M).natAbs ≤ fac n * B ^ n
 | 0, _, _ => by simp [det, fac]
 | n + 1, M, h => by
  rw [det]
  have := sumF_abs (f := fun i => sg1 (i + n) * M i n * det n (fun a b => M (skip i a) b)) (B := B * (fac n * B ^ n)) (n := n + 1) (fun i hi => by
   rw [Int.natAbs_mul, Int.natAbs_mul, sg1_abs, Nat.one_mul]
   exact Nat.mul_le_mul (h i n hi (by omega)) (det_abs fun a b ha hb => h _ _ (by unfold skip; split <;> omega) (by omega)))
  refine Nat.le_trans this (Nat.le_of_eq ?_)
  rw [fac, Nat.pow_succ]
  simp only [Nat.mul_assoc, Nat.mul_left_comm, Nat.mul_comm]
end Go.Proofs.YtflgngjocgiojaaGreat
