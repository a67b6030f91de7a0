/- What the small functions of package plane, of its reference and of its laws return. The ints are any ints. -/
import Derived.BigQuiet
import Derived.Below
import Derived.Lib.Hide
import Derived.WalkKit
import Derived.Laws.Closers25
import Derived.Test.YtflgngjocgiojaaGreatProg
import Derived.WalkSpells
import Derived.WalkLawsBesides
namespace Go.Proofs.YtflgngjocgiojaaGreat
open Go.RowKit

/-- A world that is as 'w' was below block B. -/
structure After (B : Nat) (w : World) where
 u : World
 h : Below B w u

instance {B : Nat} {w : World} : Nonempty (After B w) := ⟨⟨w, Below.refl _ _⟩⟩
theorem After.cell {B : Nat} {w : World} (x : After B w) (b i : Nat) (hb : b < B) : x.u.cell? ⟨b, i, none⟩ = w.cell? ⟨b, i, none⟩ :=
 x.h.cell (p := ⟨b, i, none⟩) hb
theorem After.frozen {B : Nat} {w : World} (x : After B w) (b i : Nat) (hb : b < B) : x.u.frozen? ⟨b, i, none⟩ = w.frozen? ⟨b, i, none⟩ :=
 x.h.frozen (p := ⟨b, i, none⟩) hb

theorem Below.hop {w u v : World} (h : Below w.heap.size w u) (k : Below u.heap.size u v) : Below w.heap.size w v := h.trans (k.mono h.size)
/-- Block b is just the cells cs, none of them frozen. -/
def Own (w : World) (b : Nat) (cs : Array Value) : Prop := ∃ T, w.heap[b]? = some (.cells cs T (0, 0))
theorem Own.lt {w : World} {b : Nat} {cs : Array Value} (h : Own w b cs) : b < w.heap.size := by
 obtain ⟨T, h⟩ := h
 rcases Nat.lt_or_ge b w.heap.size with h1 | h1
 ·exact h1
 ·rw [Array.getElem?_eq_none h1] at h; cases h
theorem Own.cell {w : World} {b : Nat} {cs : Array Value} (h : Own w b cs) (i : Nat) : w.cell? ⟨b, i, none⟩ = cs[i]? := by
 obtain ⟨T, h⟩ := h
 exact cell_of_row w b i cs T (0, 0) h
theorem Own.thaw {w : World} {b : Nat} {cs : Array Value} (h : Own w b cs) (i : Nat) : w.frozen? ⟨b, i, none⟩ = false := by
 obtain ⟨T, h⟩ := h
 simp [World.frozen?, h]
theorem Own.new {w : World} {b : Nat} {cs : Array Value} {T : TypeId} (h : b = w.heap.size) : Own (w.alloc (.cells cs T)) b cs := by
 subst h; exact ⟨T, heap_alloc_new w _⟩
theorem Own.of_block {w w' : World} {b : Nat} {cs : Array Value} (h : Own w b cs) (hb : w'.heap[b]? = w.heap[b]?) : Own w' b cs := by
 obtain ⟨T, h⟩ := h
 exact ⟨T, hb.trans h⟩
theorem Own.alloc {w : World} {b : Nat} {cs : Array Value} (h : Own w b cs) (o : Obj) : Own (w.alloc o) b cs := h.of_block (Below.heap_alloc w o b h.lt)
theorem Own.drew {w : World} {b : Nat} {cs : Array Value} (h : Own w b cs) : Own w.drew b cs := h
theorem Own.drewN {w : World} {b : Nat} {cs : Array Value} (h : Own w b cs) (n : Nat) : Own (w.drewN n) b cs := h
theorem Own.far {w : World} {b : Nat} {cs : Array Value} (h : Own w b cs) {p : Addr} (hp : b ≠ p.block) (x : Value) : Own (w.setCell p x) b cs := h.of_block (Below.heap_setCell w p x b hp)
theorem Own.below {w w' : World} {b : Nat} {cs : Array Value} (h : Own w b cs) (hb : Below w.heap.size w w') : Own w' b cs := h.of_block (hb.block b h.lt)
theorem Own.set {w : World} {b : Nat} {cs : Array Value} (h : Own w b cs) (i : Nat) (x : Value) : Own (w.setCell ⟨b, i, none⟩ x) b (cs.setIfInBounds i x) := by
 obtain ⟨T, h⟩ := h
 refine ⟨T, ?_⟩
 simp [World.setCell, Array.getElem?_modify, h]
theorem Own.eq {w : World} {b : Nat} {cs cs' : Array Value} (h : Own w b cs) (e : cs = cs') : Own w b cs' := e ▸ h

/-- A contract, its value said otherwise. -/
theorem callv {P : Program} {f : FuncId} {args : Array Value} {w : World} {v v' : Value} {R : World → Prop}
  (h : Calls P f args w fun r w' => r = .returned v ∧ R w') (e : v = v') : Calls P f args w fun r w' => r = .returned v' ∧ R w' := e ▸ h
/-- The end of a function whose result lies in a block of its own. -/
theorem retC {P : Program} {fn : Func} {R : Ending → World → Prop} {a : Act} {w : World} {v : Value} {b : Nat} {cs : Array Value} (ho : Own w b cs)
  (hr : ∀ w' : World, (∀ i, w'.cell? ⟨b, i, none⟩ = cs[i]?) → (results fn a.tmps).run P w' = .ok v w') (hd : a.defers = []) (hR : R (.returned v) w) : bodyPost P fn R .ret a w :=
 bodyPost_ret (hr w ho.cell) hd hR
theorem ret_bool {a b : Bool} (h : a = b) : Ending.returned (.bool a) = .returned (.bool b) := by rw [h]
theorem ret_int {k : IntKind} {a b : Int} (h : a = b) : Ending.returned (.int k a) = .returned (.int k b) := by rw [h]
end Go.Proofs.YtflgngjocgiojaaGreat
namespace Go.Proofs.YtflgngjocgiojaaGreat
open Go.RowKit

structure V3 where
 x : Int
 y : Int
 z : Int
structure Pl where
 n : V3
 b : Int

@[reducible] def vV (x y z : Int) : Value := .agg #[.int .i64 x, .int .i64 y, .int .i64 z]
@[reducible] def vP (x y z b : Int) : Value := .agg #[.int .i64 x, .int .i64 y, .int .i64 z, .int .i64 b]
@[reducible] def V3.v (a : V3) : Value := vV a.x a.y a.z
@[reducible] def Pl.v (p : Pl) : Value := vP p.n.x p.n.y p.n.z p.b

/-- A number is an int64. -/
@[reducible] def I64 (n : Int) : Prop := -9223372036854775808 ≤ n ∧ n ≤ 9223372036854775807
def ordI (a b : Int) : Int := if a < b then -1 else if b < a then 1 else 0
end Go.Proofs.YtflgngjocgiojaaGreat
namespace Go.Proofs.YtflgngjocgiojaaGreat
open Go.RowKit

end Go.Proofs.YtflgngjocgiojaaGreat
