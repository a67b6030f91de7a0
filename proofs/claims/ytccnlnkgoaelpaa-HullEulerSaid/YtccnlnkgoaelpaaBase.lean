/- Small general lemmas for the walks: worlds that are 'as before' below a block number, and regions that draw their order and hold calls that only make memory. No condition. -/
import Derived.BigQuiet
import Derived.Below
import Derived.Lib.Hide
namespace Go.Proofs.Ytccnlnkgoaelpaa
open Go.RowKit

/-- A world that is as 'w' was below block B. -/
structure After (B : Nat) (w : World) where
  u : World
  h : Below B w u

instance {B : Nat} {w : World} : Nonempty (After B w) := ⟨⟨w, Below.refl _ _⟩⟩
theorem After.cell {B : Nat} {w : World} (x : After B w) (b i : Nat) (hb : b < B) : x.u.cell? ⟨b, i, none⟩ = w.cell? ⟨b, i, none⟩ :=
  x.h.cell (p := ⟨b, i, none⟩) hb
theorem After.frozen {B : Nat} {w : World} (x : After B w) (b i : Nat) (hb : b < B) : x.u.frozen? ⟨b, i, none⟩ = w.frozen? ⟨b, i, none⟩ :=
  x.h.frozen (p := ⟨b, i, none⟩) hb

/-- A callee's contract, met inside a region that draws its order. -/
theorem quietB {P : Program} {f : FuncId} {args : Array Value} {B : Nat} {w : World} {x : After B w} {v : Value} (hB : B ≤ w.heap.size)
    (h : Calls P f args x.u fun e w' => e = .returned v ∧ Below x.u.heap.size x.u w') :
    Calls P f args x.u fun e w' => e = .returned v ∧ ∃ y : After B w, w' = y.u :=
  h.mono fun _ w' ⟨he, hw⟩ => ⟨he, ⟨w', x.h.trans (hw.mono (Nat.le_trans hB x.h.size))⟩, rfl⟩
theorem quietS {P : Program} {f : FuncId} {args : Array Value} {B : Nat} {w : World} {x : After B w} {v : Value}
    (h : Calls P f args x.u fun e w' => e = .returned v ∧ x.u = w') :
    Calls P f args x.u fun e w' => e = .returned v ∧ ∃ y : After B w, w' = y.u :=
  h.mono fun _ _ ⟨he, hw⟩ => ⟨he, x, hw.symm⟩

/-- A region that draws its order, whose operations read, reckon, and call functions that only make memory: one walk in the order of the text. -/
theorem region_after {P : Program} {id : Nat} {Q : Exit → Act → World → Prop} {a : Act} {w : World} {l : List Oper} (B : Nat) (hm : P.follows .mixedOrders = true)
    (hB : Region.lexB .any l.toArray = true)
    (h : wpQuiet P l.toArray (fun w' => ∃ x : After B w, w' = x.u) (fun a' => ∀ x : After B w, Q .normal a' x.u) l a) : (Code.region id l.toArray true).wp P Q a w := by
  refine wp_region_quiet (C := fun w' => ∃ x : After B w, w' = x.u) hm hB ⟨⟨_, (Below.refl B w).drew⟩, rfl⟩ ?_
  have e : (fun a' => ∀ w', (∃ x : After B w, w' = x.u) → Q .normal a' w') = (fun a' => ∀ x : After B w, Q .normal a' x.u) := by
    funext a'
    exact propext ⟨fun h x => h _ ⟨x, rfl⟩, fun h w' ⟨x, e⟩ => e ▸ h x⟩
  rw [e]
  simpa using h

theorem Below.hop {w u v : World} (h : Below w.heap.size w u) (k : Below u.heap.size u v) : Below w.heap.size w v := h.trans (k.mono h.size)
theorem bcell {W w1 : World} {B : Nat} (hb : Below B W w1) : (∀ b o, b < B → w1.cell? ⟨b, o, none⟩ = W.cell? ⟨b, o, none⟩) ∧ (∀ b o, b < B → w1.frozen? ⟨b, o, none⟩ = W.frozen? ⟨b, o, none⟩) :=
  ⟨fun b o h => hb.cell (p := ⟨b, o, none⟩) h, fun b o h => hb.frozen (p := ⟨b, o, none⟩) h⟩

/-- Block b is just the cells cs, none of them frozen. -/
def Own (w : World) (b : Nat) (cs : Array Value) : Prop := ∃ T, w.heap[b]? = some (.cells cs T (0, 0))
theorem Own.lt {w : World} {b : Nat} {cs : Array Value} (h : Own w b cs) : b < w.heap.size := by
  obtain ⟨T, h⟩ := h
  rcases Nat.lt_or_ge b w.heap.size with h1 | h1
  · exact h1
  · rw [Array.getElem?_eq_none h1] at h; cases h
theorem Own.cell {w : World} {b : Nat} {cs : Array Value} (h : Own w b cs) (i : Nat) : w.cell? ⟨b, i, none⟩ = cs[i]? := by
  obtain ⟨T, h⟩ := h
  exact cell_of_row w b i cs T (0, 0) h
theorem Own.thaw {w : World} {b : Nat} {cs : Array Value} (h : Own w b cs) (i : Nat) : w.frozen? ⟨b, i, none⟩ = false := by
  obtain ⟨T, h⟩ := h
  simp [World.frozen?, h]
theorem Own.new {w : World} {b : Nat} {cs : Array Value} {T : TypeId} (h : b = w.heap.size) : Own (w.alloc (.cells cs T)) b cs := by
  subst h; exact ⟨T, heap_alloc_new w _⟩
theorem Own.of_block {w w' : World} {b : Nat} {cs : Array Value} (h : Own w b cs) (hb : w'.heap[b]? = w.heap[b]?) : Own w' b cs := by
  obtain ⟨T, h⟩ := h
  exact ⟨T, hb.trans h⟩
theorem Own.alloc {w : World} {b : Nat} {cs : Array Value} (h : Own w b cs) (o : Obj) : Own (w.alloc o) b cs := h.of_block (Below.heap_alloc w o b h.lt)
theorem Own.drew {w : World} {b : Nat} {cs : Array Value} (h : Own w b cs) : Own w.drew b cs := h
theorem Own.drewN {w : World} {b : Nat} {cs : Array Value} (h : Own w b cs) (n : Nat) : Own (w.drewN n) b cs := h
theorem Own.far {w : World} {b : Nat} {cs : Array Value} (h : Own w b cs) {p : Addr} (hp : b ≠ p.block) (x : Value) : Own (w.setCell p x) b cs := h.of_block (Below.heap_setCell w p x b hp)
theorem Own.below {w w' : World} {b : Nat} {cs : Array Value} (h : Own w b cs) (hb : Below w.heap.size w w') : Own w' b cs := h.of_block (hb.block b h.lt)
theorem Own.set {w : World} {b : Nat} {cs : Array Value} (h : Own w b cs) (i : Nat) (x : Value) : Own (w.setCell ⟨b, i, none⟩ x) b (cs.setIfInBounds i x) := by
  obtain ⟨T, h⟩ := h
  refine ⟨T, ?_⟩
  simp [World.setCell, Array.getElem?_modify, h]
theorem Own.eq {w : World} {b : Nat} {cs cs' : Array Value} (h : Own w b cs) (e : cs = cs') : Own w b cs' := e ▸ h

/-- A contract, its value said otherwise. -/
theorem callv {P : Program} {f : FuncId} {args : Array Value} {w : World} {v v' : Value} {R : World → Prop}
    (h : Calls P f args w fun r w' => r = .returned v ∧ R w') (e : v = v') : Calls P f args w fun r w' => r = .returned v' ∧ R w' := e ▸ h
/-- The end of a function whose result lies in a block of its own. -/
theorem retC {P : Program} {fn : Func} {R : Ending → World → Prop} {a : Act} {w : World} {v : Value} {b : Nat} {cs : Array Value} (ho : Own w b cs)
    (hr : ∀ w' : World, (∀ i, w'.cell? ⟨b, i, none⟩ = cs[i]?) → (results fn a.tmps).run P w' = .ok v w') (hd : a.defers = []) (hR : R (.returned v) w) : bodyPost P fn R .ret a w :=
  bodyPost_ret (hr w ho.cell) hd hR
theorem ret_bool {a b : Bool} (h : a = b) : Ending.returned (.bool a) = .returned (.bool b) := by rw [h]
theorem ret_int {k : IntKind} {a b : Int} (h : a = b) : Ending.returned (.int k a) = .returned (.int k b) := by rw [h]
theorem ret_val {a b : Value} (h : a = b) : Ending.returned a = .returned b := by rw [h]

theorem all_false_at {p : Int → Bool} {l : List Int} {k : Nat} (h : k < l.length) (hp : p l[k] = false) : l.all p = false := by
  rw [List.all_eq_false]
  exact ⟨l[k], List.getElem_mem h, by simp [hp]⟩
theorem all_take_succ {p : Int → Bool} {l : List Int} {k : Nat} (h : k < l.length) (h1 : (l.take k).all p = true) (hp : p l[k] = true) : (l.take (k + 1)).all p = true := by
  rw [List.take_succ_eq_append_getElem h, List.all_append, h1]
  simp [hp]
end Go.Proofs.Ytccnlnkgoaelpaa
