/- What edges and Cone of package contact return: the edges of the cone of a contact. The components are int64. -/
import Derived.RangeFuncNested
import Derived.RangeFuncBound
import Derived.RangeFuncCalls
import Derived.RangeFuncLeaves
import Derived.Shelf.Abstract
import Derived.Shelf.RegionOpen
import Derived.WalkKit
import Derived.OwnWalkIn
import Derived.TacticsInMore
import Derived.LoopNIn
import Derived.LoopIn
import Derived.Maps.AppendAt
import Derived.Deep.AppendLies
import Derived.Test.YthijnggeoinlfaaCtB
namespace Go.Proofs.Ythijnggeoinlfaa
open Go.RowKit Go.Shelf
attribute [local go_sem] Oper.semAt_some

/-- All cells, but vectors and slices of vectors, are as they were. -/
def KT (W W' : World) : Prop := ∀ (b : Nat) (cs : Array Value) (T : TypeId) (r : Nat × Nat), T ≠ 24 → T ≠ 27 → W.heap[b]? = some (.cells cs T r) → W'.heap[b]? = some (.cells cs T r)
theorem KT.trans {A B C : World} (h : KT A B) (k : KT B C) : KT A C := fun b cs T r h1 h2 h3 => k b cs T r h1 h2 (h b cs T r h1 h2 h3)
theorem KT.putObj {w : World} (W : World) (l : Nat) (o o' : Obj) (_ : w.heap.size ≤ l) (h : W.heap[l]? = some o) (hc : o.isCells = false) (_ : o.isWalk = false) : KT W (W.putObj l o') := fun b cs T r _ _ h3 => by
  by_cases e : b = l
  · subst e; rw [h] at h3; cases h3; simp [Obj.isCells] at hc
  · exact (World.putObj_heap_other (by omega)).trans h3
theorem KT.below {W W' : World} (h : Below W.heap.size W W') : KT W W' := fun b _ _ _ _ _ h3 => (h.block b (Array.getElem?_eq_some_iff.1 h3).1).trans h3

/-- Block b is just the cells cs, of type T. -/
def OwnT (w : World) (b : Nat) (cs : Array Value) (T : TypeId) : Prop := w.heap[b]? = some (.cells cs T (0, 0))
theorem OwnT.own {w : World} {b : Nat} {cs : Array Value} {T : TypeId} (h : OwnT w b cs T) : Own w b cs := ⟨T, h⟩
theorem OwnT.new {w : World} {cs : Array Value} {T : TypeId} : OwnT (w.alloc (.cells cs T)) w.heap.size cs T := heap_alloc_new w _
theorem OwnT.set {w : World} {b : Nat} {cs : Array Value} {T : TypeId} (h : OwnT w b cs T) (i : Nat) (x : Value) : OwnT (w.setCell ⟨b, i, none⟩ x) b (cs.setIfInBounds i x) T := by
  have h1 : w.heap[b]? = some (.cells cs T (0, 0)) := h
  show (w.setCell ⟨b, i, none⟩ x).heap[b]? = _
  simp [World.setCell, Array.getElem?_modify, h1]
theorem OwnT.below {w w' : World} {b : Nat} {cs : Array Value} {T : TypeId} (h : OwnT w b cs T) (hb : Below w.heap.size w w') : OwnT w' b cs T :=
  (hb.block b h.own.lt).trans h
theorem OwnT.kt {w w' : World} {b : Nat} {cs : Array Value} {T : TypeId} (h : OwnT w b cs T) (k : KT w w') (h1 : T ≠ 24) (h2 : T ≠ 27) : OwnT w' b cs T := k b cs T _ h1 h2 h
theorem below_grown {W W' : World} (h : Below W.heap.size W W') : W.grownBy W' none := ⟨h.os, h.tape, h.output, h.size, fun k hk _ => h.block k hk⟩
theorem abides_below {β : Type} {B : Nat} {J : β → World → Prop} (h : AbidesFrom B J) {s : β} {W W' : World} (hs : J s W) (hb : Below W.heap.size W W') : J s W' :=
  h s W W' none hs (below_grown hb) (fun r e => by cases e)

def compV (n : V3) (k : Nat) : Int := match k with | 0 => n.x | 1 => n.y | _ => n.z
def edgeV (n : V3) (mn md : Int) (k : Nat) (s : Int) : V3 :=
  ⟨if k = 0 then wrap64 (s * mn) else wrap64 (md * n.x), if k = 1 then wrap64 (s * mn) else wrap64 (md * n.y), if k = 2 then wrap64 (s * mn) else wrap64 (md * n.z)⟩
def edgesK (n : V3) (mn md : Int) : Nat → List V3
  | 0 => []
  | k + 1 => edgesK n mn md k ++ (if compV n k = 0 then [edgeV n mn md k 1, edgeV n mn md k (-1)] else [])
theorem edgesK_len (n : V3) (mn md : Int) : ∀ k, (edgesK n mn md k).length ≤ 2 * k
  | 0 => by simp [edgesK]
  | k + 1 => by
    have := edgesK_len n mn md k
    simp only [edgesK, List.length_append]
    split <;> simp <;> omega

set_option maxRecDepth 100000 in
set_option maxHeartbeats 400000 in
theorem contact_edges (a0 a1 a2 n0 n1 n2 mn md : Int) (w : World) :
    Calls Try.prog 77 #[vC a0 a1 a2 n0 n1 n2 mn md] w fun r w' => r = .returned (.func (.func 82) #[] #[.pointer (some ⟨w.heap.size, 0, none⟩)]) ∧ w' = w.alloc (.cells #[.int .i64 a0, .int .i64 a1, .int .i64 a2, .int .i64 n0, .int .i64 n1, .int .i64 n2, .int .i64 mn, .int .i64 md] 66) := by
  go_enter Try.func77, Try.ntmps77
  go_wp2
  go_ret
  exact ⟨rfl, rfl⟩

set_option maxRecDepth 100000 in
set_option maxHeartbeats 4000000 in
theorem edges1_in (n l Bn : Nat) (hn : 1 ≤ n) (a0 a1 a2 n0 n1 n2 mn md : Int) (J Jx : List V3 → World → Prop) (W : World) (hJ : AbidesFrom W.heap.size J)
    (hY : ∀ pre x W, J pre W → pre.length < 6 → YieldAt Fence.wide (n - 1) Try.prog l #[V3.v x] W fun e W' => (e = .returned (.bool true) ∧ J (pre ++ [x]) W' ∧ KT W W') ∨ (e = .returned (.bool false) ∧ Jx (pre ++ [x]) W'))
    (hB : OwnT W Bn #[.int .i64 a0, .int .i64 a1, .int .i64 a2, .int .i64 n0, .int .i64 n1, .int .i64 n2, .int .i64 mn, .int .i64 md] 66) (h0 : J [] W) :
    CallsIn Fence.wide n Try.prog 82 #[.func (.yield l) #[] #[], .pointer (some ⟨Bn, 0, none⟩)] W fun e W' => (∃ v, e = .returned v) ∧
      ((∃ ys, ys = edgesK ⟨n0, n1, n2⟩ mn md 3 ∧ J ys W') ∨ (∃ pre, pre <+: edgesK ⟨n0, n1, n2⟩ mn md 3 ∧ Jx pre W')) := by
  refine callsIn_of_wp Try.func82 rfl trivial ?_ rfl
  simp only [Try.ntmps82, List.size_toArray, List.length_cons, List.length_nil, Nat.reduceAdd, Nat.reduceSub, Array.replicate_succ, Array.replicate_zero, List.push_toArray, List.append_toArray, List.nil_append, List.cons_append]
  have oBc := hB.own.cell
  have oBf := hB.own.thaw
  gi_wp2_with (refine ⟨trivial, ?_⟩; gi_at_call 76; refine (callsIn_wide.2 (contact_numbers n0 n1 n2 _)).mono ?_; rintro e w1 ⟨rfl, hb1⟩)
  have q3 : OwnT ((w1.alloc (.cells #[.int .i64 n0, .int .i64 n1, .int .i64 n2] 47))) w1.heap.size #[.int .i64 n0, .int .i64 n1, .int .i64 n2] 47 := OwnT.new
  have qW : Below W.heap.size W ((w1.alloc (.cells #[.int .i64 n0, .int .i64 n1, .int .i64 n2] 47))) := Below.hop hb1 ((Below.refl _ _).alloc (Nat.le_refl _) _)
  have qB := hB.below qW
  have qJ := abides_below hJ h0 qW
  have q3z := q3.own.lt
  clear hb1 h0 hB oBc oBf qW
  generalize (w1.alloc (.cells #[.int .i64 n0, .int .i64 n1, .int .i64 n2] 47)) = W1 at *
  generalize w1.heap.size = b3 at *
  clear w1
  gi_loopw [13] (fun i wr => ∃ k : Nat, k ≤ 3 ∧ i = .int .i64 k ∧ J (edgesK ⟨n0, n1, n2⟩ mn md k) wr ∧ OwnT wr b3 #[.int .i64 n0, .int .i64 n1, .int .i64 n2] 47 ∧ OwnT wr Bn #[.int .i64 a0, .int .i64 a1, .int .i64 a2, .int .i64 n0, .int .i64 n1, .int .i64 n2, .int .i64 mn, .int .i64 md] 66) (fun i _ => 3 - (intOf i).toNat)
  case atStart => exact ⟨0, by omega, rfl, qJ, q3, qB⟩
  case round =>
    obtain ⟨k, hk, rfl, hJs, h3, hC⟩ := hrel
    clear qJ q3 qB q3z
    have h3c := h3.own.cell
    have h3f := h3.own.thaw
    have h3z := h3.own.lt
    have hCc := hC.own.cell
    have hCf := hC.own.thaw
    have hCz := hC.own.lt
    rcases (show k = 0 ∨ k = 1 ∨ k = 2 ∨ k = 3 by omega) with rfl | rfl | rfl | rfl
    · have ix : ∀ w, (Instr.index 47 (.agg #[.int .i64 n0, .int .i64 n1, .int .i64 n2]) (.int .i64 0)).run Try.prog w = .ok (.int .i64 n0) w := fun _ => by kernel_rfl
      by_cases e0 : n0 = 0
      · subst e0
        have hlen := edgesK_len ⟨0, n1, n2⟩ mn md 0
        have HJ := Lib.hid hJs
        clear hJs
        gi_wp2
        gi_loopw [20] (fun i wr => ∃ s : Nat, s ≤ 2 ∧ i = .int .i64 s ∧ J (edgesK ⟨0, n1, n2⟩ mn md 0 ++ [edgeV ⟨0, n1, n2⟩ mn md 0 1, edgeV ⟨0, n1, n2⟩ mn md 0 (-1)].take s) wr ∧ OwnT wr b3 #[.int .i64 0, .int .i64 n1, .int .i64 n2] 47 ∧ OwnT wr Bn #[.int .i64 a0, .int .i64 a1, .int .i64 a2, .int .i64 0, .int .i64 n1, .int .i64 n2, .int .i64 mn, .int .i64 md] 66) (fun i _ => 2 - (intOf i).toNat)
        case atStart => exact ⟨0, by omega, rfl, by simpa using HJ.out, h3, hC⟩
        case round =>
          clear h3 hC h3c h3f h3z hCc hCf hCz HJ
          obtain ⟨s, hs, rfl, hJs, h3, hC⟩ := hrel
          have HJ := Lib.hid hJs
          clear hJs
          have h3c := h3.own.cell
          have h3f := h3.own.thaw
          have h3z := h3.own.lt
          have hCc := hC.own.cell
          have hCf := hC.own.thaw
          have hCz := hC.own.lt
          rcases (show s = 0 ∨ s = 1 ∨ s = 2 by omega) with rfl | rfl | rfl
          · have iy : ∀ w, (Instr.index 96 (.agg #[.int .i64 1, .int .i64 (-1)]) (.int .i64 0)).run Try.prog w = .ok (.int .i64 (1)) w := fun _ => by kernel_rfl
            gi_wp2_with fail
            refine ⟨trivial, (callsIn_wide.2 (contact_vector _ _ _ _)).mono ?_⟩
            rintro e w2 ⟨rfl, hb2⟩
            have hw2 : Below wr.heap.size wr w2 := Below.hop ((Below.refl _ _).alloc (Nat.le_refl _) _) hb2
            clear hb2
            have q3 := h3.below hw2
            have qC := hC.below hw2
            obtain ⟨fn, tmps, assign, body, hy, hR⟩ := hY _ ⟨wrap64 mn, wrap64 (md * n1), wrap64 (md * n2)⟩ w2 (abides_below hJ HJ.out hw2) (by simp only [List.length_append, List.length_take, List.length_cons, List.length_nil]; omega)
            gi_wp2
            refine hR.mono ?_
            clear hR hy
            rintro e W3 (⟨rfl, hJ3, hk3⟩ | ⟨rfl, hJx3⟩)
            · have HJ3 := Lib.hid hJ3
              clear hJ3
              gi_wp2
              go_roundw
              case rel => (repeat apply Exists.intro); exact ⟨⟨1, by omega, by go_num, by simpa [edgeV] using HJ3.out, q3.kt hk3 (by decide) (by decide), qC.kt hk3 (by decide) (by decide)⟩, rfl⟩
              case measure => simp [intOf]
            · have HJ3 := Lib.hid hJx3
              clear hJx3
              gi_wp2
              refine bodyPost_ret (results_none rfl _ _ _) rfl ?_
              exact ⟨⟨_, rfl⟩, .inr ⟨_, by simp [edgesK, compV, edgeV], HJ3.out⟩⟩
          · have iy : ∀ w, (Instr.index 96 (.agg #[.int .i64 1, .int .i64 (-1)]) (.int .i64 1)).run Try.prog w = .ok (.int .i64 (-1)) w := fun _ => by kernel_rfl
            gi_wp2_with fail
            refine ⟨trivial, (callsIn_wide.2 (contact_vector _ _ _ _)).mono ?_⟩
            rintro e w2 ⟨rfl, hb2⟩
            have hw2 : Below wr.heap.size wr w2 := Below.hop ((Below.refl _ _).alloc (Nat.le_refl _) _) hb2
            clear hb2
            have q3 := h3.below hw2
            have qC := hC.below hw2
            obtain ⟨fn, tmps, assign, body, hy, hR⟩ := hY _ ⟨wrap64 (-mn), wrap64 (md * n1), wrap64 (md * n2)⟩ w2 (abides_below hJ HJ.out hw2) (by simp only [List.length_append, List.length_take, List.length_cons, List.length_nil]; omega)
            gi_wp2
            refine hR.mono ?_
            clear hR hy
            rintro e W3 (⟨rfl, hJ3, hk3⟩ | ⟨rfl, hJx3⟩)
            · have HJ3 := Lib.hid hJ3
              clear hJ3
              gi_wp2
              go_roundw
              case rel => (repeat apply Exists.intro); exact ⟨⟨2, by omega, by go_num, by simpa [edgeV] using HJ3.out, q3.kt hk3 (by decide) (by decide), qC.kt hk3 (by decide) (by decide)⟩, rfl⟩
              case measure => simp [intOf]
            · have HJ3 := Lib.hid hJx3
              clear hJx3
              gi_wp2
              refine bodyPost_ret (results_none rfl _ _ _) rfl ?_
              exact ⟨⟨_, rfl⟩, .inr ⟨_, by simp [edgesK, compV, edgeV], HJ3.out⟩⟩
          · gi_wp2
            go_roundw
            case rel => exact ⟨1, by omega, by go_num, by simpa [edgesK, compV] using HJ.out, h3, hC⟩
            case measure => simp [intOf]
      · gi_wp2
        go_roundw
        case rel => exact ⟨1, by omega, by go_num, by simpa [edgesK, compV, e0] using hJs, h3, hC⟩
        case measure => simp [intOf]
    · have ix : ∀ w, (Instr.index 47 (.agg #[.int .i64 n0, .int .i64 n1, .int .i64 n2]) (.int .i64 1)).run Try.prog w = .ok (.int .i64 n1) w := fun _ => by kernel_rfl
      by_cases e0 : n1 = 0
      · subst e0
        have hlen := edgesK_len ⟨n0, 0, n2⟩ mn md 1
        have HJ := Lib.hid hJs
        clear hJs
        gi_wp2
        gi_loopw [20] (fun i wr => ∃ s : Nat, s ≤ 2 ∧ i = .int .i64 s ∧ J (edgesK ⟨n0, 0, n2⟩ mn md 1 ++ [edgeV ⟨n0, 0, n2⟩ mn md 1 1, edgeV ⟨n0, 0, n2⟩ mn md 1 (-1)].take s) wr ∧ OwnT wr b3 #[.int .i64 n0, .int .i64 0, .int .i64 n2] 47 ∧ OwnT wr Bn #[.int .i64 a0, .int .i64 a1, .int .i64 a2, .int .i64 n0, .int .i64 0, .int .i64 n2, .int .i64 mn, .int .i64 md] 66) (fun i _ => 2 - (intOf i).toNat)
        case atStart => exact ⟨0, by omega, rfl, by simpa using HJ.out, h3, hC⟩
        case round =>
          clear h3 hC h3c h3f h3z hCc hCf hCz HJ
          obtain ⟨s, hs, rfl, hJs, h3, hC⟩ := hrel
          have HJ := Lib.hid hJs
          clear hJs
          have h3c := h3.own.cell
          have h3f := h3.own.thaw
          have h3z := h3.own.lt
          have hCc := hC.own.cell
          have hCf := hC.own.thaw
          have hCz := hC.own.lt
          rcases (show s = 0 ∨ s = 1 ∨ s = 2 by omega) with rfl | rfl | rfl
          · have iy : ∀ w, (Instr.index 96 (.agg #[.int .i64 1, .int .i64 (-1)]) (.int .i64 0)).run Try.prog w = .ok (.int .i64 (1)) w := fun _ => by kernel_rfl
            gi_wp2_with fail
            refine ⟨trivial, (callsIn_wide.2 (contact_vector _ _ _ _)).mono ?_⟩
            rintro e w2 ⟨rfl, hb2⟩
            have hw2 : Below wr.heap.size wr w2 := Below.hop ((Below.refl _ _).alloc (Nat.le_refl _) _) hb2
            clear hb2
            have q3 := h3.below hw2
            have qC := hC.below hw2
            obtain ⟨fn, tmps, assign, body, hy, hR⟩ := hY _ ⟨wrap64 (md * n0), wrap64 mn, wrap64 (md * n2)⟩ w2 (abides_below hJ HJ.out hw2) (by simp only [List.length_append, List.length_take, List.length_cons, List.length_nil]; omega)
            gi_wp2
            refine hR.mono ?_
            clear hR hy
            rintro e W3 (⟨rfl, hJ3, hk3⟩ | ⟨rfl, hJx3⟩)
            · have HJ3 := Lib.hid hJ3
              clear hJ3
              gi_wp2
              go_roundw
              case rel => (repeat apply Exists.intro); exact ⟨⟨1, by omega, by go_num, by simpa [edgeV] using HJ3.out, q3.kt hk3 (by decide) (by decide), qC.kt hk3 (by decide) (by decide)⟩, rfl⟩
              case measure => simp [intOf]
            · have HJ3 := Lib.hid hJx3
              clear hJx3
              gi_wp2
              refine bodyPost_ret (results_none rfl _ _ _) rfl ?_
              exact ⟨⟨_, rfl⟩, .inr ⟨_, by simp [edgesK, compV, edgeV], HJ3.out⟩⟩
          · have iy : ∀ w, (Instr.index 96 (.agg #[.int .i64 1, .int .i64 (-1)]) (.int .i64 1)).run Try.prog w = .ok (.int .i64 (-1)) w := fun _ => by kernel_rfl
            gi_wp2_with fail
            refine ⟨trivial, (callsIn_wide.2 (contact_vector _ _ _ _)).mono ?_⟩
            rintro e w2 ⟨rfl, hb2⟩
            have hw2 : Below wr.heap.size wr w2 := Below.hop ((Below.refl _ _).alloc (Nat.le_refl _) _) hb2
            clear hb2
            have q3 := h3.below hw2
            have qC := hC.below hw2
            obtain ⟨fn, tmps, assign, body, hy, hR⟩ := hY _ ⟨wrap64 (md * n0), wrap64 (-mn), wrap64 (md * n2)⟩ w2 (abides_below hJ HJ.out hw2) (by simp only [List.length_append, List.length_take, List.length_cons, List.length_nil]; omega)
            gi_wp2
            refine hR.mono ?_
            clear hR hy
            rintro e W3 (⟨rfl, hJ3, hk3⟩ | ⟨rfl, hJx3⟩)
            · have HJ3 := Lib.hid hJ3
              clear hJ3
              gi_wp2
              go_roundw
              case rel => (repeat apply Exists.intro); exact ⟨⟨2, by omega, by go_num, by simpa [edgeV] using HJ3.out, q3.kt hk3 (by decide) (by decide), qC.kt hk3 (by decide) (by decide)⟩, rfl⟩
              case measure => simp [intOf]
            · have HJ3 := Lib.hid hJx3
              clear hJx3
              gi_wp2
              refine bodyPost_ret (results_none rfl _ _ _) rfl ?_
              exact ⟨⟨_, rfl⟩, .inr ⟨_, by simp [edgesK, compV, edgeV], HJ3.out⟩⟩
          · gi_wp2
            go_roundw
            case rel => exact ⟨2, by omega, by go_num, by simpa [edgesK, compV] using HJ.out, h3, hC⟩
            case measure => simp [intOf]
      · gi_wp2
        go_roundw
        case rel => exact ⟨2, by omega, by go_num, by simpa [edgesK, compV, e0] using hJs, h3, hC⟩
        case measure => simp [intOf]
    · have ix : ∀ w, (Instr.index 47 (.agg #[.int .i64 n0, .int .i64 n1, .int .i64 n2]) (.int .i64 2)).run Try.prog w = .ok (.int .i64 n2) w := fun _ => by kernel_rfl
      by_cases e0 : n2 = 0
      · subst e0
        have hlen := edgesK_len ⟨n0, n1, 0⟩ mn md 2
        have HJ := Lib.hid hJs
        clear hJs
        gi_wp2
        gi_loopw [20] (fun i wr => ∃ s : Nat, s ≤ 2 ∧ i = .int .i64 s ∧ J (edgesK ⟨n0, n1, 0⟩ mn md 2 ++ [edgeV ⟨n0, n1, 0⟩ mn md 2 1, edgeV ⟨n0, n1, 0⟩ mn md 2 (-1)].take s) wr ∧ OwnT wr b3 #[.int .i64 n0, .int .i64 n1, .int .i64 0] 47 ∧ OwnT wr Bn #[.int .i64 a0, .int .i64 a1, .int .i64 a2, .int .i64 n0, .int .i64 n1, .int .i64 0, .int .i64 mn, .int .i64 md] 66) (fun i _ => 2 - (intOf i).toNat)
        case atStart => exact ⟨0, by omega, rfl, by simpa using HJ.out, h3, hC⟩
        case round =>
          clear h3 hC h3c h3f h3z hCc hCf hCz HJ
          obtain ⟨s, hs, rfl, hJs, h3, hC⟩ := hrel
          have HJ := Lib.hid hJs
          clear hJs
          have h3c := h3.own.cell
          have h3f := h3.own.thaw
          have h3z := h3.own.lt
          have hCc := hC.own.cell
          have hCf := hC.own.thaw
          have hCz := hC.own.lt
          rcases (show s = 0 ∨ s = 1 ∨ s = 2 by omega) with rfl | rfl | rfl
          · have iy : ∀ w, (Instr.index 96 (.agg #[.int .i64 1, .int .i64 (-1)]) (.int .i64 0)).run Try.prog w = .ok (.int .i64 (1)) w := fun _ => by kernel_rfl
            gi_wp2_with fail
            refine ⟨trivial, (callsIn_wide.2 (contact_vector _ _ _ _)).mono ?_⟩
            rintro e w2 ⟨rfl, hb2⟩
            have hw2 : Below wr.heap.size wr w2 := Below.hop ((Below.refl _ _).alloc (Nat.le_refl _) _) hb2
            clear hb2
            have q3 := h3.below hw2
            have qC := hC.below hw2
            obtain ⟨fn, tmps, assign, body, hy, hR⟩ := hY _ ⟨wrap64 (md * n0), wrap64 (md * n1), wrap64 mn⟩ w2 (abides_below hJ HJ.out hw2) (by simp only [List.length_append, List.length_take, List.length_cons, List.length_nil]; omega)
            gi_wp2
            refine hR.mono ?_
            clear hR hy
            rintro e W3 (⟨rfl, hJ3, hk3⟩ | ⟨rfl, hJx3⟩)
            · have HJ3 := Lib.hid hJ3
              clear hJ3
              gi_wp2
              go_roundw
              case rel => (repeat apply Exists.intro); exact ⟨⟨1, by omega, by go_num, by simpa [edgeV] using HJ3.out, q3.kt hk3 (by decide) (by decide), qC.kt hk3 (by decide) (by decide)⟩, rfl⟩
              case measure => simp [intOf]
            · have HJ3 := Lib.hid hJx3
              clear hJx3
              gi_wp2
              refine bodyPost_ret (results_none rfl _ _ _) rfl ?_
              exact ⟨⟨_, rfl⟩, .inr ⟨_, by simp [edgesK, compV, edgeV], HJ3.out⟩⟩
          · have iy : ∀ w, (Instr.index 96 (.agg #[.int .i64 1, .int .i64 (-1)]) (.int .i64 1)).run Try.prog w = .ok (.int .i64 (-1)) w := fun _ => by kernel_rfl
            gi_wp2_with fail
            refine ⟨trivial, (callsIn_wide.2 (contact_vector _ _ _ _)).mono ?_⟩
            rintro e w2 ⟨rfl, hb2⟩
            have hw2 : Below wr.heap.size wr w2 := Below.hop ((Below.refl _ _).alloc (Nat.le_refl _) _) hb2
            clear hb2
            have q3 := h3.below hw2
            have qC := hC.below hw2
            obtain ⟨fn, tmps, assign, body, hy, hR⟩ := hY _ ⟨wrap64 (md * n0), wrap64 (md * n1), wrap64 (-mn)⟩ w2 (abides_below hJ HJ.out hw2) (by simp only [List.length_append, List.length_take, List.length_cons, List.length_nil]; omega)
            gi_wp2
            refine hR.mono ?_
            clear hR hy
            rintro e W3 (⟨rfl, hJ3, hk3⟩ | ⟨rfl, hJx3⟩)
            · have HJ3 := Lib.hid hJ3
              clear hJ3
              gi_wp2
              go_roundw
              case rel => (repeat apply Exists.intro); exact ⟨⟨2, by omega, by go_num, by simpa [edgeV] using HJ3.out, q3.kt hk3 (by decide) (by decide), qC.kt hk3 (by decide) (by decide)⟩, rfl⟩
              case measure => simp [intOf]
            · have HJ3 := Lib.hid hJx3
              clear hJx3
              gi_wp2
              refine bodyPost_ret (results_none rfl _ _ _) rfl ?_
              exact ⟨⟨_, rfl⟩, .inr ⟨_, by simp [edgesK, compV, edgeV], HJ3.out⟩⟩
          · gi_wp2
            go_roundw
            case rel => exact ⟨3, by omega, by go_num, by simpa [edgesK, compV] using HJ.out, h3, hC⟩
            case measure => simp [intOf]
      · gi_wp2
        go_roundw
        case rel => exact ⟨3, by omega, by go_num, by simpa [edgesK, compV, e0] using hJs, h3, hC⟩
        case measure => simp [intOf]
    · gi_wp2
      go_end0
      exact ⟨⟨_, rfl⟩, .inl ⟨_, rfl, hJs⟩⟩

def flatV (L : List V3) : List Value := L.flatMap fun v => [.int .i64 v.x, .int .i64 v.y, .int .i64 v.z]
theorem flatV_snoc (L : List V3) (v : V3) : flatV (L ++ [v]) = flatV L ++ [.int .i64 v.x, .int .i64 v.y, .int .i64 v.z] := by simp [flatV]
/-- A slice of vectors of one's own, with all its numbers; it is nil just where it is empty. -/
def SlV (B : Nat) (w : World) (v : Value) (L : List V3) : Prop := w.ownsRow B 24 3 v L.length (flatV L) ∧ (v = .slice none 0 0 ↔ L = [])
theorem KT.grown {W W' : World} {row : Option Nat} (h : W.grownBy W' row) (hr : ∀ r, row = some r → ∃ cs f, W.heap[r]? = some (.cells cs 24 f)) : KT W W' := fun b cs T r h1 _ h3 => by
  refine (h.block b (Array.getElem?_eq_some_iff.1 h3).1 (fun e => ?_)).trans h3
  obtain ⟨cs', f, hf⟩ := hr b e.symm
  rw [h3] at hf; injection hf with hf; injection hf with _ hf; exact h1 hf
theorem KT.box {W : World} {B : Nat} {v : Value} (h : Boxed W B 27 v) (u : Value) : KT W (W.setCell ⟨B, 0, none⟩ u) := fun b cs T r _ h2 h3 => by
  refine (Below.heap_setCell W ⟨B, 0, none⟩ u b (fun e => ?_)).trans h3
  have e : b = B := e
  subst e
  rw [show W.heap[b]? = _ from h] at h3
  injection h3 with h3; injection h3 with _ h3; exact h2 h3.symm
theorem row_cells {w : World} {base : Nat} {e : TypeId} {size : Nat} {v : Value} {n : Nat} {xs : List Value} (h : w.ownsRow base e size v n xs) (r : Nat) (hr : v.ownBlock = some r) : ∃ cs f, w.heap[r]? = some (.cells cs e f) := by
  rcases h.2 with ⟨rfl, _⟩ | ⟨g, cap, cur, rfl, _, hg, _⟩
  · simp [Value.ownBlock] at hr
  · simp [Value.ownBlock] at hr
    subst hr
    exact ⟨cur, _, hg⟩
theorem ownT_own {b : Nat} {cs : Array Value} {T : TypeId} {B : Nat} : OwnFrom B (fun (_ : Unit) W => OwnT W b cs T) := fun _ X Y row hs hg hr =>
  (hg.block b hs.own.lt (fun e => by obtain ⟨_, o, ho, hc⟩ := hr b e.symm; rw [show X.heap[b]? = _ from hs] at ho; cases ho; cases hc)).trans hs
theorem infoVec' : (Try.prog.info? 24).map (fun i => (i.zero, i.size, i.bytes)) = some (some (.agg #[.int .i64 0, .int .i64 0, .int .i64 0]), 3, 24) := by kernel_rfl

theorem edges_stops (n Bn : Nat) (hn : 1 ≤ n) (a0 a1 a2 n0 n1 n2 mn md : Int) (w : World) (hB : OwnT w Bn #[.int .i64 a0, .int .i64 a1, .int .i64 a2, .int .i64 n0, .int .i64 n1, .int .i64 n2, .int .i64 mn, .int .i64 md] 66) :
    SeqStopsK Fence.wide n Try.prog 82 #[.pointer (some ⟨Bn, 0, none⟩)] (fun x : V3 => #[V3.v x]) KT (fun ys => ys = edgesK ⟨n0, n1, n2⟩ mn md 3) (fun pre => pre <+: edgesK ⟨n0, n1, n2⟩ mn md 3) 6 w := fun l J Jx W hW hJ _ hY h0 =>
  edges1_in n l Bn hn a0 a1 a2 n0 n1 n2 mn md J Jx W hJ hY (hB.below hW) h0

set_option maxRecDepth 100000 in
set_option maxHeartbeats 4000000 in
theorem contact_Cone_edges (a0 a1 a2 n0 n1 n2 mn md : Int) (h : cCheck ⟨⟨a0, a1, a2⟩, ⟨n0, n1, n2⟩, mn, md⟩ = 0) (hm : ¬ mn = 0) (w : World) :
    Calls Try.prog 55 #[vC a0 a1 a2 n0 n1 n2 mn md] w fun r w' => ∃ v, r = .returned v ∧ SlV w.heap.size w' v (edgesK ⟨n0, n1, n2⟩ mn md 3) ∧ Below w.heap.size w w' := by
  obtain ⟨i0, hi, hz0, hz1, hz2⟩ := info_parts infoVec'
  have HC := Lib.hid (congrArg (Value.int IntKind.i64) h)
  clear h
  refine (callsIn_wide (n := 5)).1 ?_
  refine callsIn_of_wp_marks Try.func55 rfl trivial ?_ rfl
  simp only [Try.ntmps55, List.size_toArray, List.length_cons, List.length_nil, Nat.reduceAdd, Nat.reduceSub, Array.replicate_succ, Array.replicate_zero, List.push_toArray, List.append_toArray, List.nil_append, List.cons_append]
  gi_wp2_with fail
  refine ⟨trivial, (callsIn_wide.2 (callv (contact_Check a0 a1 a2 n0 n1 n2 mn md _) HC.out)).mono ?_⟩
  rintro e w1 ⟨rfl, hb1⟩
  have oc : Own w1 w.heap.size #[.int .i64 a0, .int .i64 a1, .int .i64 a2, .int .i64 n0, .int .i64 n1, .int .i64 n2, .int .i64 mn, .int .i64 md] := Own.below (Own.new rfl) hb1
  have occ := oc.cell
  have ocf := oc.thaw
  have ocz := oc.lt
  have hw : Below w.heap.size w w1 := Below.hop ((Below.refl _ _).alloc (Nat.le_refl _) _) hb1
  clear hb1
  gi_wp2_with fail
  refine ⟨trivial, (callsIn_wide.2 (contact_edges a0 a1 a2 n0 n1 n2 mn md _)).mono ?_⟩
  rintro e w2 ⟨rfl, rfl⟩
  gi_wp2
  have bL := (Boxed.new w1 27 (.slice none 0 0)).alloc (.cells #[.int .i64 a0, .int .i64 a1, .int .i64 a2, .int .i64 n0, .int .i64 n1, .int .i64 n2, .int .i64 mn, .int .i64 md] 66)
  have bC : OwnT ((w1.alloc (.cells #[.slice none 0 0] 27)).alloc (.cells #[.int .i64 a0, .int .i64 a1, .int .i64 a2, .int .i64 n0, .int .i64 n1, .int .i64 n2, .int .i64 mn, .int .i64 md] 66)) (w1.heap.size + 1) #[.int .i64 a0, .int .i64 a1, .int .i64 a2, .int .i64 n0, .int .i64 n1, .int .i64 n2, .int .i64 mn, .int .i64 md] 66 := by
    have := OwnT.new (w := w1.alloc (.cells #[.slice none 0 0] 27)) (cs := #[.int .i64 a0, .int .i64 a1, .int .i64 a2, .int .i64 n0, .int .i64 n1, .int .i64 n2, .int .i64 mn, .int .i64 md]) (T := 66)
    simpa using this
  have hB0 : Below w.heap.size w ((w1.alloc (.cells #[.slice none 0 0] 27)).alloc (.cells #[.int .i64 a0, .int .i64 a1, .int .i64 a2, .int .i64 n0, .int .i64 n1, .int .i64 n2, .int .i64 mn, .int .i64 md] 66)) := (hw.alloc (by omega) _).alloc (by simp; omega) _
  have hsz : ((w1.alloc (.cells #[.slice none 0 0] 27)).alloc (.cells #[.int .i64 a0, .int .i64 a1, .int .i64 a2, .int .i64 n0, .int .i64 n1, .int .i64 n2, .int .i64 mn, .int .i64 md] 66)).heap.size = w1.heap.size + 2 := by simp
  generalize (w1.alloc (.cells #[.slice none 0 0] 27)).alloc (.cells #[.int .i64 a0, .int .i64 a1, .int .i64 a2, .int .i64 n0, .int .i64 n1, .int .i64 n2, .int .i64 mn, .int .i64 md] 66) = W0 at *
  clear hw oc occ ocf
  generalize w1.heap.size = bl at *
  clear w1
  refine wpIn_rangeFunc_ownH rfl (by omega) (gf := 82) (lb := #[.pointer (some ⟨bl + 1, 0, none⟩)]) rfl trivial (enters_of Try.func82 (by kernel_rfl) rfl)
    (edges_stops (5 - 1) (bl + 1) (by omega) a0 a1 a2 n0 n1 n2 mn md W0 bC) KT.trans (KT.putObj (w := W0)) (Below.refl _ _) (fun _ => rfl)
    (fun pre W => (∃ v, Boxed W bl 27 v ∧ W.ownsRow w.heap.size 24 3 v pre.length (flatV pre) ∧ (v = .slice none 0 0 ↔ pre = [])) ∧ Below w.heap.size w W)
    (fun _ _ _ => False)
    (OwnFrom.and (Own.from (holdsRow_own w.heap.size bl 27 24 3 (fun pre : List V3 => pre.length) flatV (fun pre v => v = .slice none 0 0 ↔ pre = [])) _) (ownFrom_below (Nat.le_refl _) (by omega)))
    (fun _ _ _ _ _ hs _ _ => hs)
    ⟨⟨_, bL, World.ownsRow_nil _ _ _ _, by simp⟩, hB0⟩
    (fun x a' W => ∃ Bx, OwnT W Bx #[.int .i64 x.x, .int .i64 x.y, .int .i64 x.z] 24 ∧ a' = { tmps := #[vC a0 a1 a2 n0 n1 n2 mn md, .pointer (some ⟨w.heap.size, 0, none⟩), .slice none 0 0, .pointer (some ⟨bl, 0, none⟩), .pointer (some ⟨Bx, 0, none⟩), .bool false, .agg #[.int .i64 a0, .int .i64 a1, .int .i64 a2, .int .i64 n0, .int .i64 n1, .int .i64 n2, .int .i64 mn, .int .i64 md], .int .i64 0, .bool false, .bool false, .pointer (some ⟨w.heap.size, 6, none⟩), .pointer (some ⟨w.heap.size, 6, none⟩), .int .i64 mn, .bool false, undef, undef, undef, .agg #[.int .i64 a0, .int .i64 a1, .int .i64 a2, .int .i64 n0, .int .i64 n1, .int .i64 n2, .int .i64 mn, .int .i64 md], .func (.func 82) #[] #[.pointer (some ⟨bl + 1, 0, none⟩)], V3.v x, undef, undef, undef, undef, undef], defers := [] })
    (fun x a' _ X Y row hs hg hr => by obtain ⟨Bx, h2, h3⟩ := hs; exact ⟨Bx, ownT_own () X Y row h2 hg hr, h3⟩)
    ?assign ?body ?done ?stop
  case assign =>
    rintro l pre x W K ⟨⟨v, hv, hrow, hnil⟩, hB1⟩ hK
    gi_wp2
    exact hK _ _ ((KeepsOthers.alloc _ _).from _) (KT.below ((Below.refl _ W).alloc (Nat.le_refl _) _)) ⟨⟨v, hv.alloc _, hrow.alloc _, hnil⟩, hB1.alloc hB1.size _⟩ ⟨W.heap.size, OwnT.new, rfl⟩
  case body =>
    rintro l pre x a' W hl ⟨r, hr⟩ ⟨⟨v, hv, hrow, hnil⟩, hB1⟩ ⟨Bx, bX, rfl⟩ hlt
    have hc := hv.cell
    have hXc := bX.own.cell
    have hXf := bX.own.thaw
    have hlz : pre.length + 1 ≤ 6 := hlt
    gi_wp2_with (gi_at_builtin; refine wpListIn_append_own _ rfl _ _ 27 rfl w.heap.size 24 i0 (.agg #[.int .i64 0, .int .i64 0, .int .i64 0]) 3 24 Try.underlying27 hi hz0 hz1 hz2 rfl (by decide) v pre.length (flatV pre) rfl (hrow.alloc _) ⟨W.heap.size, 0, none⟩ 1 1 [.int .i64 x.x, .int .i64 x.y, .int .i64 x.z] rfl rfl (World.news_of_block (heap_alloc_new W _)) (by intro u hu; simp at hu; rcases hu with rfl | rfl | rfl <;> rfl) (by unfold maxLen; omega) (by omega) (by have := hB1.size; simp; omega) ?_; intro v' w3 hown' hgrow _; obtain ⟨g', cap', rfl⟩ := ownsRow_succ hown'; obtain ⟨hv1, hv2, hr2, hk2, hb2⟩ := hv.appended (by decide) hrow hB1.size (by omega) hown' hgrow; have hc1 := hv1.cell; have hf1 := hv1.frozen)
    exact ⟨hk2.from _, (KT.below ((Below.refl _ W).alloc (Nat.le_refl _) _)).trans ((KT.grown hgrow (row_cells (hrow.alloc _))).trans (KT.box hv1 _)), ⟨_, hv2, by simpa [flatV_snoc] using hr2, by simp⟩, hB1.trans hb2⟩
  case done =>
    rintro D ys W hD rfl ⟨⟨v, hv, hrow, hnil⟩, hB1⟩ hK
    have hc := hv.cell
    gi_wp2
    refine ⟨by simp, .inl ⟨_, _, rfl, run_takeDeferred hK, ?_⟩⟩
    exact ⟨_, results_tmp rfl _ _ _, v, rfl, ⟨ownsRow_putObj hrow _ hK rfl, hnil⟩, hB1.trans (belowK_b (w := w) (Nat.le_refl _) W D _ _ (by omega) hK rfl rfl)⟩
  case stop =>
    rintro D c pre W _ _ h _
    exact h.elim

/-- The cone of a contact, as a list. -/
def coneL (c : Ct) : List V3 := if cCheck c = 0 then (if c.mn = 0 then [c.n] else edgesK c.n c.mn c.md 3) else []
theorem SlV.one {W : World} {B : Nat} {x y z : Int} (h : B ≤ W.heap.size) : SlV B (W.alloc (.cells #[.int .i64 x, .int .i64 y, .int .i64 z] 24)) (.slice (some ⟨W.heap.size, 0, none⟩) 1 1) [⟨x, y, z⟩] :=
  ⟨⟨rfl, .inr ⟨W.heap.size, 1, _, rfl, h, heap_alloc_new _ _, Nat.le_refl _, by unfold maxLen; omega, rfl, rfl⟩⟩, by simp⟩
set_option maxRecDepth 100000 in
set_option maxHeartbeats 1000000 in
theorem contact_Cone_one (a0 a1 a2 n0 n1 n2 md : Int) (h : cCheck ⟨⟨a0, a1, a2⟩, ⟨n0, n1, n2⟩, 0, md⟩ = 0) (w : World) :
    Calls Try.prog 55 #[vC a0 a1 a2 n0 n1 n2 0 md] w fun r w' => ∃ v, r = .returned v ∧ SlV w.heap.size w' v [⟨n0, n1, n2⟩] ∧ Below w.heap.size w w' := by
  have HC := Lib.hid (congrArg (Value.int IntKind.i64) h)
  clear h
  go_enter Try.func55, Try.ntmps55
  go_wp2_with fail
  refine Calls.mono (callv (contact_Check a0 a1 a2 n0 n1 n2 0 md _) HC.out) ?_
  rintro e w1 ⟨rfl, hb1⟩
  have oc : Own w1 w.heap.size #[.int .i64 a0, .int .i64 a1, .int .i64 a2, .int .i64 n0, .int .i64 n1, .int .i64 n2, .int .i64 0, .int .i64 md] := Own.below (Own.new rfl) hb1
  have occ := oc.cell
  have ocf := oc.thaw
  have ocz := oc.lt
  have hw : Below w.heap.size w w1 := Below.hop ((Below.refl _ _).alloc (Nat.le_refl _) _) hb1
  clear hb1
  go_wp2
  go_ret
  exact ⟨_, rfl, SlV.one (by omega), hw.alloc (by omega) _⟩
set_option maxRecDepth 100000 in
set_option maxHeartbeats 1000000 in
theorem contact_Cone_bad (a0 a1 a2 n0 n1 n2 mn md : Int) (h : ¬ cCheck ⟨⟨a0, a1, a2⟩, ⟨n0, n1, n2⟩, mn, md⟩ = 0) (w : World) :
    Calls Try.prog 55 #[vC a0 a1 a2 n0 n1 n2 mn md] w fun r w' => ∃ v, r = .returned v ∧ SlV w.heap.size w' v [] ∧ Below w.heap.size w w' := by
  obtain ⟨c, hc⟩ : ∃ c, cCheck ⟨⟨a0, a1, a2⟩, ⟨n0, n1, n2⟩, mn, md⟩ = c := ⟨_, rfl⟩
  rw [hc] at h
  have HC := Lib.hid (congrArg (Value.int IntKind.i64) hc)
  clear hc
  go_enter Try.func55, Try.ntmps55
  go_wp2_with fail
  refine Calls.mono (callv (contact_Check a0 a1 a2 n0 n1 n2 mn md _) HC.out) ?_
  rintro e w1 ⟨rfl, hb1⟩
  have hw : Below w.heap.size w w1 := Below.hop ((Below.refl _ _).alloc (Nat.le_refl _) _) hb1
  clear hb1
  go_wp2
  go_ret
  exact ⟨_, rfl, ⟨World.ownsRow_nil _ _ _ _, by simp⟩, hw⟩
theorem contact_Cone (c : Ct) (w : World) :
    Calls Try.prog 55 #[c.v] w fun r w' => ∃ v, r = .returned v ∧ SlV w.heap.size w' v (coneL c) ∧ Below w.heap.size w w' := by
  obtain ⟨⟨a0, a1, a2⟩, ⟨n0, n1, n2⟩, mn, md⟩ := c
  unfold coneL
  by_cases h : cCheck ⟨⟨a0, a1, a2⟩, ⟨n0, n1, n2⟩, mn, md⟩ = 0
  · rw [if_pos h]
    by_cases hm : mn = 0
    · subst hm
      rw [if_pos rfl]
      exact contact_Cone_one a0 a1 a2 n0 n1 n2 md h w
    · rw [if_neg (by simpa using hm)]
      exact contact_Cone_edges a0 a1 a2 n0 n1 n2 mn md h hm w
  · rw [if_neg h]
    exact contact_Cone_bad a0 a1 a2 n0 n1 n2 mn md h w
end Go.Proofs.Ythijnggeoinlfaa
