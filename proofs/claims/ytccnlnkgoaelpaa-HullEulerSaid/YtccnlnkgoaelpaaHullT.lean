/- Lists of vectors in memory, and what triples of package hull and its iterator do: they hand over the planes through three points, in both directions. -/
import Derived.RangeFuncNested
import Derived.RangeFuncBound
import Derived.RangeFuncCalls
import Derived.RangeFuncLeaves
import Derived.Shelf.Abstract
import Derived.Shelf.RegionOpen
import Derived.WalkKit
import Derived.OwnWalkIn
import Derived.TacticsInMore
import Derived.LoopNIn
import Derived.LoopIn
import Derived.Maps.AppendAt
import Derived.Deep.AppendLies
import Derived.Test.YtccnlnkgoaelpaaHullM
import Derived.Test.YtccnlnkgoaelpaaPlaneT
import Derived.Test.YtccnlnkgoaelpaaPlaneV
namespace Go.Proofs.Ytccnlnkgoaelpaa
open Go.RowKit Go.Shelf
attribute [local go_sem] Oper.semAt_some

theorem below_grown {W W' : World} (h : Below W.heap.size W W') : W.grownBy W' none := ⟨h.os, h.tape, h.output, h.size, fun k hk _ => h.block k hk⟩
theorem abides_below {β : Type} {B : Nat} {J : β → World → Prop} (h : AbidesFrom B J) {s : β} {W W' : World} (hs : J s W) (hb : Below W.heap.size W W') : J s W' :=
  h s W W' none hs (below_grown hb) (fun r e => by cases e)

/-- A slice reads as the list L of vectors. -/
structure VecsAt (w : World) (A : Option Addr) (n : Nat) (L : List V3) : Prop where
  len : L.length = n
  max : n ≤ 9223372036854775807
  row : 0 < n → ∃ b off, A = some ⟨b, off, none⟩ ∧ b < w.heap.size ∧ ∀ i, i < n → w.cell? ⟨b, off + i * 3, none⟩ = some (.int .i64 (vAt L i).x) ∧ w.cell? ⟨b, off + i * 3 + 1, none⟩ = some (.int .i64 (vAt L i).y) ∧ w.cell? ⟨b, off + i * 3 + 2, none⟩ = some (.int .i64 (vAt L i).z)
/-- The cells of n vectors from a place on. -/
def RowV (w : World) (b off n : Nat) (L : List V3) : Prop := ∀ i, i < n → w.cell? ⟨b, off + i * 3, none⟩ = some (.int .i64 (vAt L i).x) ∧ w.cell? ⟨b, off + i * 3 + 1, none⟩ = some (.int .i64 (vAt L i).y) ∧ w.cell? ⟨b, off + i * 3 + 2, none⟩ = some (.int .i64 (vAt L i).z)
theorem RowV.same {w w' : World} {b off n : Nat} {L : List V3} (h : RowV w b off n L) (e : w'.heap[b]? = w.heap[b]?) : RowV w' b off n L := fun i hi =>
  ⟨(World.cell?_of_block (w := w) (a := ⟨b, _, none⟩) e).trans (h i hi).1, (World.cell?_of_block (w := w) (a := ⟨b, _, none⟩) e).trans (h i hi).2.1, (World.cell?_of_block (w := w) (a := ⟨b, _, none⟩) e).trans (h i hi).2.2⟩
theorem VecsAt.same {w w' : World} {A : Option Addr} {n : Nat} {L : List V3} (h : VecsAt w A n L) (hs : w.heap.size ≤ w'.heap.size) (e : ∀ a, A = some a → w'.heap[a.block]? = w.heap[a.block]?) : VecsAt w' A n L :=
  ⟨h.len, h.max, fun h1 => by
    obtain ⟨b, off, rfl, hb, hc⟩ := h.row h1
    exact ⟨b, off, rfl, by omega, RowV.same (w := w) hc (e _ rfl)⟩⟩
theorem VecsAt.below {w w' : World} {A : Option Addr} {n : Nat} {L : List V3} (h : VecsAt w A n L) (hb : Below w.heap.size w w') : VecsAt w' A n L :=
  ⟨h.len, h.max, fun h1 => by
    obtain ⟨b, off, rfl, hlt, hc⟩ := h.row h1
    exact ⟨b, off, rfl, Nat.lt_of_lt_of_le hlt hb.size, RowV.same (w := w) hc (hb.block b hlt)⟩⟩
theorem VecsAt.later {w v : World} {A : Option Addr} {n : Nat} {L : List V3} (h : VecsAt w A n L) (x : Later [] w v) : VecsAt x.u A n L :=
  ⟨h.len, h.max, fun h1 => by
    obtain ⟨b, off, rfl, hlt, hc⟩ := h.row h1
    exact ⟨b, off, rfl, Nat.lt_of_lt_of_le hlt x.h.1, RowV.same (w := w) hc (x.h.2 b hlt (by simp))⟩⟩

/-- Box Bf holds a slice that lies in block x. -/
def Pts (W : World) (Bf x : Nat) : Prop := ∃ off n c, W.cell? ⟨Bf, 0, none⟩ = some (.slice (some ⟨x, off, none⟩) n c)
/-- All cells are as they were, but box Bf and the row of the slice that it holds. -/
structure KeepR (Bf : Nat) (W W' : World) : Prop where
  size : W.heap.size ≤ W'.heap.size
  nd : (∀ x, Pts W Bf x → x < W.heap.size) → ∀ x, Pts W' Bf x → x < W'.heap.size
  pt : ∀ x, Pts W' Bf x → Pts W Bf x ∨ W.heap.size ≤ x
  same : ∀ x cs T r, x ≠ Bf → ¬ Pts W Bf x → W.heap[x]? = some (.cells cs T r) → W'.heap[x]? = some (.cells cs T r)
theorem KeepR.refl (Bf : Nat) (W : World) : KeepR Bf W W := ⟨Nat.le_refl _, fun h => h, fun _ h => .inl h, fun _ _ _ _ _ _ h => h⟩
theorem KeepR.trans {Bf : Nat} {A B C : World} (h : KeepR Bf A B) (k : KeepR Bf B C) : KeepR Bf A C :=
  ⟨Nat.le_trans h.size k.size, fun n => k.nd (h.nd n), fun x hx => by
    rcases k.pt x hx with h1 | h1
    · exact h.pt x h1
    · exact .inr (Nat.le_trans h.size h1), fun x cs T r h1 h2 h3 => k.same x cs T r h1 (fun h4 => by
    rcases h.pt x h4 with h5 | h5
    · exact h2 h5
    · have := (Array.getElem?_eq_some_iff.1 h3).1; omega) (h.same x cs T r h1 h2 h3)⟩
theorem pts_same {W W' : World} {Bf x : Nat} (e : W'.heap[Bf]? = W.heap[Bf]?) : Pts W' Bf x ↔ Pts W Bf x := by
  unfold Pts; rw [World.cell?_of_block (w := W) (a := ⟨Bf, 0, none⟩) e]
theorem KeepR.below {Bf : Nat} {W W' : World} (h : Below W.heap.size W W') (hB : Bf < W.heap.size) : KeepR Bf W W' :=
  have e := h.block Bf hB
  ⟨h.size, fun n x hx => Nat.lt_of_lt_of_le (n x ((pts_same e).1 hx)) h.size, fun _ hx => .inl ((pts_same e).1 hx), fun x _ _ _ _ _ h3 => (h.block x (Array.getElem?_eq_some_iff.1 h3).1).trans h3⟩
theorem KeepR.putObj {Bf : Nat} {w : World} (hB : Bf < w.heap.size) (W : World) (l : Nat) (o o' : Obj) (hl : w.heap.size ≤ l) (ho : W.heap[l]? = some o) (hc : o.isCells = false) (_ : o.isWalk = false) : KeepR Bf W (W.putObj l o') :=
  have e : (W.putObj l o').heap[Bf]? = W.heap[Bf]? := World.putObj_heap_other (by omega)
  ⟨by simp [World.putObj], fun n x hx => by have := n x ((pts_same e).1 hx); simpa [World.putObj] using this, fun x hx => .inl ((pts_same e).1 hx), fun x cs T r _ _ h3 => by
    by_cases e : x = l
    · subst e; rw [ho] at h3; cases h3; simp [Obj.isCells] at hc
    · exact (World.putObj_heap_other (by omega)).trans h3⟩
theorem later_cell {T : List Nat} {w v : World} {b i : Nat} {x : Value} (hb : b < w.heap.size) (hT : b ∉ T) (h : w.cell? ⟨b, i, none⟩ = some x) : ∀ y : Later T w v, y.u.cell? ⟨b, i, none⟩ = some x := fun y => (y.cell b i hb hT).trans h

theorem i64_0 : I64 0 := ⟨by omega, by omega⟩
theorem vsub_i64 (a b : V3) : I64 (vSub a b).x ∧ I64 (vSub a b).y ∧ I64 (vSub a b).z := ⟨wr_I _, wr_I _, wr_I _⟩
theorem prim_i64 (a : V3) : I64 (vPrim a).x ∧ I64 (vPrim a).y ∧ I64 (vPrim a).z := by
  unfold vPrim; split
  · exact ⟨i64_0, i64_0, i64_0⟩
  · exact ⟨wr_I _, wr_I _, wr_I _⟩
theorem thr_i64 (a b c : V3) : I64 (pThrough a b c).n.x ∧ I64 (pThrough a b c).n.y ∧ I64 (pThrough a b c).n.z ∧ I64 (pThrough a b c).b := by
  unfold pThrough; split
  · exact ⟨(prim_i64 _).1, (prim_i64 _).2.1, (prim_i64 _).2.2, wr_I _⟩
  · exact ⟨i64_0, i64_0, i64_0, i64_0⟩
theorem flip_i64 (p : Pl) : I64 (pFlip p).n.x ∧ I64 (pFlip p).n.y ∧ I64 (pFlip p).n.z ∧ I64 (pFlip p).b := ⟨(vsub_i64 _ _).1, (vsub_i64 _ _).2.1, (vsub_i64 _ _).2.2, wr_I _⟩
theorem both_i64 {a b c : V3} {p : Pl} (h : p ∈ both a b c) : I64 p.n.x ∧ I64 p.n.y ∧ I64 p.n.z ∧ I64 p.b := by
  rcases (both_ok h).2 with rfl | rfl
  · exact thr_i64 _ _ _
  · exact flip_i64 _
/-- A plane whose numbers fit; another one is cut to 0. -/
def cl (p : Pl) : Pl := if I64 p.n.x ∧ I64 p.n.y ∧ I64 p.n.z ∧ I64 p.b then p else ⟨⟨0, 0, 0⟩, 0⟩
theorem cl_i64 (p : Pl) : I64 (cl p).n.x ∧ I64 (cl p).n.y ∧ I64 (cl p).n.z ∧ I64 (cl p).b := by
  unfold cl; split
  · assumption
  · exact ⟨i64_0, i64_0, i64_0, i64_0⟩
theorem cl_id {p : Pl} (h : I64 p.n.x ∧ I64 p.n.y ∧ I64 p.n.z ∧ I64 p.b) : cl p = p := if_pos h
theorem triL_cl {L : List V3} {p : Pl} (h : p ∈ triL L) : cl p = p := by
  obtain ⟨i, j, k, _, _, _, hb⟩ := mem_triL.1 h
  exact cl_id (both_i64 hb)
theorem both_len (a b c : V3) : (both a b c).length ≤ 2 := by unfold both; split <;> simp
theorem triK_len (L : List V3) (i j : Nat) : ∀ k, (triK L i j k).length ≤ 2 * k
  | 0 => by simp [triK]
  | k + 1 => by
    have := triK_len L i j k
    have := both_len (vAt L k) (vAt L j) (vAt L i)
    simp only [triK, List.length_append]; omega
theorem triJ_len (L : List V3) (i : Nat) : ∀ j, j ≤ 48 → (triJ L i j).length ≤ 96 * j
  | 0, _ => by simp [triJ]
  | j + 1, h => by
    have := triJ_len L i j (by omega)
    have := triK_len L i j j
    simp only [triJ, List.length_append]; omega
theorem triI_len (L : List V3) : ∀ i, i ≤ 48 → (triI L i).length ≤ 4608 * i
  | 0, _ => by simp [triI]
  | i + 1, h => by
    have := triI_len L i (by omega)
    have := triJ_len L i i (by omega)
    simp only [triI, List.length_append]; omega
theorem triK_pre (L : List V3) (i j : Nat) {a : Nat} : ∀ b, a ≤ b → triK L i j a <+: triK L i j b
  | 0, h => by obtain rfl : a = 0 := by omega
               exact List.prefix_refl _
  | b + 1, h => by
    by_cases e : a = b + 1
    · subst e; exact List.prefix_refl _
    · exact (triK_pre L i j b (by omega)).trans (List.prefix_append _ _)
theorem triJ_pre (L : List V3) (i : Nat) {a : Nat} : ∀ b, a ≤ b → triJ L i a <+: triJ L i b
  | 0, h => by obtain rfl : a = 0 := by omega
               exact List.prefix_refl _
  | b + 1, h => by
    by_cases e : a = b + 1
    · subst e; exact List.prefix_refl _
    · exact (triJ_pre L i b (by omega)).trans (List.prefix_append _ _)
theorem triI_pre (L : List V3) {a : Nat} : ∀ b, a ≤ b → triI L a <+: triI L b
  | 0, h => by obtain rfl : a = 0 := by omega
               exact List.prefix_refl _
  | b + 1, h => by
    by_cases e : a = b + 1
    · subst e; exact List.prefix_refl _
    · exact (triI_pre L b (by omega)).trans (List.prefix_append _ _)
/-- What has come before the planes of points k, j, i. -/
def preT (L : List V3) (i j k : Nat) : List Pl := triI L i ++ (triJ L i j ++ triK L i j k)
theorem preT_len {L : List V3} {i j k : Nat} (hi : i < 48) (hj : j < i) (hk : k < j) : (preT L i j k).length + 2 < 230000 := by
  have := triI_len L i (by omega)
  have := triJ_len L i j (by omega)
  have := triK_len L i j k
  simp only [preT, List.length_append]; omega
theorem preT_pre {L : List V3} {i j k : Nat} (hi : i < L.length) (hj : j < i) (hk : k < j) {r : List Pl} (hr : r <+: both (vAt L k) (vAt L j) (vAt L i)) : preT L i j k ++ r <+: triL L := by
  have h1 : triK L i j k ++ r <+: triK L i j j := ((List.prefix_append_right_inj _).2 hr).trans (triK_pre L i j (a := k + 1) j (by omega))
  have h2 : triJ L i j ++ (triK L i j k ++ r) <+: triJ L i i := ((List.prefix_append_right_inj _).2 h1).trans (triJ_pre L i (a := j + 1) i (by omega))
  have h3 : triI L i ++ (triJ L i j ++ (triK L i j k ++ r)) <+: triI L L.length := ((List.prefix_append_right_inj _).2 h2).trans (triI_pre L (a := i + 1) L.length (by omega))
  simpa [preT, triL] using h3

set_option maxRecDepth 100000 in
set_option maxHeartbeats 400000 in
theorem hull_triples (A : Option Addr) (n c : Nat) (w : World) :
    Calls Try.prog 29 #[.slice A n c] w fun r w' => r = .returned (.func (.func 50) #[] #[.pointer (some ⟨w.heap.size, 0, none⟩)]) ∧ w' = w.alloc (.cells #[.slice A n c] 24) := by
  go_enter Try.func29, Try.ntmps29
  go_wp2
  go_ret
  exact ⟨rfl, rfl⟩

set_option maxRecDepth 100000 in
set_option maxHeartbeats 8000000 in
theorem triples1_in (n l Bn Bf b off N c : Nat) (hn : 1 ≤ n) (L : List V3) (J Jx : List Pl → World → Prop) (W : World) (hJ : AbidesFrom W.heap.size J)
    (hY : ∀ pre (x : Pl) W, (I64 x.n.x ∧ I64 x.n.y ∧ I64 x.n.z ∧ I64 x.b) → J pre W → pre.length < 230000 → YieldAt Fence.wide (n - 1) Try.prog l #[Pl.v x] W fun e W' => (e = .returned (.bool true) ∧ J (pre ++ [x]) W' ∧ KeepR Bf W W') ∨ (e = .returned (.bool false) ∧ Jx (pre ++ [x]) W'))
    (hB : Boxed W Bn 24 (.slice (some ⟨b, off, none⟩) N c)) (hb : ∃ cs T r, W.heap[b]? = some (.cells cs T r)) (hBf : Bf < W.heap.size) (hBn : Bn ≠ Bf) (hbf : b ≠ Bf) (hnp : ∀ x, ¬ Pts W Bf x) (hR : RowV W b off N L) (hN : L.length = N) (hN48 : N ≤ 48) (hNc : N ≤ c) (hc : c ≤ 9223372036854775807) (h0 : J [] W) :
    CallsIn Fence.wide n Try.prog 50 #[.func (.yield l) #[] #[], .pointer (some ⟨Bn, 0, none⟩)] W fun e W' => (∃ v, e = .returned v) ∧
      ((∃ ys, ys = triL L ∧ J ys W') ∨ (∃ pre, pre <+: triL L ∧ Jx pre W')) := by
  refine callsIn_of_wp Try.func50 rfl trivial ?_ rfl
  simp only [Try.ntmps50, List.size_toArray, List.length_cons, List.length_nil, Nat.reduceAdd, Nat.reduceSub, Array.replicate_succ, Array.replicate_zero, List.push_toArray, List.append_toArray, List.nil_append, List.cons_append]
  have HK0 := Lib.hid (KeepR.refl Bf W)
  have HR := Lib.hid hR
  have HB := Lib.hid hB
  have H0 := Lib.hid h0
  have hNi : (N : Int) ≤ 48 := by omega
  have hci : (N : Int) ≤ (c : Int) := by omega
  have hci2 : (c : Int) ≤ 9223372036854775807 := by omega
  have box : ∀ {wr : World}, KeepR Bf W wr → (∀ i, wr.cell? ⟨Bn, i, none⟩ = (#[Value.slice (some ⟨b, off, none⟩) N c] : Array Value)[i]?) ∧ RowV wr b off N L ∧ Bn < wr.heap.size ∧ b < wr.heap.size ∧ Own wr Bn #[.slice (some ⟨b, off, none⟩) N c] ∧ Bf < wr.heap.size ∧ (∀ x, Pts wr Bf x → x < wr.heap.size) := fun {wr} h => by
    obtain ⟨cs, T, r, hbl⟩ := hb
    have e1 : wr.heap[Bn]? = W.heap[Bn]? := (h.same Bn _ _ _ hBn (hnp Bn) HB.out).trans (show W.heap[Bn]? = _ from HB.out).symm
    have e2 : wr.heap[b]? = W.heap[b]? := (h.same b _ _ _ hbf (hnp b) hbl).trans hbl.symm
    have l1 : Bn < W.heap.size := HB.out.lt
    have l2 := (Array.getElem?_eq_some_iff.1 hbl).1
    have o1 : Own W Bn #[.slice (some ⟨b, off, none⟩) N c] := ⟨_, HB.out⟩
    have o2 := o1.of_block e1
    have hz := h.size
    exact ⟨o2.cell, HR.out.same e2, by omega, by omega, o2, by omega, h.nd fun x hx => absurd hx (hnp x)⟩
  have hB0 := (box HK0.out).1
  clear hR hB h0
  gi_wp2
  clear hB0
  gi_loopw [10] (fun i wr => ∃ i0 : Nat, i0 ≤ N ∧ i = .int .i64 i0 ∧ J (triI L i0) wr ∧ KeepR Bf W wr) (fun i _ => N - (intOf i).toNat)
  case atStart => exact ⟨0, by omega, rfl, H0.out, HK0.out⟩
  case round =>
    obtain ⟨i0, hi0, rfl, hJ1, hK1⟩ := hrel
    have HJ1 := Lib.hid hJ1
    have HK1 := Lib.hid hK1
    have hB1 := (box hK1).1
    clear hJ1 hK1
    by_cases hlt : i0 < N
    · have hi1 : (i0 : Int) < (N : Int) := by omega
      gi_wp2
      clear hB1
      gi_loopw [17] (fun j wr => ∃ j0 : Nat, j0 ≤ i0 ∧ j = .int .i64 j0 ∧ J (triI L i0 ++ triJ L i0 j0) wr ∧ KeepR Bf W wr) (fun j _ => i0 - (intOf j).toNat)
      case atStart => exact ⟨0, by omega, rfl, by simpa [triJ] using HJ1.out, HK1.out⟩
      case round =>
        clear HJ1 HK1
        obtain ⟨j0, hj0, rfl, hJ1, hK1⟩ := hrel
        have HJ1 := Lib.hid hJ1
        have HK1 := Lib.hid hK1
        have hB1 := (box hK1).1
        clear hJ1 hK1
        by_cases hlj : j0 < i0
        · have hj1 : (j0 : Int) < (i0 : Int) := by omega
          gi_wp2
          clear hB1
          gi_loopw [24] (fun k wr => ∃ k0 : Nat, k0 ≤ j0 ∧ k = .int .i64 k0 ∧ J (preT L i0 j0 k0) wr ∧ KeepR Bf W wr) (fun k _ => j0 - (intOf k).toNat)
          case atStart => exact ⟨0, by omega, rfl, by simpa [preT, triK] using HJ1.out, HK1.out⟩
          case round =>
            clear HJ1 HK1
            obtain ⟨k0, hk0, rfl, hJ1, hK1⟩ := hrel
            have HJ1 := Lib.hid hJ1
            have HK1 := Lib.hid hK1
            obtain ⟨_, hrow, hBz, hbz, ob, hfz, hnd⟩ := box hK1
            have HND := Lib.hid hnd
            clear hnd
            clear hJ1 hK1
            by_cases hlk : k0 < j0
            · have hk1 : (k0 : Int) < (j0 : Int) := by omega
              have hj2 : (j0 : Int) < (N : Int) := by omega
              have hk2 : (k0 : Int) < (N : Int) := by omega
              have hlen := preT_len (L := L) (i := i0) (j := j0) (k := k0) (by omega) hlj hlk
              obtain ⟨⟨p0, p1, p2⟩, hP⟩ : ∃ p, vAt L k0 = p := ⟨_, rfl⟩
              obtain ⟨⟨q0, q1, q2⟩, hQ⟩ : ∃ p, vAt L j0 = p := ⟨_, rfl⟩
              obtain ⟨⟨r0, r1, r2⟩, hS⟩ : ∃ p, vAt L i0 = p := ⟨_, rfl⟩
              have cP := hrow k0 (by omega)
              have cQ := hrow j0 (by omega)
              have cR := hrow i0 hlt
              rw [hP] at cP
              rw [hQ] at cQ
              rw [hS] at cR
              simp only [] at cP cQ cR
              clear hrow
              have hpre := fun (r : List Pl) (h : r <+: both ⟨p0, p1, p2⟩ ⟨q0, q1, q2⟩ ⟨r0, r1, r2⟩) => preT_pre (L := L) (i := i0) (j := j0) (k := k0) (by omega) hlj hlk (r := r) (by rw [hP, hQ, hS]; exact h)
              have hstep : preT L i0 j0 (k0 + 1) = preT L i0 j0 k0 ++ both ⟨p0, p1, p2⟩ ⟨q0, q1, q2⟩ ⟨r0, r1, r2⟩ := by
                unfold preT
                simp only [triK]
                rw [hP, hQ, hS]
                simp only [List.append_assoc]
              have HPRE := Lib.hid hpre
              have HSTEP := Lib.hid hstep
              clear hpre hstep hP hQ hS
              obtain ⟨T, hT⟩ : ∃ T, pThrough ⟨p0, p1, p2⟩ ⟨q0, q1, q2⟩ ⟨r0, r1, r2⟩ = T := ⟨_, rfl⟩
              obtain ⟨⟨t0, t1, t2⟩, t3⟩ := T
              obtain ⟨ok, hok⟩ : ∃ k, okThrough ⟨p0, p1, p2⟩ ⟨q0, q1, q2⟩ ⟨r0, r1, r2⟩ = k := ⟨_, rfl⟩
              have HT : Hid (Value.tuple #[(pThrough ⟨p0, p1, p2⟩ ⟨q0, q1, q2⟩ ⟨r0, r1, r2⟩).v, .bool (okThrough ⟨p0, p1, p2⟩ ⟨q0, q1, q2⟩ ⟨r0, r1, r2⟩)] = Value.tuple #[vP t0 t1 t2 t3, .bool ok]) := Lib.hid (by rw [hT, hok])
              have HBOTH : Hid (both ⟨p0, p1, p2⟩ ⟨q0, q1, q2⟩ ⟨r0, r1, r2⟩ = if ok = true then [⟨⟨t0, t1, t2⟩, t3⟩, pFlip ⟨⟨t0, t1, t2⟩, t3⟩] else []) := Lib.hid (by unfold both; rw [hT, hok])
              have hti := thr_i64 ⟨p0, p1, p2⟩ ⟨q0, q1, q2⟩ ⟨r0, r1, r2⟩
              rw [hT] at hti
              have HTI := Lib.hid hti
              clear hT hok hti
              have hw : Below wr.heap.size wr wr := Below.refl _ _
              have hz := hw.size
              have obc := ob.cell
              have obf := ob.thaw
              have obz := ob.lt
              gi_wp2
              refine wpIn_wide.2 ?_
              refine region_late 16 [] (by kernel_rfl) (by kernel_rfl) (by rfl) ?_
              apply Exists.intro
              refine ⟨fun v hv hne => ?_, fun u hu => ?_⟩
              · simp only [List.take_succ_cons, List.take_zero]
                have dob := fun x => (ob.later (v := v) (T := []) (by first | (simp; done) | (simp; omega)) x).cell
                have fP0 := later_cell (T := []) (v := v) hbz (by simp) cP.1
                have fP1 := later_cell (T := []) (v := v) hbz (by simp) cP.2.1
                have fP2 := later_cell (T := []) (v := v) hbz (by simp) cP.2.2
                have fQ0 := later_cell (T := []) (v := v) hbz (by simp) cQ.1
                have fQ1 := later_cell (T := []) (v := v) hbz (by simp) cQ.2.1
                have fQ2 := later_cell (T := []) (v := v) hbz (by simp) cQ.2.2
                have fR0 := later_cell (T := []) (v := v) hbz (by simp) cR.1
                have fR1 := later_cell (T := []) (v := v) hbz (by simp) cR.2.1
                have fR2 := later_cell (T := []) (v := v) hbz (by simp) cR.2.2
                repeat (go_big_quiet_step ((first | (go_at_call 51; with_reducible exact lateB (callv (plane_Through _ _ _ _ _ _ _ _ _ _) HT.out)))))
                refine wpQuiet_nil ?_
                exact rfl
              · simp only [List.drop_succ_cons, List.drop_zero]
                skip
                refine late_mem (fun K hK => ?_)
                go_simp
                refine hK _ _ ((Keeps.of_below hu).alloc _) (fun u2 hu2 => ?_)
                clear hK K
                have hk2 : Keeps [] wr u2 := ((Keeps.of_below (T := []) hu).alloc _).later hu2
                have oq : Own u2 u.heap.size #[.int .i64 0, .int .i64 0, .int .i64 0, .int .i64 0] := Own.below (Own.new rfl) hu2
                have oqc := oq.cell
                have oqf := oq.thaw
                have oqg : wr.heap.size ≤ u.heap.size := hu.size
                replace hw := Below.hop ((Below.hop hw hu).alloc (by have := hw.size; have := hu.size; omega) _) hu2
                have hwz := hw.size
                have oqy : wr.heap.size ≤ u.heap.size := by omega
                refine late_mem (fun K hK => ?_)
                go_simp
                refine hK _ _ ((((hk2.new oqg _).new oqg _).new oqg _).new oqg _) (fun u3 hu3 => ?_)
                clear hK K
                have hk3 : Keeps [] wr u3 := ((((hk2.new oqg _).new oqg _).new oqg _).new oqg _).later hu3
                replace oq : Own u3 u.heap.size #[.int .i64 t0, .int .i64 t1, .int .i64 t2, .int .i64 t3] := ((((oq.set 0 _).set 1 _).set 2 _).set 3 _).below hu3
                replace hw := Below.hop ((((hw.setCell oqy _).setCell oqy _).setCell oqy _).setCell oqy _) hu3
                clear oqc oqf hk2
                refine late_mem (fun K hK => ?_)
                go_simp
                refine hK _ _ hk3 (fun u4 hu4 => ?_)
                clear hK K
                replace oq := oq.below hu4
                replace hw := Below.hop hw hu4
                replace hk3 := hk3.later hu4
                clear hu4
                replace ob : Own u4 (Bn) #[.slice (some ⟨b, off, none⟩) N c] := ob.keeps hk3 (by simp)
                refine late_nil ?_
                (try simp only [Act.put, List.setIfInBounds_toArray, List.set_cons_zero, List.set_cons_succ])
                clear hk3 hu hu2 hu3 hwz
                generalize u.heap.size = oqb at *
                replace hz := hw.size
                clear u
                replace obc := ob.cell
                replace obf := ob.thaw
                replace obz := ob.lt
                replace oqc := oq.cell
                replace oqf := oq.thaw
                replace oqz := oq.lt
                have HJ2 := Lib.hid (abides_below hJ HJ1.out hw)
                have HK2 := Lib.hid (HK1.out.trans (KeepR.below hw hfz))
                clear HJ1 HK1 ob obc obf obz cP cQ cR
                cases ok
                · have hst := HBOTH.out
                  simp only [Bool.false_eq_true, if_false] at hst
                  have HS2 := Lib.hid (HSTEP.out.trans (by rw [hst, List.append_nil]))
                  clear hst
                  gi_wp2
                  refine ⟨by first | exact trivial | exact fun _ h => (by cases h), ?_⟩
                  gi_wp2
                  case h_1.isTrue =>
                    rename_i h1 _
                    exact absurd h1 (by simp [undef])
                  case h_1.isFalse =>
                    rename_i h1 _
                    exact absurd h1 (by simp [undef])
                  refine ⟨by first | exact trivial | exact fun _ h => (by cases h), ?_⟩
                  gi_wp2
                  go_roundw
                  case rel => exact ⟨k0 + 1, by omega, by go_num, by rw [HS2.out]; exact HJ2.out, HK2.out⟩
                  case measure => simp [intOf]; omega
                · have hst := HBOTH.out
                  simp only [if_true] at hst
                  have HS2 := Lib.hid (HSTEP.out.trans (by rw [hst]))
                  have HP2 := Lib.hid (fun r h => HPRE.out r (by rw [hst]; exact h))
                  clear hst
                  obtain ⟨fn, tmps, assign, body, hy, hR⟩ := hY _ ⟨⟨t0, t1, t2⟩, t3⟩ _ HTI.out HJ2.out (by omega)
                  gi_wp2_with fail
                  refine hR.mono ?_
                  clear hR hy
                  rintro e W3 (⟨rfl, hJ3, hk3⟩ | ⟨rfl, hJx3⟩)
                  · have HJ3 := Lib.hid hJ3
                    obtain ⟨Tq, hTq⟩ := oq
                    have hnq : ¬ Pts u4 Bf oqb := fun hp => by
                      have := HND.out _ ((pts_same (hw.block Bf hfz)).1 hp)
                      omega
                    have oq : Own W3 oqb #[.int .i64 t0, .int .i64 t1, .int .i64 t2, .int .i64 t3] := ⟨Tq, hk3.same _ _ _ _ (by omega) hnq hTq⟩
                    have HK3 := Lib.hid (HK2.out.trans hk3)
                    clear hJ3 hk3 hTq hnq
                    have oqc := oq.cell
                    have oqf := oq.thaw
                    have oqz := oq.lt
                    obtain ⟨⟨⟨g0, g1, g2⟩, g3⟩, hG⟩ : ∃ G, pFlip ⟨⟨t0, t1, t2⟩, t3⟩ = G := ⟨_, rfl⟩
                    have HG := Lib.hid (congrArg Pl.v hG)
                    have HS3 : Hid (preT L i0 j0 (k0 + 1) = preT L i0 j0 k0 ++ [⟨⟨t0, t1, t2⟩, t3⟩] ++ [⟨⟨g0, g1, g2⟩, g3⟩]) := Lib.hid (by rw [HS2.out, hG, List.append_assoc]; rfl)
                    have HP3 := Lib.hid (fun r h => HP2.out r (by rw [hG]; exact h))
                    have hgi := flip_i64 ⟨⟨t0, t1, t2⟩, t3⟩
                    rw [hG] at hgi
                    have HGI := Lib.hid hgi
                    clear hG hgi
                    gi_wp2_with fail
                    refine ⟨trivial, (callsIn_wide.2 (callv (plane_Flip _ _ _ _ _) HG.out)).mono ?_⟩
                    rintro e W4 ⟨rfl, hb4⟩
                    have HJ4 := Lib.hid (abides_below hJ HJ3.out hb4)
                    have HK4 := Lib.hid (HK3.out.trans (KeepR.below hb4 (by have := HK3.out.size; omega)))
                    clear HJ3 HK3 oqc oqf oqz oq hb4
                    obtain ⟨fn, tmps, assign, body, hy, hR⟩ := hY _ ⟨⟨g0, g1, g2⟩, g3⟩ _ HGI.out HJ4.out (by simp only [List.length_append, List.length_cons, List.length_nil]; omega)
                    gi_wp2_with fail
                    refine hR.mono ?_
                    clear hR hy
                    rintro e W5 (⟨rfl, hJ5, hk5⟩ | ⟨rfl, hJx5⟩)
                    · have HJ5 := Lib.hid hJ5
                      have HK5 := Lib.hid (HK4.out.trans hk5)
                      clear hJ5 hk5
                      gi_wp2
                      go_roundw
                      case rel => exact ⟨k0 + 1, by omega, by go_num, by rw [HS3.out]; exact HJ5.out, HK5.out⟩
                      case measure => simp [intOf]; omega
                    · have HJ5 := Lib.hid hJx5
                      clear hJx5
                      gi_wp2
                      refine bodyPost_ret (results_none rfl _ _ _) rfl ?_
                      exact ⟨⟨_, rfl⟩, .inr ⟨_, by rw [List.append_assoc]; exact HP3.out [⟨⟨t0, t1, t2⟩, t3⟩, ⟨⟨g0, g1, g2⟩, g3⟩] (List.prefix_refl _), HJ5.out⟩⟩
                  · have HJ3 := Lib.hid hJx3
                    clear hJx3
                    gi_wp2
                    refine ⟨by first | exact trivial | exact fun _ h => (by cases h), ?_⟩
                    gi_wp2
                    refine ⟨by first | exact trivial | exact fun _ h => (by cases h), ?_⟩
                    gi_wp2
                    refine bodyPost_ret (results_none rfl _ _ _) rfl ?_
                    exact ⟨⟨_, rfl⟩, .inr ⟨_, HP2.out [⟨⟨t0, t1, t2⟩, t3⟩] (by simp), HJ3.out⟩⟩
            · have hk1 : ¬ (k0 : Int) < (j0 : Int) := by omega
              obtain rfl : k0 = j0 := by omega
              gi_wp2
              go_roundw
              case rel => exact ⟨k0 + 1, by omega, by go_num, by simpa [preT, triJ] using HJ1.out, HK1.out⟩
              case measure => simp [intOf]; omega
        · have hj1 : ¬ (j0 : Int) < (i0 : Int) := by omega
          obtain rfl : j0 = i0 := by omega
          gi_wp2
          go_roundw
          case rel => exact ⟨j0 + 1, by omega, by go_num, by simpa [triI] using HJ1.out, HK1.out⟩
          case measure => simp [intOf]; omega
    · have hi1 : ¬ (i0 : Int) < (N : Int) := by omega
      obtain rfl : i0 = N := by omega
      gi_wp2
      go_end0
      have e : triL L = triI L i0 := by unfold triL; rw [hN]
      simp only [e]
      exact ⟨⟨_, rfl⟩, .inl HJ1.out⟩
/-- The iterator of triples, as the caller's law asks of it. -/
theorem triples_stops (n Bn Bf b off N c : Nat) (hn : 1 ≤ n) (L : List V3) (w : World)
    (hB : Boxed w Bn 24 (.slice (some ⟨b, off, none⟩) N c)) (hb : ∃ cs T r, w.heap[b]? = some (.cells cs T r)) (hBf : Bf < w.heap.size) (hBn : Bn ≠ Bf) (hbf : b ≠ Bf) (hnp : ∀ x, ¬ Pts w Bf x) (hR : RowV w b off N L) (hN : L.length = N) (hN48 : N ≤ 48) (hNc : N ≤ c) (hc : c ≤ 9223372036854775807) :
    SeqStopsK Fence.wide n Try.prog 50 #[.pointer (some ⟨Bn, 0, none⟩)] (fun x : Pl => #[Pl.v (cl x)]) (KeepR Bf) (fun ys => ys = triL L) (fun pre => pre <+: triL L) 230000 w := fun l J Jx W hW hJ _ hY h0 => by
  obtain ⟨cs, T, r, hbl⟩ := hb
  have l1 : Bn < w.heap.size := hB.lt
  have l2 := (Array.getElem?_eq_some_iff.1 hbl).1
  refine triples1_in n l Bn Bf b off N c hn L J Jx W hJ (fun pre x W1 hx hj hl => ?_) ?_ ⟨cs, T, r, (hW.block b l2).trans hbl⟩ (Nat.lt_of_lt_of_le hBf hW.size) hBn hbf (fun x hx => hnp x ((pts_same (hW.block Bf hBf)).1 hx)) (hR.same (hW.block b l2)) hN hN48 hNc hc h0
  · have := hY pre x W1 hj hl
    dsimp only at this
    rw [cl_id hx] at this
    exact this
  · exact (hW.block Bn l1).trans hB
end Go.Proofs.Ytccnlnkgoaelpaa
