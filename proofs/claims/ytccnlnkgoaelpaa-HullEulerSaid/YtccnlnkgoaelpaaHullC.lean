/- Package hull: slices.ContainsFunc over vectors and over planes with any predicate; Check's, beyond's and flat's predicates; beyond. -/
import Derived.Shelf.SlicesQ.IndexFunc
import Derived.Test.YtccnlnkgoaelpaaShelf
import Derived.Test.YtccnlnkgoaelpaaHullT
namespace Go.Proofs.Ytccnlnkgoaelpaa
open Go.RowKit Go.Shelf

def encV (v : V3) : List Value := [.int .i64 v.x, .int .i64 v.y, .int .i64 v.z]
def encP (p : Pl) : List Value := [.int .i64 p.n.x, .int .i64 p.n.y, .int .i64 p.n.z, .int .i64 p.b]
theorem getV (L : List V3) {j : Nat} (h : j < L.length) : L[j]! = vAt L j := by
  unfold vAt; rw [List.getD_eq_getElem?_getD, List.getElem?_eq_getElem h, List.getElem!_eq_getElem?_getD, List.getElem?_eq_getElem h]; rfl
theorem getP (L : List Pl) {j : Nat} (h : j < L.length) : L[j]! = pAt L j := by
  unfold pAt; rw [List.getD_eq_getElem?_getD, List.getElem?_eq_getElem h, List.getElem!_eq_getElem?_getD, List.getElem?_eq_getElem h]; rfl
/-- A slice reads as the list L of planes. -/
structure PlsAt (w : World) (A : Option Addr) (n : Nat) (L : List Pl) : Prop where
  len : L.length = n
  max : n ≤ 9223372036854775807
  row : 0 < n → ∃ b off, A = some ⟨b, off, none⟩ ∧ b < w.heap.size ∧ ∀ i, i < n → w.cell? ⟨b, off + i * 4, none⟩ = some (.int .i64 (pAt L i).n.x) ∧ w.cell? ⟨b, off + i * 4 + 1, none⟩ = some (.int .i64 (pAt L i).n.y) ∧ w.cell? ⟨b, off + i * 4 + 2, none⟩ = some (.int .i64 (pAt L i).n.z) ∧ w.cell? ⟨b, off + i * 4 + 3, none⟩ = some (.int .i64 (pAt L i).b)
def RowP (w : World) (b off n : Nat) (L : List Pl) : Prop := ∀ i, i < n → w.cell? ⟨b, off + i * 4, none⟩ = some (.int .i64 (pAt L i).n.x) ∧ w.cell? ⟨b, off + i * 4 + 1, none⟩ = some (.int .i64 (pAt L i).n.y) ∧ w.cell? ⟨b, off + i * 4 + 2, none⟩ = some (.int .i64 (pAt L i).n.z) ∧ w.cell? ⟨b, off + i * 4 + 3, none⟩ = some (.int .i64 (pAt L i).b)
theorem RowP.same {w w' : World} {b off n : Nat} {L : List Pl} (h : RowP w b off n L) (e : w'.heap[b]? = w.heap[b]?) : RowP w' b off n L := fun i hi =>
  ⟨(World.cell?_of_block (w := w) (a := ⟨b, _, none⟩) e).trans (h i hi).1, (World.cell?_of_block (w := w) (a := ⟨b, _, none⟩) e).trans (h i hi).2.1, (World.cell?_of_block (w := w) (a := ⟨b, _, none⟩) e).trans (h i hi).2.2.1, (World.cell?_of_block (w := w) (a := ⟨b, _, none⟩) e).trans (h i hi).2.2.2⟩
theorem PlsAt.below {w w' : World} {A : Option Addr} {n : Nat} {L : List Pl} (h : PlsAt w A n L) (hb : Below w.heap.size w w') : PlsAt w' A n L :=
  ⟨h.len, h.max, fun h1 => by
    obtain ⟨b, off, rfl, hlt, hc⟩ := h.row h1
    exact ⟨b, off, rfl, Nat.lt_of_lt_of_le hlt hb.size, RowP.same (w := w) hc (hb.block b hlt)⟩⟩
theorem PlsAt.later {w v : World} {A : Option Addr} {n : Nat} {L : List Pl} (h : PlsAt w A n L) (x : Later [] w v) : PlsAt x.u A n L :=
  ⟨h.len, h.max, fun h1 => by
    obtain ⟨b, off, rfl, hlt, hc⟩ := h.row h1
    exact ⟨b, off, rfl, Nat.lt_of_lt_of_le hlt x.h.1, RowP.same (w := w) hc (x.h.2 b hlt (by simp))⟩⟩

set_option maxRecDepth 100000 in
set_option maxHeartbeats 1000000 in
theorem contV0 (A : Option Addr) (c g : Nat) (lb : Array Value) (w : World) :
    Calls Try.prog 40 #[.slice A 0 c, .func (.func g) #[] lb] w fun e w' => e = .returned (.bool false) ∧ Below w.heap.size w w' := by
  go_enter Try.func40, Try.ntmps40
  go_wp2
  go_loopw [8] (fun i wr => i = .int .i64 0 ∧ Below w.heap.size w wr) (fun _ _ => 0)
  case atStart => exact ⟨rfl, Below.refl _ _⟩
  case round =>
    obtain ⟨rfl, hb⟩ := hrel
    go_wp2
    go_ret
    exact ⟨rfl, hb⟩
set_option maxRecDepth 100000 in
set_option maxHeartbeats 1000000 in
theorem contP0 (A : Option Addr) (c g : Nat) (lb : Array Value) (w : World) :
    Calls Try.prog 42 #[.slice A 0 c, .func (.func g) #[] lb] w fun e w' => e = .returned (.bool false) ∧ Below w.heap.size w w' := by
  go_enter Try.func42, Try.ntmps42
  go_wp2
  go_loopw [8] (fun i wr => i = .int .i64 0 ∧ Below w.heap.size w wr) (fun _ _ => 0)
  case atStart => exact ⟨rfl, Below.refl _ _⟩
  case round =>
    obtain ⟨rfl, hb⟩ := hrel
    go_wp2
    go_ret
    exact ⟨rfl, hb⟩
theorem contV {w : World} {A : Option Addr} {n : Nat} {L : List V3} (c g : Nat) (lb : Array Value) (p : V3 → Bool) (eg : ∀ args w, (callFunc g args).run Try.prog w = .ok (.enter g args) w) (hv : VecsAt w A n L)
    (hp : PredBelow Try.prog g lb V3.v p w) :
    Calls Try.prog 40 #[.slice A n c, .func (.func g) #[] lb] w fun e w' => e = .returned (.bool (L.any p)) ∧ Below w.heap.size w w' := by
  rcases Nat.eq_zero_or_pos n with h0 | h0
  · subst h0
    obtain rfl : L = [] := List.eq_nil_of_length_eq_zero hv.len
    exact contV0 A c g lb w
  · obtain ⟨b, off, rfl, hb, hc⟩ := hv.row h0
    have hl := hv.len
    have hcon := AnyQ.slices_ContainsFunc Try.containsV 3 Try.isAgg31 Try.sizeOf31 encV (fun _ => rfl) p g lb eg b off n c L w hp (by omega) hv.max hb (fun j hj i v hi => by
      have h1 := hc j (by omega)
      rw [getV L hj] at hi
      generalize vAt L j = y at hi h1
      match i, hi with
      | 0, hi => simp [encV] at hi; rw [← hi]; exact h1.1
      | 1, hi => simp [encV] at hi; rw [← hi]; exact h1.2.1
      | 2, hi => simp [encV] at hi; rw [← hi]; exact h1.2.2
      | i + 3, hi => simp [encV] at hi)
    rw [List.take_of_length_le (by omega)] at hcon
    exact hcon
theorem contP {w : World} {A : Option Addr} {n : Nat} {L : List Pl} (c g : Nat) (lb : Array Value) (p : Pl → Bool) (eg : ∀ args w, (callFunc g args).run Try.prog w = .ok (.enter g args) w) (hv : PlsAt w A n L)
    (hp : PredBelow Try.prog g lb Pl.v p w) :
    Calls Try.prog 42 #[.slice A n c, .func (.func g) #[] lb] w fun e w' => e = .returned (.bool (L.any p)) ∧ Below w.heap.size w w' := by
  rcases Nat.eq_zero_or_pos n with h0 | h0
  · subst h0
    obtain rfl : L = [] := List.eq_nil_of_length_eq_zero hv.len
    exact contP0 A c g lb w
  · obtain ⟨b, off, rfl, hb, hc⟩ := hv.row h0
    have hl := hv.len
    have hcon := AnyQ.slices_ContainsFunc Try.containsP 4 Try.isAgg33 Try.sizeOf33 encP (fun _ => rfl) p g lb eg b off n c L w hp (by omega) hv.max hb (fun j hj i v hi => by
      have h1 := hc j (by omega)
      rw [getP L hj] at hi
      generalize pAt L j = y at hi h1
      match i, hi with
      | 0, hi => simp [encP] at hi; rw [← hi]; exact h1.1
      | 1, hi => simp [encP] at hi; rw [← hi]; exact h1.2.1
      | 2, hi => simp [encP] at hi; rw [← hi]; exact h1.2.2.1
      | 3, hi => simp [encP] at hi; rw [← hi]; exact h1.2.2.2
      | i + 4, hi => simp [encP] at hi)
    rw [List.take_of_length_le (by omega)] at hcon
    exact hcon

set_option maxRecDepth 100000 in
/-- The predicate of Check: a point lies outside of the workspace. -/
theorem check1 (v : V3) (w : World) : Calls Try.prog 39 #[v.v] w fun e w' => e = .returned (.bool (!vIn v)) ∧ Below w.heap.size w w' := by
  obtain ⟨x, y, z⟩ := v
  obtain ⟨o, ho⟩ : ∃ o, vIn ⟨x, y, z⟩ = o := ⟨_, rfl⟩
  have HO := Lib.hid (congrArg Value.bool ho)
  rw [ho]
  clear ho
  go_enter Try.func39, Try.ntmps39
  go_wp2_with fail
  refine Calls.mono (callv (plane_In x y z _) HO.out) ?_
  rintro e w1 ⟨rfl, hb1⟩
  have hw : Below w.heap.size w w1 := Below.hop ((Below.refl _ _).alloc (Nat.le_refl _) _) hb1
  clear hb1
  go_wp2
  go_ret
  exact ⟨rfl, hw⟩
theorem pred_check (w : World) : PredBelow Try.prog 39 #[] V3.v (fun v => !vIn v) w := fun W x hb => (check1 x W).mono fun _ _ ⟨he, h⟩ => ⟨he, Below.hop hb h⟩

set_option maxRecDepth 100000 in
theorem pred_flat_at (p : Pl) (Bp : Nat) (hx : I64 p.n.x) (hy : I64 p.n.y) (hz : I64 p.n.z) (v : V3) (w : World) (hB : Own w Bp #[.int .i64 p.n.x, .int .i64 p.n.y, .int .i64 p.n.z, .int .i64 p.b]) :
    Calls Try.prog 59 #[v.v, .pointer (some ⟨Bp, 0, none⟩)] w fun e w' => e = .returned (.bool (!(pSide p v == 0))) ∧ Below w.heap.size w w' := by
  obtain ⟨x, y, z⟩ := v
  obtain ⟨⟨p0, p1, p2⟩, p3⟩ := p
  simp only [] at hx hy hz hB
  obtain ⟨s, hs⟩ : ∃ s, pSide ⟨⟨p0, p1, p2⟩, p3⟩ ⟨x, y, z⟩ = s := ⟨_, rfl⟩
  have HS := Lib.hid (congrArg (Value.int IntKind.i64) hs)
  rw [hs]
  clear hs
  have hBz := hB.lt
  have hB1 := hB.alloc (.cells #[.int .i64 x, .int .i64 y, .int .i64 z] 31)
  have hBc := hB1.cell
  have hBf := hB1.thaw
  go_enter Try.func59, Try.ntmps59
  go_wp2_with fail
  refine Calls.mono (callv (plane_Side p0 p1 p2 p3 x y z hx hy hz _) HS.out) ?_
  rintro e w1 ⟨rfl, hb1⟩
  have hw : Below w.heap.size w w1 := Below.hop ((Below.refl _ _).alloc (Nat.le_refl _) _) hb1
  clear hb1 hBc hBf hB1
  go_wp2
  go_ret
  exact ⟨rfl, hw⟩
theorem pred_flat (p : Pl) (Bp : Nat) (w : World) (hx : I64 p.n.x) (hy : I64 p.n.y) (hz : I64 p.n.z) (hB : Own w Bp #[.int .i64 p.n.x, .int .i64 p.n.y, .int .i64 p.n.z, .int .i64 p.b]) :
    PredBelow Try.prog 59 #[.pointer (some ⟨Bp, 0, none⟩)] V3.v (fun v => !(pSide p v == 0)) w := fun W x hb => (pred_flat_at p Bp hx hy hz x W (hB.below hb)).mono fun _ _ ⟨he, h⟩ => ⟨he, Below.hop hb h⟩

set_option maxRecDepth 100000 in
theorem pred_beyond_at (p : Pl) (Bp : Nat) (hx : I64 p.n.x) (hy : I64 p.n.y) (hz : I64 p.n.z) (v : V3) (w : World) (hB : Own w Bp #[.int .i64 p.n.x, .int .i64 p.n.y, .int .i64 p.n.z, .int .i64 p.b]) :
    Calls Try.prog 53 #[v.v, .pointer (some ⟨Bp, 0, none⟩)] w fun e w' => e = .returned (.bool (decide (0 < pSide p v))) ∧ Below w.heap.size w w' := by
  obtain ⟨x, y, z⟩ := v
  obtain ⟨⟨p0, p1, p2⟩, p3⟩ := p
  simp only [] at hx hy hz hB
  obtain ⟨s, hs⟩ : ∃ s, pSide ⟨⟨p0, p1, p2⟩, p3⟩ ⟨x, y, z⟩ = s := ⟨_, rfl⟩
  have HS := Lib.hid (congrArg (Value.int IntKind.i64) hs)
  rw [hs]
  clear hs
  have hBz := hB.lt
  have hB1 := hB.alloc (.cells #[.int .i64 x, .int .i64 y, .int .i64 z] 31)
  have hBc := hB1.cell
  have hBf := hB1.thaw
  go_enter Try.func53, Try.ntmps53
  go_wp2_with fail
  refine Calls.mono (callv (plane_Side p0 p1 p2 p3 x y z hx hy hz _) HS.out) ?_
  rintro e w1 ⟨rfl, hb1⟩
  have hw : Below w.heap.size w w1 := Below.hop ((Below.refl _ _).alloc (Nat.le_refl _) _) hb1
  clear hb1 hBc hBf hB1
  go_wp2
  go_ret
  exact ⟨rfl, hw⟩
theorem pred_beyond (p : Pl) (Bp : Nat) (w : World) (hx : I64 p.n.x) (hy : I64 p.n.y) (hz : I64 p.n.z) (hB : Own w Bp #[.int .i64 p.n.x, .int .i64 p.n.y, .int .i64 p.n.z, .int .i64 p.b]) :
    PredBelow Try.prog 53 #[.pointer (some ⟨Bp, 0, none⟩)] V3.v (fun v => decide (0 < pSide p v)) w := fun W x hb => (pred_beyond_at p Bp hx hy hz x W (hB.below hb)).mono fun _ _ ⟨he, h⟩ => ⟨he, Below.hop hb h⟩

theorem any_inside (L : List V3) (p : Pl) : (L.any fun v => decide (0 < pSide p v)) = !insideB L p := by
  unfold insideB
  rw [List.not_all_eq_any_not]
  congr 1
  funext v
  by_cases h : pSide p v ≤ 0
  · simp [h, Int.not_lt.2 h]
  · simp [h, Int.not_le.1 h]
theorem any_on (L : List V3) (p : Pl) : (L.any fun v => !(pSide p v == 0)) = !allOn L p := by
  unfold allOn
  rw [List.not_all_eq_any_not]
set_option maxRecDepth 100000 in
set_option maxHeartbeats 1000000 in
theorem hull_beyond (A : Option Addr) (n c : Nat) (L : List V3) (p0 p1 p2 p3 : Int) (hx : I64 p0) (hy : I64 p1) (hz : I64 p2) (w : World) (hv : VecsAt w A n L) :
    Calls Try.prog 30 #[.slice A n c, vP p0 p1 p2 p3] w fun e w' => e = .returned (.bool (!insideB L ⟨⟨p0, p1, p2⟩, p3⟩)) ∧ Below w.heap.size w w' := by
  rw [← any_inside]
  have eg : ∀ args w, (callFunc 53 args).run Try.prog w = .ok (.enter 53 args) w := enters_of Try.func53 (by kernel_rfl) rfl
  have hb1 := (Below.refl w.heap.size w).alloc (Nat.le_refl _) (.cells #[.int .i64 p0, .int .i64 p1, .int .i64 p2, .int .i64 p3] 33)
  have hcon := contV c 53 #[.pointer (some ⟨w.heap.size, 0, none⟩)] _ eg (hv.below hb1) (pred_beyond ⟨⟨p0, p1, p2⟩, p3⟩ w.heap.size _ hx hy hz (Own.new rfl))
  generalize (L.any fun v => decide (0 < pSide ⟨⟨p0, p1, p2⟩, p3⟩ v)) = r at hcon ⊢
  clear hv
  go_enter Try.func30, Try.ntmps30
  go_wp2_with (go_at_call 40; refine hcon.mono ?_; rintro e w' ⟨rfl, hb'⟩)
  go_ret
  exact ⟨rfl, Below.hop hb1 hb'⟩
end Go.Proofs.Ytccnlnkgoaelpaa
