/- What the functions of package hull compute, in plain words: the planes through three points of a list, the facets of its hull, its vertices. No program in sight; no condition. -/
import Derived.Test.YtccnlnkgoaelpaaSidesM
namespace Go.Proofs.Ytccnlnkgoaelpaa
open Go.RowKit

instance : DecidableEq V3 := fun a b => decidable_of_iff (a.x = b.x ∧ a.y = b.y ∧ a.z = b.z) ⟨fun h => V3.ext h.1 h.2.1 h.2.2, fun h => by rw [h]; exact ⟨rfl, rfl, rfl⟩⟩
theorem Pl.ext {p q : Pl} (h1 : p.n = q.n) (h2 : p.b = q.b) : p = q := by cases p; cases q; simp_all
instance : DecidableEq Pl := fun a b => decidable_of_iff (a.n = b.n ∧ a.b = b.b) ⟨fun h => Pl.ext h.1 h.2, fun h => by rw [h]; exact ⟨rfl, rfl⟩⟩
instance : Inhabited V3 := ⟨⟨0, 0, 0⟩⟩
instance : Inhabited Pl := ⟨⟨⟨0, 0, 0⟩, 0⟩⟩

section
variable {α : Type} (lt : α → α → Bool)
/-- A strict total order. -/
structure Strict : Prop where
  irr : ∀ x, lt x x = false
  trans : ∀ x y z, lt x y = true → lt y z = true → lt x z = true
  tri : ∀ x y, lt x y = true ∨ x = y ∨ lt y x = true
def SortedL (l : List α) : Prop := l.Pairwise (fun x y => lt x y = true)
variable {lt}
theorem sorted_eq (S : Strict lt) : ∀ {l m : List α}, SortedL lt l → SortedL lt m → (∀ x, x ∈ l ↔ x ∈ m) → l = m
  | [], [], _, _, _ => rfl
  | [], y :: m, _, _, h => by have := (h y).2 List.mem_cons_self; cases this
  | x :: l, [], _, _, h => by have := (h x).1 List.mem_cons_self; cases this
  | x :: l, y :: m, hl, hm, h => by
    have hl' := List.pairwise_cons.1 hl
    have hm' := List.pairwise_cons.1 hm
    have hxy : x = y := by
      rcases List.mem_cons.1 ((h x).1 List.mem_cons_self) with e | e
      · exact e
      · rcases List.mem_cons.1 ((h y).2 List.mem_cons_self) with e2 | e2
        · exact e2.symm
        · have h1 := hm'.1 x e
          have h2 := hl'.1 y e2
          have h3 := S.trans _ _ _ h1 h2
          rw [S.irr] at h3; cases h3
    subst hxy
    have hmem : ∀ z, z ∈ l ↔ z ∈ m := fun z => by
      constructor
      · intro hz
        rcases List.mem_cons.1 ((h z).1 (List.mem_cons_of_mem _ hz)) with e | e
        · subst e; have := hl'.1 z hz; rw [S.irr] at this; cases this
        · exact e
      · intro hz
        rcases List.mem_cons.1 ((h z).2 (List.mem_cons_of_mem _ hz)) with e | e
        · subst e; have := hm'.1 z hz; rw [S.irr] at this; cases this
        · exact e
    rw [sorted_eq S hl'.2 hm'.2 hmem]
variable (lt) in
/-- An ordered list with an element, which it has once. -/
def putG [DecidableEq α] : List α → α → List α
  | [], x => [x]
  | y :: l, x => if lt y x = true then y :: putG l x else if y = x then y :: l else x :: y :: l
theorem mem_putG [DecidableEq α] (x z : α) : ∀ l : List α, z ∈ putG lt l x ↔ z = x ∨ z ∈ l
  | [] => by simp [putG]
  | y :: l => by
    unfold putG
    split
    · rw [List.mem_cons, mem_putG x z l, List.mem_cons]
      constructor
      · rintro (h | h | h)
        · exact .inr (.inl h)
        · exact .inl h
        · exact .inr (.inr h)
      · rintro (h | h | h)
        · exact .inr (.inl h)
        · exact .inl h
        · exact .inr (.inr h)
    · split
      · rename_i h; subst h; simp
      · simp
theorem sorted_putG [DecidableEq α] (S : Strict lt) (x : α) : ∀ {l : List α}, SortedL lt l → SortedL lt (putG lt l x)
  | [], _ => by simp [putG, SortedL]
  | y :: l, h => by
    have h' := List.pairwise_cons.1 h
    unfold putG
    split
    · rename_i hyx
      refine List.pairwise_cons.2 ⟨fun z hz => ?_, sorted_putG S x h'.2⟩
      rcases (mem_putG x z l).1 hz with rfl | hz
      · exact hyx
      · exact h'.1 z hz
    · split
      · exact h
      · rename_i h1 h2
        have hxy : lt x y = true := by
          rcases S.tri x y with e | e | e
          · exact e
          · exact absurd e.symm h2
          · exact absurd e h1
        refine List.pairwise_cons.2 ⟨fun z hz => ?_, h⟩
        rcases List.mem_cons.1 hz with rfl | hz
        · exact hxy
        · exact S.trans _ _ _ hxy (h'.1 z hz)
/-- The same by the number of elements that come before. -/
theorem putG_at [DecidableEq α] (x : α) : ∀ (l : List α) (k : Nat), k ≤ l.length → (∀ i, i < k → ∀ y, l[i]? = some y → lt y x = true) → (∀ y, l[k]? = some y → lt y x = false) →
    putG lt l x = if l[k]? = some x then l else l.take k ++ x :: l.drop k
  | [], k, hk, _, _ => by
    obtain rfl : k = 0 := by simpa using hk
    simp [putG]
  | y :: l, 0, _, _, h2 => by
    have := h2 y rfl
    unfold putG
    rw [this]
    by_cases e : y = x
    · subst e; simp
    · simp [e]
  | y :: l, k + 1, hk, h1, h2 => by
    have h3 := h1 0 (by omega) y rfl
    unfold putG
    rw [h3, if_pos rfl, putG_at x l k (by simpa using hk) (fun i hi z hz => h1 (i + 1) (by omega) z (by simpa using hz)) (fun z hz => h2 z (by simpa using hz))]
    simp only [List.getElem?_cons_succ, List.take_succ_cons, List.drop_succ_cons]
    split
    · rfl
    · rfl
end

def pLt (p q : Pl) : Bool := decide (pCompare p q < 0)
def vLt (a b : V3) : Bool := if a.x = b.x then (if a.y = b.y then decide (a.z < b.z) else decide (a.y < b.y)) else decide (a.x < b.x)
theorem vLt_iff (a b : V3) : vLt a b = true ↔ a.x < b.x ∨ a.x = b.x ∧ (a.y < b.y ∨ a.y = b.y ∧ a.z < b.z) := by
  unfold vLt; split
  · split <;> simp <;> omega
  · simp; omega
theorem vLt_strict : Strict vLt where
  irr x := by
    rw [Bool.eq_false_iff]; intro h
    rw [vLt_iff] at h; omega
  trans x y z h1 h2 := by rw [vLt_iff] at *; omega
  tri x y := by
    rw [vLt_iff, vLt_iff]
    by_cases h : x = y
    · exact .inr (.inl h)
    · have : ¬ (x.x = y.x ∧ x.y = y.y ∧ x.z = y.z) := fun e => h (V3.ext e.1 e.2.1 e.2.2)
      omega
theorem ordI_lt (a b : Int) : ordI a b < 0 ↔ a < b := by
  unfold ordI; split
  · omega
  · split <;> omega
theorem pLt_iff (p q : Pl) : pLt p q = true ↔ p.n.x < q.n.x ∨ p.n.x = q.n.x ∧ (p.n.y < q.n.y ∨ p.n.y = q.n.y ∧ (p.n.z < q.n.z ∨ p.n.z = q.n.z ∧ p.b < q.b)) := by
  unfold pLt pCompare
  rw [decide_eq_true_eq]
  simp only [cmpL]
  have hx := ordI_lt p.n.x q.n.x
  have hy := ordI_lt p.n.y q.n.y
  have hz := ordI_lt p.n.z q.n.z
  have hb := ordI_lt p.b q.b
  by_cases e1 : p.n.x = q.n.x
  · rw [if_pos e1]
    by_cases e2 : p.n.y = q.n.y
    · rw [if_pos e2]
      by_cases e3 : p.n.z = q.n.z
      · rw [if_pos e3]
        by_cases e4 : p.b = q.b
        · rw [if_pos e4]; omega
        · rw [if_neg e4]; omega
      · rw [if_neg e3]; omega
    · rw [if_neg e2]; omega
  · rw [if_neg e1]; omega
theorem pLt_strict : Strict pLt where
  irr x := by
    rw [Bool.eq_false_iff]; intro h
    rw [pLt_iff] at h; omega
  trans x y z h1 h2 := by rw [pLt_iff] at *; omega
  tri x y := by
    rw [pLt_iff, pLt_iff]
    by_cases h : x = y
    · exact .inr (.inl h)
    · have : ¬ (x.n.x = y.n.x ∧ x.n.y = y.n.y ∧ x.n.z = y.n.z ∧ x.b = y.b) := fun e => h (Pl.ext (V3.ext e.1 e.2.1 e.2.2.1) e.2.2.2)
      omega

/-- The planes through three points, in both directions. -/
def both (a b c : V3) : List Pl := if okThrough a b c = true then [pThrough a b c, pFlip (pThrough a b c)] else []
def vAt (L : List V3) (i : Nat) : V3 := L.getD i ⟨0, 0, 0⟩
def triK (L : List V3) (i j : Nat) : Nat → List Pl
  | 0 => []
  | k + 1 => triK L i j k ++ both (vAt L k) (vAt L j) (vAt L i)
def triJ (L : List V3) (i : Nat) : Nat → List Pl
  | 0 => []
  | j + 1 => triJ L i j ++ triK L i j j
def triI (L : List V3) : Nat → List Pl
  | 0 => []
  | i + 1 => triI L i ++ triJ L i i
def triL (L : List V3) : List Pl := triI L L.length
def allOn (L : List V3) (p : Pl) : Bool := L.all fun v => pSide p v == 0
def flatB (L : List V3) : Bool := match triL L with | [] => true | p :: _ => allOn L p
def insideB (L : List V3) (p : Pl) : Bool := L.all fun v => decide (pSide p v ≤ 0)
/-- The error of a list of points. -/
def hCheck (L : List V3) : Int := if 48 < L.length then 2 else if L.all vIn = true then (if flatB L = true then 11 else 0) else 3
/-- The reference's way: the facets put in one by one. -/
def putF (L : List V3) (p : Pl) (o : List Pl) : List Pl := if insideB L p = true then putG pLt o p else o
def stepR (L : List V3) (i j k : Nat) (o : List Pl) : List Pl :=
  if okThrough (vAt L i) (vAt L j) (vAt L k) = true then putF L (pFlip (pThrough (vAt L i) (vAt L j) (vAt L k))) (putF L (pThrough (vAt L i) (vAt L j) (vAt L k)) o) else o
def facK (L : List V3) (i j : Nat) (o : List Pl) : Nat → List Pl
  | 0 => o
  | k + 1 => stepR L i j k (facK L i j o k)
def facJ (L : List V3) (i : Nat) (o : List Pl) : Nat → List Pl
  | 0 => o
  | j + 1 => facK L i j (facJ L i o j) j
def facI (L : List V3) : Nat → List Pl
  | 0 => []
  | i + 1 => facJ L i (facI L i) i
def facets (L : List V3) : List Pl := facI L L.length
def hFaces (L : List V3) : List Pl := if hCheck L = 0 then facets L else []
/-- The points of a list in order, each once. -/
def distinctL : List V3 → List V3
  | [] => []
  | v :: l => putG vLt (distinctL l) v
/-- The normals of some planes through a point span the space. -/
def cornerB (f : List Pl) (v : V3) : Bool :=
  (f.filter fun p => pSide p v == 0).any fun p => (f.filter fun p => pSide p v == 0).any fun q => (f.filter fun p => pSide p v == 0).any fun r => !(vDot (vCross p.n q.n) r.n == 0)
def hExtreme (L : List V3) : List V3 := if hCheck L = 0 then (distinctL L).filter (cornerB (facets L)) else []
def hHas (L : List V3) (v : V3) : Bool := decide (hCheck L = 0) && (vIn v && (facets L).all fun p => decide (pSide p v ≤ 0))
end Go.Proofs.Ytccnlnkgoaelpaa
