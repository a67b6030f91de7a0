/- A region that draws its order may be walked with its operations in another order: the numbers in its edges are changed with them. -/
import Derived.Test.YtccnlnkgoaelpaaGreatGenW
namespace Go.Proofs.YtccnlnkgoaelpaaGreat
open Go.RowKit

def rnE (σ : Nat → Nat) (e : Edge) : Edge := { e with on := σ e.on }
def rnO (σ : Nat → Nat) (o : Oper) : Oper := { o with after := o.after.map (rnE σ), guard := o.guard.map fun g => (σ g.1, g.2) }
section
variable {P : Program} {ops ops' : Array Oper} {σ : Nat → Nat} {md : Region.Mode}
theorem wp_rn {Q : Exit → Act → World → Prop} {K : Act → World → Prop} {a : Act} {w : World} (o : Oper) : (rnO σ o).wp P a w K Q = o.wp P a w K Q := rfl
theorem mem_ready {listed : Array Bool} {i : Nat} : i ∈ Region.ready md ops listed ↔ listed.getD i true = false ∧ ∃ o, ops[i]? = some o ∧ ∀ e ∈ o.after, Region.binds md e = true → listed.getD e.on false = true := by
  unfold Region.ready
  rw [List.mem_filter, List.mem_range, Bool.and_eq_true]
  constructor
  · rintro ⟨h1, h2, h3⟩
    have ho : ops[i]? = some ops[i] := Array.getElem?_eq_getElem h1
    refine ⟨by simpa using h2, _, ho, fun e he hb => ?_⟩
    rw [ho] at h3
    simp only [Option.map_some, Option.getD_some] at h3
    have q := Array.all_eq_true'.1 h3 e he
    simpa [hb] using q
  · rintro ⟨h1, o, ho, h2⟩
    refine ⟨(Array.getElem?_eq_some_iff.1 ho).1, by simpa using h1, ?_⟩
    rw [ho]
    simp only [Option.map_some, Option.getD_some]
    rw [Array.all_eq_true']
    intro e he
    cases hb : Region.binds md e with
    | false => simp
    | true => simpa using h2 e he hb
/-- ops' holds the operations of ops, number i at place σ i. -/
structure Perm (ops ops' : Array Oper) (σ : Nat → Nat) : Prop where
  size : ops'.size = ops.size
  lt : ∀ i, i < ops.size → σ i < ops.size
  inj : ∀ i j, i < ops.size → j < ops.size → σ i = σ j → i = j
  on : ∀ j, j < ops.size → ∃ i, i < ops.size ∧ σ i = j
  at_ : ∀ (i : Nat) (o : Oper), ops[i]? = some o → ops'[σ i]? = some (rnO σ o)
  edge : ∀ (i : Nat) (o : Oper), ops[i]? = some o → ∀ e ∈ o.after, e.on < ops.size
  guard : ∀ (i : Nat) (o : Oper), ops[i]? = some o → ∀ g, o.guard = some g → g.1 < ops.size
theorem Perm.yielded (p : Perm ops ops' σ) {t : Array Value} {j : Nat} (hj : j < ops.size) : yielded ops' t (σ j) = yielded ops t j := by
  have ho : ops[j]? = some ops[j] := Array.getElem?_eq_getElem hj
  unfold Go.yielded
  rw [p.at_ j _ ho, ho]
  rfl
theorem Perm.wanted (p : Perm ops ops' σ) {t : Array Value} {i : Nat} {o : Oper} (ho : ops[i]? = some o) : Region.wanted (rnO σ o) (Go.yielded ops' t) = Region.wanted o (Go.yielded ops t) := by
  unfold Region.wanted rnO
  cases hg : o.guard with
  | none => rfl
  | some g =>
    obtain ⟨j, b⟩ := g
    simp only [Option.map_some]
    rw [p.yielded (p.guard i o ho _ hg)]
theorem Perm.ready (p : Perm ops ops' σ) {listed listed' : Array Bool} (h : ∀ i, i < ops.size → listed'[σ i]? = listed[i]?) {i : Nat} (hi : i < ops.size) :
    σ i ∈ Region.ready md ops' listed' ↔ i ∈ Region.ready md ops listed := by
  have ho : ops[i]? = some ops[i] := Array.getElem?_eq_getElem hi
  have gd : ∀ j d, j < ops.size → listed'.getD (σ j) d = listed.getD j d := fun j d hj => by
    rw [Array.getD_eq_getD_getElem?, Array.getD_eq_getD_getElem?, h j hj]
  rw [mem_ready, mem_ready, gd i true hi]
  refine and_congr_right fun _ => ?_
  constructor
  · rintro ⟨o', ho', he⟩
    rw [p.at_ i _ ho] at ho'
    cases ho'
    refine ⟨_, ho, fun e hm hb => ?_⟩
    have q := he (rnE σ e) (Array.mem_map.2 ⟨e, hm, rfl⟩) hb
    exact (gd e.on false (p.edge i _ ho e hm)).symm.trans q
  · rintro ⟨o, ho2, he⟩
    refine ⟨_, p.at_ i o ho2, fun e' hm hb => ?_⟩
    obtain ⟨e, hm2, rfl⟩ := Array.mem_map.1 hm
    exact (gd e.on false (p.edge i o ho2 e hm2)).trans (he e hm2 hb)
theorem ready_lt {listed : Array Bool} {i : Nat} (h : i ∈ Region.ready md ops listed) : i < ops.size := by
  obtain ⟨_, o, ho, _⟩ := mem_ready.1 h
  exact (Array.getElem?_eq_some_iff.1 ho).1
theorem Perm.empty (p : Perm ops ops' σ) {listed listed' : Array Bool} (h : ∀ i, i < ops.size → listed'[σ i]? = listed[i]?) :
    Region.ready md ops' listed' = [] ↔ Region.ready md ops listed = [] := by
  constructor
  · intro e
    rw [List.eq_nil_iff_forall_not_mem]
    intro i hi
    have := (p.ready h (ready_lt hi)).2 hi
    rw [e] at this
    cases this
  · intro e
    rw [List.eq_nil_iff_forall_not_mem]
    intro j hj
    have hl := ready_lt hj
    rw [p.size] at hl
    obtain ⟨i, hi, rfl⟩ := p.on j hl
    have := (p.ready h hi).1 hj
    rw [e] at this
    cases this
theorem perm_main {Q : Exit → Act → World → Prop} (p : Perm ops ops' σ) : ∀ (fuel : Nat) (listed listed' : Array Bool) (a : Act) (w : World), listed.size = ops.size → listed'.size = ops.size →
    (∀ i, i < ops.size → listed'[σ i]? = listed[i]?) → wpAny P md ops' Q fuel listed' a w → wpAny P md ops Q fuel listed a w := by
  intro fuel
  induction fuel with
  | zero =>
    intro listed listed' a w h1 h2 h hw
    exact ⟨(p.empty h).1 hw.1, hw.2⟩
  | succ fuel ih =>
    intro listed listed' a w h1 h2 h hw
    refine ⟨fun e => hw.1 ((p.empty h).2 e), fun i hi => ?_⟩
    have hil := ready_lt hi
    have ho : ops[i]? = some ops[i] := Array.getElem?_eq_getElem hil
    have q := hw.2 (σ i) ((p.ready h hil).2 hi)
    have step : ∀ a w, wpAny P md ops' Q fuel (listed'.setIfInBounds (σ i) true) a w → wpAny P md ops Q fuel (listed.setIfInBounds i true) a w := fun a w hk =>
      ih _ _ a w (by simpa using h1) (by simpa using h2) (fun j hj => by
        rw [Array.getElem?_setIfInBounds, Array.getElem?_setIfInBounds]
        by_cases e : i = j
        · subst e
          have := p.lt i hj
          rw [if_pos rfl, if_pos rfl, if_pos (by omega), if_pos (by omega)]
        · rw [if_neg (fun e2 => e (p.inj i j hil hj e2)), if_neg e]
          exact h j hj) hk
    unfold wpOp at q ⊢
    rw [p.at_ i _ ho] at q
    rw [ho]
    simp only [] at q ⊢
    rw [p.wanted ho] at q
    by_cases hwt : Region.wanted ops[i] (Go.yielded ops a.tmps) = true
    · rw [if_pos hwt] at q ⊢
      rw [wp_rn] at q
      rcases q with q | ⟨q1, q2⟩
      · exact .inl (Oper.wp_mono step q)
      · exact .inr ⟨q1, q2⟩
    · rw [if_neg hwt] at q ⊢
      exact step _ _ q
end
def noOper : Oper := { dst := none, op := .move (.const undef), type := 0, pos := "", after := #[], guard := none }
def tab (τ : List Nat) (j : Nat) : Nat := τ.getD j j
def pickO (σ : Nat → Nat) : Option Oper → Oper
  | some o => rnO σ o
  | none => noOper
def permOps (l : List Oper) (π τ : List Nat) : List Oper := π.map fun i => pickO (tab τ) l[i]?
def permFit (l : List Oper) (π τ : List Nat) : Bool :=
  decide (π.length = l.length) && decide (τ.length = l.length) && ((List.range l.length).all fun i => decide (tab τ i < l.length) && decide (π[tab τ i]? = some i)) &&
  ((List.range l.length).all fun j => decide (π.getD j l.length < l.length) && decide (tab τ (π.getD j l.length) = j)) &&
  (l.all fun o => (o.after.all fun e => decide (e.on < l.length)) && (match o.guard with | none => true | some g => decide (g.1 < l.length)))
theorem perm_of {l : List Oper} {π τ : List Nat} (h : permFit l π τ = true) : Perm l.toArray (permOps l π τ).toArray (tab τ) := by
  simp only [permFit, Bool.and_eq_true, decide_eq_true_eq, List.all_eq_true, List.mem_range] at h
  obtain ⟨⟨⟨⟨h1, h2⟩, h3⟩, h4⟩, h5⟩ := h
  refine ⟨by simp [permOps, h1], fun i hi => by have := h3 i (by simpa using hi); simpa using this.1, fun i j hi hj e => ?_, fun j hj => ?_, fun i o ho => ?_, fun i o ho e he => ?_, fun i o ho g hg => ?_⟩
  · have q1 := (h3 i (by simpa using hi)).2
    have q2 := (h3 j (by simpa using hj)).2
    rw [e, q2] at q1
    exact (Option.some.inj q1).symm
  · have q := h4 j (by simpa using hj)
    exact ⟨_, by simpa using q.1, q.2⟩
  · have hi : i < l.length := by have := (Array.getElem?_eq_some_iff.1 ho).1; simpa using this
    have q := (h3 i hi).2
    have ho' : l[i]? = some o := by simpa using ho
    simp only [permOps, List.getElem?_toArray, List.getElem?_map, q, Option.map_some, ho', pickO]
  · have ho' : l[i]? = some o := by simpa using ho
    have q := (h5 o (List.mem_of_getElem? ho')).1
    have := Array.all_eq_true'.1 q e he
    simpa using this
  · have ho' : l[i]? = some o := by simpa using ho
    have q := (h5 o (List.mem_of_getElem? ho')).2
    rw [hg] at q
    simpa using q
section
variable {P : Program} {T : List Nat} {w : World} {Q : Exit → Act → World → Prop}
theorem region_gen_any {a : Act} {l : List Oper} (cs : List (Cut T)) (c ns N : Nat) (Ph : Nat → World → Prop) (hPB : ∀ k u u', Ph k u → Below u.heap.size u u' → Ph k u') (hP0 : Ph 0 w)
    (hB : genFit l (kdAt [] 0 cs) c ns N = true) (hp : cutsOk l c a.tmps.size 0 cs = true)
    (h : genWalk P l T w Ph (kdAt [] 0 cs) c 0 0 [] cs (fun _ => a) (fun A => ∀ f u', Upd T w u' → Ph ns u' → (∀ m, m < c → (kdAt [] 0 cs m).isMake = true → Made T w (kdAt [] 0 cs) f m u') →
      (∀ m m', m < c → m' < c → (kdAt [] 0 cs m).isMake = true → (kdAt [] 0 cs m').isMake = true → m ≠ m' → (f m).1 ≠ (f m').1) → effChain P l.toArray T w (Q .normal) (l.drop c) (A f) u')) : wpAny P .any l.toArray Q l.toArray.size (Array.replicate l.toArray.size false) a w.drew := by
  obtain ⟨F, hcl⟩ := genFit_of hB
  obtain ⟨va, Af, hK, hY, hloc⟩ := gen_walk (P := P) (w := w) (Ph := Ph) (kd := kdAt [] 0 cs) hcl a.tmps.size cs 0 0 [] (fun _ => a) _ hp (fun _ => rfl) (fun _ _ _ => rfl) h
  have hw0 : Below w.heap.size w w.drew := (Below.refl _ _).drew
  have hlen : (List.range' 0 (c - 0)).length = c := by simp
  refine gen_main (P := P) (T := T) (w := w) (Q := Q) (va := fun f i => if i < c then va f i else undef) F hPB (fun f f' i hnm hn => ?_) l.toArray.size (List.range' 0 (c - 0)) (l.drop c) c (Array.replicate l.toArray.size false) a w.drew 0 (fun _ => True)
    (by rw [hlen]; simp; omega) (by simp) (by simp; omega) (Nat.le_refl _) (fun i => by rw [List.getElem?_drop]; simp) List.pairwise_lt_range'
    (fun i hi => by have := List.mem_range'_1.1 hi; simp; omega)
    (fun i hi => by
      have hi' : i < l.length := by simpa using hi
      rw [List.mem_range'_1]
      simp [hi']
      omega)
    (fun i o _ hi => by
      rw [Array.getD_eq_getD_getElem?, Array.getElem?_replicate] at hi
      split at hi <;> simp at hi)
    ⟨fun _ => (0, 0), trivial⟩ (fun _ _ _ _ _ => trivial) (fun f f' _ _ m h1 _ h3 => absurd (List.mem_range'_1.2 (by omega)) h3) (fun f _ => ?_) (Keeps.of_below hw0)
    (fun i n hi _ _ => ⟨fun _ => Nat.zero_le _, fun _ => List.mem_range'_1.2 (by omega)⟩) (Nat.zero_le _)
    (.inl ⟨rfl, hPB _ _ _ hP0 hw0, fun f _ m h1 _ h3 => absurd (List.mem_range'_1.2 (by omega)) h3, fun f _ m m' h1 _ _ _ h3 _ => absurd (List.mem_range'_1.2 (by omega)) h3, fun f _ u' h1 h2 h3 h4 => ?_⟩)
  · by_cases hi : i < c
    · rw [if_pos hi, if_pos hi]; exact hloc f f' i (by omega) hi hnm hn
    · rw [if_neg hi, if_neg hi]
  · have e : (List.range' 0 (c - 0)).map (fun i => if i < c then va f i else undef) = (List.range' 0 (c - 0)).map (va f) := List.map_congr_left (fun x hx => by have := List.mem_range'_1.1 hx; exact if_pos (by omega))
    rw [e]; exact (hY f).1
  · have e : (List.range' 0 (c - 0)).map (fun i => if i < c then va f i else undef) = (List.range' 0 (c - 0)).map (va f) := List.map_congr_left (fun x hx => by have := List.mem_range'_1.1 hx; exact if_pos (by omega))
    rw [e, (hY f).2]
    exact hK f u' ((Upd.of_below hw0).trans h1) h2 h3 h4
/-- As region_gen, with the operations in the order π (operation number i has place τ i). -/
theorem region_genp {id : Nat} {a : Act} {l : List Oper} (π τ : List Nat) (l' : List Oper) (hl : permOps l π τ = l') (hf : permFit l π τ = true) (cs : List (Cut T)) (c ns N : Nat) (Ph : Nat → World → Prop) (hPB : ∀ k u u', Ph k u → Below u.heap.size u u' → Ph k u') (hP0 : Ph 0 w)
    (hm : P.follows .mixedOrders = true) (hB : genFit l' (kdAt [] 0 cs) c ns N = true) (hp : cutsOk l' c a.tmps.size 0 cs = true)
    (h : genWalk P l' T w Ph (kdAt [] 0 cs) c 0 0 [] cs (fun _ => a) (fun A => ∀ f u', Upd T w u' → Ph ns u' → (∀ m, m < c → (kdAt [] 0 cs m).isMake = true → Made T w (kdAt [] 0 cs) f m u') →
      (∀ m m', m < c → m' < c → (kdAt [] 0 cs m).isMake = true → (kdAt [] 0 cs m').isMake = true → m ≠ m' → (f m).1 ≠ (f m').1) → effChain P l'.toArray T w (Q .normal) (l'.drop c) (A f) u')) : (Code.region id l.toArray true).wp P Q a w := by
  subst hl
  have p := perm_of hf
  refine wp_region_any hm ?_
  have q := region_gen_any cs c ns N Ph hPB hP0 hB hp h
  rw [p.size] at q
  refine perm_main p _ _ _ _ _ (by simp) (by simp) (fun i hi => ?_) q
  have := p.lt i hi
  rw [Array.getElem?_replicate, Array.getElem?_replicate, if_pos this, if_pos hi]
end
end Go.Proofs.YtccnlnkgoaelpaaGreat
