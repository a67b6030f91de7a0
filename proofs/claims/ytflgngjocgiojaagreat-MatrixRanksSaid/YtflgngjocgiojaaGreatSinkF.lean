/- As the text Sink: a region that draws its order and writes behind its first n operations; operation f of these is a move that the first writer need not wait for. No condition. -/
import Derived.RangeFuncNested
import Derived.RangeFuncBound
import Derived.RangeFuncCalls
import Derived.RangeFuncLeaves
import Derived.OwnWalkIn
import Derived.TacticsInMore
import Derived.LoopNIn
import Derived.LoopIn
import Derived.Test.YtflgngjocgiojaaGreatNumE
import Derived.Test.YtflgngjocgiojaaGreatLift
namespace Go.Proofs.YtflgngjocgiojaaGreat
open Go.RowKit

/-- What an iterator may change that began when the heap held B blocks: cells of block g, and cells that were made since. -/
structure ItW (g B : Nat) (W W' : World) : Prop where
 os : W'.os = W.os
 tape : W'.tape = W.tape
 output : W'.output = W.output
 size : W.heap.size ≤ W'.heap.size
 block : ∀ k, k < W.heap.size → k ≠ g → k < B → W'.heap[k]? = W.heap[k]?
 rest : ∀ (k : Nat) (o : Obj), W.heap[k]? = some o → o.isCells = false → W'.heap[k]? = some o
theorem ItW.refl (g B : Nat) (W : World) : ItW g B W W := ⟨rfl, rfl, rfl, Nat.le_refl _, fun _ _ _ _ => rfl, fun _ _ h _ => h⟩
theorem ItW.trans {g B : Nat} {X Y Z : World} (h : ItW g B X Y) (k : ItW g B Y Z) : ItW g B X Z :=
 ⟨k.os.trans h.os, k.tape.trans h.tape, k.output.trans h.output, Nat.le_trans h.size k.size, fun i hi hg hB => (k.block i (Nat.lt_of_lt_of_le hi h.size) hg hB).trans (h.block i hi hg hB), fun i o h1 h2 => k.rest i o (h.rest i o h1 h2) h2⟩
theorem ItW.mono {g B B' : Nat} {W W' : World} (h : ItW g B W W') (hB : B' ≤ B) : ItW g B' W W' := ⟨h.os, h.tape, h.output, h.size, fun k h1 h2 h3 => h.block k h1 h2 (by omega), h.rest⟩
theorem ItW.below {g B : Nat} {W W' : World} (h : Below W.heap.size W W') : ItW g B W W' :=
 ⟨h.os, h.tape, h.output, h.size, fun k hk _ _ => h.block k hk, fun k o h1 _ => (h.block k (Array.getElem?_eq_some_iff.1 h1).1).trans h1⟩
theorem ItW.set {g B : Nat} {W : World} {p : Addr} (hp : p.block = g ∨ B ≤ p.block) (hc : ∃ cs T r, W.heap[p.block]? = some (.cells cs T r)) (x : Value) : ItW g B W (W.setCell p x) :=
 ⟨rfl, rfl, rfl, by simp [World.setCell], fun k hk h1 h2 => Below.heap_setCell _ _ _ k (by omega), fun k o h1 h2 => by
  obtain ⟨cs, T, r, hc⟩ := hc
  refine (Below.heap_setCell _ _ _ k (fun e => ?_)).trans h1
  rw [e, hc] at h1
  cases h1
  simp [Obj.isCells] at h2⟩
theorem Own.cells {w : World} {b : Nat} {cs : Array Value} (h : Own w b cs) : ∃ cs T r, w.heap[b]? = some (.cells cs T r) := by
 obtain ⟨T, h⟩ := h
 exact ⟨_, _, _, h⟩

/-- The contract of such an iterator. -/
def SeqItW {α : Type} (n : Nat) (P : Program) (f : Nat) (lb : Array Value) (encs : α → Array Value) (Kp : World → World → Prop) (g : Nat) (S : List α → Prop) (N : Nat) (Fin : World → Prop) (w : World) : Prop :=
 ∀ (l : Nat) (J : List α → World → Prop) (W : World), Below w.heap.size w W → (∀ s A B, J s A → ItW g W.heap.size A B → J s B) →
  (∀ pre x W1, J pre W1 → pre.length < N → YieldAt Fence.wide (n - 1) P l (encs x) W1 fun e W' => e = .returned (.bool true) ∧ J (pre ++ [x]) W' ∧ Kp W1 W') →
  J [] W →
  CallsIn Fence.wide n P f (#[.func (.yield l) #[] #[]] ++ lb) W fun e W' => (∃ v, e = .returned v) ∧ ∃ xs, S xs ∧ J xs W' ∧ Fin W'

theorem wpIn_range_itW {α : Type} {P : Program} {n : Nat} {g : Operand} {ps : Array Tmp} {assign body : Code} {Q : Exit → Act → World → Prop} {a : Act} {w : World}
  (h1 : 1 ≤ n) {gf : Nat} {lb : Array Value} (hg : a.eval g = .func (.func gf) #[] lb) (eg : ∀ args w, (callFunc gf args).run P w = .ok (.enter gf args) w)
  {encs : α → Array Value} {Kp : World → World → Prop} {gb : Nat} {S : List α → Prop} {N : Nat} {Fin : World → Prop} (hseq : SeqItW (n - 1) P gf lb encs Kp gb S N Fin w) (hgb : gb < w.heap.size)
  (hKt : ∀ {A B C : World}, Kp A B → Kp B C → Kp A C) (hKb : ∀ (W : World) (l : Nat) (o o' : Obj), w.heap.size ≤ l → W.heap[l]? = some o → o.isCells = false → o.isWalk = false → Kp W (W.putObj l o')) (hps : ∀ x, (encs x).size = ps.size)
  (hFin : OwnFrom w.heap.size (fun (_ : Unit) W => Fin W))
  (I : List α → World → Prop) (hI : OwnFrom w.heap.size I) (hIt : ∀ s A B, I s A → ItW gb w.heap.size A B → I s B) (h0 : I [] w) (a₁ : α → Act)
  (hassign : ∀ (l : Nat) (x : α) (W : World) (K : Act → World → Prop), K (a₁ x) W →
   assign.wpIn (Fence.wide.inRound l) (n - 1 - 1) P (Exit.then K (fun _ _ _ => False)) { tmps := (ps.zip (encs x)).foldl (fun t (p, v) => t.setIfInBounds p v) a.tmps, defers := [] } W)
  (hbody : ∀ (l : Nat) (pre : List α) (x : α) (W : World), w.heap.size ≤ l → I pre W → pre.length < N → body.wpIn (Fence.wide.inRound l) (n - 1 - 1) P (fun e _ W' => e = .normal ∧ KeepsFrom w.heap.size W W' ∧ Kp W W' ∧ I (pre ++ [x]) W') (a₁ x) W)
  (hdone : ∀ (D : Nat) (xs : List α) (W : World), w.heap.size ≤ D → S xs → I xs W → Fin W → W.heap[D]? = some (.deferred (some [])) → Q .normal { a with defers := { target := .collected D, args := #[] } :: a.defers } W) :
  (Code.rangeFunc g ps assign body).wpIn Fence.wide n P Q a w := by
 refine wpIn_rangeFunc fun fn hfn => ?_
 -- the record of the loop in its three states
 obtain ⟨R, hR⟩ : ∃ R : LoopState → Loop, R = fun st => { state := st, pending := none, fn, tmps := a.tmps, params := ps, assign, body, defers := w.heap.size } := ⟨_, rfl⟩
 have hst : ∀ st, (R st).state = st := fun st => by rw [hR]
 have hup : ∀ st st', { R st with state := st' } = R st' := fun st st' => by rw [hR]
 obtain ⟨V, hV⟩ : ∃ V, (w.alloc (.deferred (some []))).alloc (.loop (R .ready)) = V := ⟨_, rfl⟩
 have vL : V.heap[w.heap.size + 1]? = some (.loop (R .ready)) := by
  have := World.alloc_heap_new (w.alloc (.deferred (some []))) (.loop (R .ready))
  rw [World.size_alloc, hV] at this
  exact this
 have vD : V.heap[w.heap.size]? = some (.deferred (some [])) := by
  rw [← hV]
  exact (Below.heap_alloc _ _ _ (by simp)).trans (World.alloc_heap_new w _)
 have vS : V.heap.size = w.heap.size + 1 + 1 := by rw [← hV]; simp
 have vB : Below w.heap.size w V := by rw [← hV]; exact ((Below.refl _ w).alloc (Nat.le_refl _) _).alloc (by simp) _
 have vI : I [] V := hIt _ _ _ h0 (ItW.below vB)
 refine ⟨w.heap.size + 1, [{ target := .collected w.heap.size, args := #[] }], V, { target := .fn (.func gf) lb, args := #[.func (.yield (w.heap.size + 1)) #[] #[]] }, V, gf,
  #[.func (.yield (w.heap.size + 1)) #[] #[]] ++ lb, V, ?_, ?_, fun _ _ => trivial, ?_, fun _ => h1, ?_⟩
 ·rw [← hV, hR]; exact run_enterLoop_outer _ _ _ _ _
 ·simp only [resolve, hg]
  simp [go_sem]
 ·simp [invoke, go_sem, eg]
 -- the caller's invariant, with the two blocks that the statement has made
 refine (hseq (w.heap.size + 1) (fun pre W => I pre W ∧ W.heap[w.heap.size + 1]? = some (.loop (R .ready)) ∧ W.heap[w.heap.size]? = some (.deferred (some []))) V vB
  (fun s A B hA hAB => ⟨hIt s A B hA.1 (hAB.mono (by omega)), hAB.rest _ _ hA.2.1 rfl, hAB.rest _ _ hA.2.2 rfl⟩) ?_ ⟨vI, vL, vD⟩).mono ?_
 ·rintro pre x W ⟨wI, wL, wD⟩ hlen
  have hy := run_yield (P := P) (args := encs x) wL (by rw [hR]; exact hps x)
  rw [hR] at hy
  refine ⟨fn, _, assign, body, hy, roundIn_of_wpIn hfn (hassign _ x W _ ?_)⟩
  clear hy
  have hlt := (Array.getElem?_eq_some_iff.1 wL).1
  refine ⟨_, run_beginRound wL (hst _), ?_⟩
  rw [hup]
  have uL : (W.putObj (w.heap.size + 1) (.loop (R .busy))).heap[w.heap.size + 1]? = some (.loop (R .busy)) := World.putObj_heap_same hlt
  have uD : (W.putObj (w.heap.size + 1) (.loop (R .busy))).heap[w.heap.size]? = some (.deferred (some [])) := (World.putObj_heap_other (by omega)).trans wD
  have uK : Kp W (W.putObj (w.heap.size + 1) (.loop (R .busy))) := hKb _ _ _ _ (by omega) wL rfl rfl
  refine wpIn_mono (hbody _ pre x _ (by omega) (hI.putObj _ wI (by omega) wL rfl) hlen) ?_
  rintro e a3 U ⟨rfl, hKf, hKp, hIU⟩
  have tL := hKf.same _ _ (by omega) uL rfl
  have tD := hKf.same _ _ (Nat.le_refl _) uD rfl
  have hr := run_endRound (P := P) none tL
  simp only [Option.isNone_none, if_true] at hr
  have e0 : ({ R .busy with state := .ready, pending := none } : Loop) = R .ready := by rw [hR]
  rw [e0] at hr
  exact ⟨_, _, hr, rfl, ⟨hI.putObj _ hIU (by omega) tL rfl, World.putObj_heap_same (Array.getElem?_eq_some_iff.1 tL).1, (World.putObj_heap_other (by omega)).trans tD⟩, hKt uK (hKt hKp (hKb _ _ _ _ (by omega) tL rfl rfl))⟩
 ·rintro e U ⟨⟨v, rfl⟩, xs, hS, ⟨hIU, tL, tD⟩, hF⟩
  have hr := run_endLoop (P := P) tL (by rw [hst]; simp)
  have e0 : (R .ready).pending = none := by rw [hR]
  rw [e0] at hr
  exact ⟨none, _, hr, hdone _ xs _ (Nat.le_refl _) hS (hI.putObj _ hIU (by omega) tL rfl) (hFin.putObj (s := ()) _ hF (by omega) tL rfl) ((World.putObj_heap_other (by omega)).trans tD)⟩
end Go.Proofs.YtflgngjocgiojaaGreat
namespace Go.Proofs.YtflgngjocgiojaaGreat
open Go.RowKit

section
variable {P : Program} {ops : Array Oper} {n f : Nat} {T : List Nat} {w : World} {Q : Exit → Act → World → Prop}
def waitsF (ops : Array Oper) (n f : Nat) (o : Oper) : Bool := (List.range n).all fun i => i == f || o.after.any fun e => Region.binds .any e && (e.on == i || anc ops ops.size e.on i)
theorem waitsF_listed {listed : Array Bool} {o : Oper} (hcl : ∀ (i : Nat) (o : Oper), ops[i]? = some o → listed.getD i false = true → ∀ e ∈ o.after, Region.binds .any e = true → listed.getD e.on false = true)
  (hall : ∀ e ∈ o.after, Region.binds .any e = true → listed.getD e.on false = true) (h : waitsF ops n f o = true) {i : Nat} (hi : i < n) (hf : i ≠ f) : listed.getD i false = true := by
 have h9 := List.all_eq_true.1 h i (List.mem_range.2 hi)
 have h0 : (i == f) = false := by simpa using hf
 rw [h0, Bool.false_or] at h9
 obtain ⟨e, he, hb⟩ := Array.any_eq_true'.1 h9
 simp only [Bool.and_eq_true, Bool.or_eq_true, beq_iff_eq] at hb
 have h1 := hall e he hb.1
 rcases hb.2 with h2 | h2
 ·rw [← h2]; exact h1
 ·cases hoe : ops[e.on]? with
  | none => simp [anc, aft, hoe, pend_nil] at h2
  | some o' => exact anc_listed hcl ops.size e.on i o' hoe (hcl e.on o' hoe h1) h2
/-- The operations behind the first n: one that does not wait for all of the first n, is carried out in any world that calls may have left, and more calls may follow. -/
def wpSinkF (P : Program) (ops : Array Oper) (n f : Nat) (q : Bool) (T : List Nat) (w : World) (Q : Act → World → Prop) : List Oper → Act → World → Prop
 | [], A, u => Q A u
 | o :: os, A, u => (q = true ∧ waitsF ops n f o = true ∧ lateOp P o A u (fun v u' => wpSinkF P ops n f q T w Q os (A.put o.dst v) u')) ∨
   lateOp P o A u (fun v u' => Keeps T w u' ∧ ∀ u'', Below u'.heap.size u' u'' → wpSinkF P ops n f q T w Q os (A.put o.dst v) u'')

theorem sinkF_main {e : Nat} {q : Bool} (hq : q = true → e = ops.size) (hes : e ≤ ops.size) (F : Fit ops n e) : ∀ (fuel : Nat) (hs : List Nat) (ls : List Oper) (s : Nat) (vs : List Value) (listed : Array Bool) (a : Act) (u : World), fuel = hs.length + ls.length →
  listed.size = ops.size → s + ls.length = e → n ≤ s → (∀ k, k < ls.length → ls[k]? = ops[s + k]?) → hs.Pairwise (· < ·) → (∀ i ∈ hs, (i < n ∨ e ≤ i) ∧ i < ops.size) →
  (∀ k, k < ops.size → (listed.getD k true = false ↔ (k ∈ hs ∨ (s ≤ k ∧ k < e)))) → (∀ (i : Nat) (o : Oper), ops[i]? = some o → listed.getD i false = true → ∀ e ∈ o.after, Region.binds .any e = true → listed.getD e.on false = true) → hs.length = vs.length → (∀ i ∈ hs, i ≠ f) →
  (∀ v, Keeps T w v → YSeq P ops (CL T w v) hs vs a) → (hs = [] ∨ Keeps T w u) →
  ((hs = [] ∧ wpSinkF P ops n f q T w (Q .normal) ls (puts ops hs vs a) u) ∨ ∀ u', Below u.heap.size u u' → wpSinkF P ops n f q T w (Q .normal) ls (puts ops hs vs a) u') →
  wpAny P .any ops Q fuel listed a u := by
 intro fuel
 induction fuel with
 | zero =>
  intro hs ls s vs listed a u hf hsz hsm hn hls _ hlt hun hcl hlen hfr hY hu hL
  have h1 : hs = [] := by cases hs with | nil => rfl | cons => simp at hf; omega
  have h2 : ls = [] := by cases ls with | nil => rfl | cons => simp at hf
  subst h1; subst h2
  have h3 : vs = [] := by cases vs with | nil => rfl | cons => simp at hlen
  subst h3
  have hL' : wpSinkF P ops n f q T w (Q .normal) [] (puts ops [] [] a) u := by
   rcases hL with h | h
   ·exact h.2
   ·exact h u (Below.refl _ _)
  refine ⟨?_, hL'⟩
  rw [List.eq_nil_iff_forall_not_mem]
  intro j hj
  obtain ⟨h4, o, ho, _⟩ := mem_ready.1 hj
  have hjs : j < ops.size := (Array.getElem?_eq_some_iff.1 ho).1
  rcases (hun j hjs).1 h4 with h5 | h5
  ·cases h5
  ·simp at hsm; omega
 | succ fuel ih =>
  intro hs ls s vs listed a u hf hsz hsm hn hls hpw hlt hun hcl hlen hfr hY hu hL
  have hlisted : ∀ k, k < ops.size → k ∉ hs → (k < s ∨ e ≤ k) → listed.getD k false = true := by
   intro k hk h1 h2
   have h3 : ¬ (listed.getD k true = false) := fun h => by rcases (hun k hk).1 h with h | h; exact h1 h; omega
   have hk' : k < listed.size := by omega
   simp [hk'] at h3 ⊢
   exact h3
  refine ⟨fun hr => ?_, fun j hj => ?_⟩
  ·exfalso
   -- the first that is left may come up
   have : ∃ i, i < ops.size ∧ (i ∈ hs ∨ (s ≤ i ∧ i < e)) ∧ (∀ k, k < i → k ∉ hs ∧ (k < s ∨ e ≤ k)) := by
    cases hs with
    | nil => exact ⟨s, by simp at hf; omega, .inr ⟨Nat.le_refl _, by simp at hf; omega⟩, fun k hk => ⟨by simp, .inl hk⟩⟩
    | cons i hs =>
     have h1 := hlt i (List.mem_cons_self)
     have h2 : ∀ k, k < i → k ∉ i :: hs := fun k hk hm => by
      rcases List.mem_cons.1 hm with h | h
      ·omega
      ·have := (List.pairwise_cons.1 hpw).1 k h; omega
     by_cases hsi : s < i ∧ s < e
     ·exact ⟨s, by omega, .inr ⟨Nat.le_refl _, hsi.2⟩, fun k hk => ⟨h2 k (by omega), .inl hk⟩⟩
     ·exact ⟨i, h1.2, .inl (List.mem_cons_self), fun k hk => ⟨h2 k hk, by omega⟩⟩
   obtain ⟨i, hi, hin, hlow⟩ := this
   have hmem : i ∈ Region.ready .any ops listed := mem_ready.2 ⟨(hun i hi).2 hin, ops[i], Array.getElem?_eq_getElem hi, fun e he hb => by
    have h1 := F.back i ops[i] (Array.getElem?_eq_getElem hi) e he hb
    exact hlisted _ (by omega) (hlow _ h1).1 (hlow _ h1).2⟩
   rw [hr] at hmem
   cases hmem
  ·obtain ⟨hj0, o, ho, hall⟩ := mem_ready.1 hj
   have hjs : j < ops.size := (Array.getElem?_eq_some_iff.1 ho).1
   have hnowait : ∀ i, (i ∈ hs ∨ (s ≤ i ∧ i < e)) → i < ops.size → ∀ e ∈ o.after, Region.binds .any e = true → e.on ≠ i := by
    intro i hi his e he hb heq
    have h1 := hall e he hb
    have h2 := (hun i his).2 hi
    have his' : i < listed.size := by omega
    rw [heq] at h1
    simp [his'] at h1 h2
    rw [h1] at h2; cases h2
   have hsel := fun cs b => F.sel j o cs b ho
   have hcl' := closed_set hcl ho hall
   rcases (hun j hjs).1 hj0 with hjh | hjl
   ·-- one of the first n
    have hu' : Keeps T w u := by
     rcases hu with h | h
     ·rw [h] at hjh; cases hjh
     ·exact h
    have hL' : ∀ u', Below u.heap.size u u' → wpSinkF P ops n f q T w (Q .normal) ls (puts ops hs vs a) u' := by
     rcases hL with h | h
     ·rw [h.1] at hjh; cases hjh
     ·exact h
    obtain ⟨pre, post, rfl⟩ := List.append_of_mem hjh
    have hpl : pre.length < vs.length := by rw [← hlen]; simp
    obtain ⟨vpre, vj, vpost, rfl, hvl⟩ : ∃ vpre vj vpost, vs = vpre ++ vj :: vpost ∧ pre.length = vpre.length := by
     refine ⟨vs.take pre.length, vs[pre.length], vs.drop (pre.length + 1), ?_, by simp; omega⟩
     rw [← List.drop_eq_getElem_cons hpl, List.take_append_drop]
    have hpj : ∀ i ∈ pre, Apart ops i j := by
     intro i hi oi oj hoi hoj
     have hij : i < j := by
      rw [List.pairwise_append] at hpw
      exact hpw.2.2 i hi j (List.mem_cons_self)
     have h1 := hlt i (List.mem_append_left _ hi)
     rw [ho] at hoj; cases hoj
     exact F.free i j oi o h1.1 hij hoi ho (hnowait i (.inl (List.mem_append_left _ hi)) h1.2)
    have hY2 := fun v hv => yseq_pull (P := P) (C := CL T w v) F.sel (vj := vj) pre vpre a hvl hpj (hY v hv)
    obtain ⟨⟨oj, hoj, hy⟩, _⟩ := (hY2 u hu').1
    rw [ho] at hoj; cases hoj
    have hcl : CL T w u u := ⟨⟨u, hu', Below.refl _ _⟩, rfl⟩
    have hq : qOp P ops (CL T w u) j (fun a' => a' = a.put o.dst vj) a := hy.qOp ho rfl
    refine wpOp_of_qOp hcl (fun a' u' hu'' ha' => ?_) hq
    obtain ⟨x, rfl⟩ := hu''
    subst ha'
    refine ih (pre ++ post) ls s (vpre ++ vpost) _ _ x.u (by simp at hf ⊢; omega) (by simpa using hsz) hsm hn hls ?_ ?_ ?_ hcl' (by simp at hlen ⊢; omega) (fun i hi => hfr i (by
     rcases List.mem_append.1 hi with h | h
     ·exact List.mem_append_left _ h
     ·exact List.mem_append_right _ (List.mem_cons_of_mem _ h))) ?_ (.inr x.h) (.inr ?_)
    ·exact hpw.sublist (List.Sublist.append (List.Sublist.refl pre) (List.sublist_cons_self j post))
    ·intro i hi
     refine hlt i ?_
     rcases List.mem_append.1 hi with h | h
     ·exact List.mem_append_left _ h
     ·exact List.mem_append_right _ (List.mem_cons_of_mem _ h)
    ·intro k hk
     have hnd : j ∉ pre ++ post := by
      intro h
      rw [List.pairwise_append] at hpw
      rcases List.mem_append.1 h with h | h
      ·have := hpw.2.2 j h j (List.mem_cons_self); omega
      ·have := (List.pairwise_cons.1 hpw.2.1).1 j h; omega
     have hjn := hlt j hjh
     by_cases hkj : j = k
     ·subst hkj
      have : j < listed.size := by omega
      simp only [Array.getD_eq_getD_getElem?, Array.getElem?_setIfInBounds_self_of_lt this, Option.getD_some]
      constructor
      ·intro h; cases h
      ·rintro (h | h)
       ·exact absurd h hnd
       ·omega
     ·rw [getD_set_ne true hkj, hun k hk]
      simp only [List.mem_append, List.mem_cons]
      constructor
      ·rintro ((h | h | h) | h)
       ·exact .inl (.inl h)
       ·omega
       ·exact .inl (.inr h)
       ·exact .inr h
      ·rintro ((h | h) | h)
       ·exact .inl (.inl h)
       ·exact .inl (.inr (.inr h))
       ·exact .inr h
    ·intro v hv
     have := (hY2 v hv).1.2
     rwa [dstOf_some ho] at this
    ·have h1 := (hY2 u hu').2
     simp only [puts] at h1
     rw [dstOf_some ho] at h1
     rw [← h1]
     exact fun u' h => hL' u' (x.g.trans (h.mono x.g.size))
   ·-- the next one of the others
    have hjs' : j = s := by
     rcases Nat.lt_or_ge s j with h | h
     ·exfalso
      obtain ⟨e, he, hb, hon⟩ := F.chain j o (by omega) hjl.2 ho
      exact hnowait (j - 1) (.inr (by omega)) (by omega) e he hb hon
     ·omega
    subst hjs'
    obtain ⟨o', ls', rfl⟩ : ∃ o' ls', ls = o' :: ls' := by
     cases ls with
     | nil => simp at hsm; omega
     | cons o' ls' => exact ⟨o', ls', rfl⟩
    have ho' : o' = o := by have := hls 0 (by simp); simp [ho] at this; exact this
    subst ho'
    have hap : ∀ i ∈ hs, (∃ o, ops[i]? = some o) ∧ Apart ops i j := by
     intro i hi
     have h1 := hlt i hi
     refine ⟨⟨ops[i]'h1.2, Array.getElem?_eq_getElem h1.2⟩, fun oi oj hoi hoj => ?_⟩
     rw [ho] at hoj; cases hoj
     rcases Nat.lt_or_ge i j with hij | hij
     ·exact F.free i j oi o' h1.1 hij hoi ho (hnowait i (.inl hi) h1.2)
     ·exact F.behind i j oi o' (by omega) hn hjl.2 hoi ho
    have hg := F.bare j o' hn hjl.2 ho
    have hun' : ∀ k, k < ops.size → ((listed.setIfInBounds j true).getD k true = false ↔ (k ∈ hs ∨ (j + 1 ≤ k ∧ k < e))) := by
     intro k hk
     by_cases hkj : j = k
     ·subst hkj
      have : j < listed.size := by omega
      simp only [Array.getD_eq_getD_getElem?, Array.getElem?_setIfInBounds_self_of_lt this, Option.getD_some]
      constructor
      ·intro h; cases h
      ·rintro (h | h)
       ·have := hlt j h; omega
       ·omega
     ·rw [getD_set_ne true hkj, hun k hk]
      constructor
      ·rintro (h | h)
       ·exact .inl h
       ·exact .inr (by omega)
      ·rintro (h | h)
       ·exact .inl h
       ·exact .inr (by omega)
    have hls' : ∀ k, k < ls'.length → ls'[k]? = ops[j + 1 + k]? := fun k hk => by have := hls (k + 1) (by simp; omega); rw [show j + 1 + k = j + (k + 1) by omega, ← this]; rfl
    have hYn : ∀ v x, Keeps T w x → YSeq P ops (CL T w x) hs vs (a.put o'.dst v) := fun v x hx => by
     have := yseq_put (P := P) (C := CL T w x) F.sel ho (x := v) hs vs a (fun i hi => (hap i hi).2) (hY x hx)
     rwa [dstOf_some ho] at this
    have hpn : ∀ v, puts ops hs vs (a.put o'.dst v) = (puts ops hs vs a).put o'.dst v := fun v => by
     have := puts_put ho (x := v) hs vs a hap
     rwa [dstOf_some ho] at this
    have hlate : wpSinkF P ops n f q T w (Q .normal) (o' :: ls') (puts ops hs vs a) u := by
     rcases hL with h | h
     ·exact h.2
     ·exact h u (Below.refl _ _)
    have hex := exec_puts hsel ho hs vs a hap
    have hwp : o'.wp P a u (wpAny P .any ops Q fuel (listed.setIfInBounds j true)) Q := by
     rcases hlate with ⟨hqt, hw, hl⟩ | hl
     ·have hnil : hs = [] := by
       cases hs with
       | nil => rfl
       | cons i hs =>
        exfalso
        have h1 := hlt i (List.mem_cons_self)
        have h2 := hq hqt
        have h3 := waitsF_listed hcl hall hw (show i < n by omega) (hfr i List.mem_cons_self)
        have h4 := (hun i h1.2).2 (.inl List.mem_cons_self)
        have h5 : i < listed.size := by omega
        simp [h5] at h3 h4
        rw [h3] at h4; cases h4
      unfold lateOp at hl
      rw [hex] at hl
      refine wp_of_late (K := fun v u' => wpSinkF P ops n f q T w (Q .normal) ls' ((puts ops hs vs a).put o'.dst v) u') hl (fun v u' hl' => ?_)
      exact ih hs ls' (j + 1) vs _ _ u' (by simp at hf ⊢; omega) (by simpa using hsz) (by simp at hsm; omega) (by omega) hls' hpw hlt hun' hcl' hlen hfr (hYn v) (.inl hnil) (.inl ⟨hnil, by rw [hpn]; exact hl'⟩)
     ·unfold lateOp at hl
      rw [hex] at hl
      refine wp_of_late (K := fun v u' => Keeps T w u' ∧ ∀ u'', Below u'.heap.size u' u'' → wpSinkF P ops n f q T w (Q .normal) ls' ((puts ops hs vs a).put o'.dst v) u'') hl (fun v u' hl' => ?_)
      exact ih hs ls' (j + 1) vs _ _ u' (by simp at hf ⊢; omega) (by simpa using hsz) (by simp at hsm; omega) (by omega) hls' hpw hlt hun' hcl' hlen hfr (hYn v) (.inr hl'.1) (.inr (fun u'' hu'' => by rw [hpn]; exact hl'.2 u'' hu''))
    unfold wpOp
    simp only [ho]
    rw [if_pos (by simp [Region.wanted, hg])]
    exact .inl hwp


/-- Operation f moves a slot, waits for nothing, and is no guarded one. -/
def freeMove (l : List Oper) (f : Nat) (s d : Tmp) : Bool := match l[f]? with
 | some o => (match o.op with | .move (.tmp s') => s' == s | _ => false) && o.dst == some d && (o.after.all fun e => !Region.binds .any e) && o.guard.isNone &&
   ((List.range l.length).all fun j => j == f || match l[j]? with | some oj => (oj.after.any fun e => Region.binds .any e && e.on == f) || o.apart l.toArray oj | none => true)
 | none => false
theorem freeMove_spec {l : List Oper} {f : Nat} {s d : Tmp} (h : freeMove l f s d = true) : ∃ o, l[f]? = some o ∧ o.op = .move (.tmp s) ∧ o.dst = some d ∧ (∀ e ∈ o.after, Region.binds .any e = true → False) ∧ o.guard = none ∧
  ∀ j oj, l[j]? = some oj → j ≠ f → (∀ e ∈ oj.after, Region.binds .any e = true → e.on ≠ f) → o.apart l.toArray oj = true := by
 unfold freeMove at h
 split at h
 ·rename_i o ho
  simp only [Bool.and_eq_true] at h
  obtain ⟨⟨⟨⟨h1, h2⟩, h3⟩, h4⟩, h5⟩ := h
  refine ⟨o, ho, ?_, by simpa using h2, fun e he hb => ?_, by simpa using h4, fun j oj hj hjf hn => ?_⟩
  ·split at h1
   ·rename_i s' he
    have : s' = s := by simpa using h1
    rw [he, this]
   ·cases h1
  ·have := Array.all_eq_true'.1 h3 e he
   rw [hb] at this; cases this
  ·have hjl : j < l.length := (List.getElem?_eq_some_iff.1 hj).1
   have h6 := List.all_eq_true.1 h5 j (List.mem_range.2 hjl)
   rw [hj] at h6
   have h0 : (j == f) = false := by simpa using hjf
   simp only [h0, Bool.false_or, Bool.or_eq_true] at h6
   rcases h6 with h6 | h6
   ·obtain ⟨e, he, hb⟩ := Array.any_eq_true'.1 h6
    simp only [Bool.and_eq_true, beq_iff_eq] at hb
    exact absurd hb.2 (hn e he hb.1)
   ·exact h6
 ·cases h
theorem region_sinkF {id : Nat} {a : Act} {l : List Oper} (n f : Nat) (s d : Tmp) (x : Value) (T : List Nat) (hx : a.eval (.tmp s) = x) (hm : P.follows .mixedOrders = true) (hfn : f < n) (hB : lateFit l n (l.length - n) = true) (hF : freeMove l f s d = true)
  (hp : placesFit (l.take f ++ (l.take n).drop (f + 1)) a.tmps.size = true)
  (hQ : ∀ c a' w, Q (.panic c) (a'.put (some d) x) w → Q (.panic c) a' w)
  (h : ∃ A, (∀ v, Keeps T w v → Nonempty (Later T w v) → wpQuiet P l.toArray (fun w' => ∃ x : Later T w v, w' = x.u) (fun a' => a' = A) (l.take f ++ (l.take n).drop (f + 1)) (a.put (some d) x)) ∧
   (∀ u, Below w.heap.size w u → wpSinkF P l.toArray n f true T w (Q .normal) (l.drop n) A u)) : (Code.region id l.toArray true).wp P Q a w := by
 subst hx
 obtain ⟨A, hq, hl⟩ := h
 have F := fit_of hB
 have hnl : n ≤ l.length := by simp only [lateFit, Bool.and_eq_true, decide_eq_true_eq] at hB; omega
 rw [show n + (l.length - n) = l.length by omega] at F
 obtain ⟨o, ho, hop, hod, hof, hog, hoa⟩ := freeMove_spec hF
 refine wp_region_any hm ?_
 obtain ⟨k, hk⟩ : ∃ k, l.toArray.size = k + 1 := ⟨l.length - 1, by simp; omega⟩
 have hk' : l.length = k + 1 := by simpa using hk
 rw [hk]
 refine wpAny_first (i := f) (oi := o) (v := a.eval (.tmp s)) (by simpa using ho) F.sel (by rw [hod]; exact hQ) _ _ _ _ (fun j oj hj hjf _ hn => hoa j oj (by simpa using hj) hjf hn) ?_ (.inl ⟨by simp [Region.wanted, hog], fun w => ?_⟩) ?_
 ·refine mem_ready.2 ⟨by rw [Array.getD_eq_getD_getElem?, Array.getElem?_replicate, if_pos (by omega)]; rfl, o, by simpa using ho, fun e he hb => absurd (hof e he hb) (fun h => h)⟩
 ·unfold execOp
  rw [hop]
  simp [go_sem]
 rw [hod]
 simp only [placesFit, Bool.and_eq_true, decide_eq_true_eq] at hp
 have hlenq : (l.take f ++ (l.take n).drop (f + 1)).length = (List.range' 0 f ++ List.range' (f + 1) (n - (f + 1))).length := by simp; omega
 have hidx : ∀ (j i : Nat), (List.range' 0 f ++ List.range' (f + 1) (n - (f + 1)))[j]? = some i → (l.take f ++ (l.take n).drop (f + 1))[j]? = l.toArray[i]? := by
  intro j i hj
  rw [List.getElem?_append] at hj ⊢
  simp only [List.length_range', List.length_take] at hj ⊢
  rw [show min f l.length = f by omega]
  split at hj
  ·rename_i hjn
   rw [if_pos hjn]
   rw [List.getElem?_range' hjn] at hj
   simp only [Option.some.injEq] at hj
   subst hj
   rw [List.getElem?_take_of_lt hjn]; simp
  ·rename_i hjn
   rw [if_neg hjn]
   rw [List.getElem?_eq_some_iff] at hj
   obtain ⟨hj3, hj4⟩ := hj
   simp only [List.getElem_range'] at hj4
   simp only [List.length_range'] at hj3
   rw [List.getElem?_drop, List.getElem?_take_of_lt (by omega)]
   simp
   congr 1
   omega
 have hsz : (a.put (some d) (a.eval (.tmp s))).tmps.size = a.tmps.size := put_size a (some d) _
 have hY := fun v hv => yseq_of_quiet (P := P) (ops := l.toArray) (C := CL T w v) (A := A) (l.take f ++ (l.take n).drop (f + 1)) _ (a.put (some d) (a.eval (.tmp s))) hlenq hidx (fun o ho => by
   have := List.all_eq_true.1 hp.1 o ho
   cases hd : o.dst with
   | none => rw [hd] at this; cases this
   | some d => rw [hd] at this; exact ⟨d, rfl, by rw [hsz]; simpa using this⟩) hp.2 (hq v hv ⟨⟨v, hv, Below.refl _ _⟩⟩)
 have hw0 : Below w.heap.size w w.drew := (Below.refl _ _).drew
 have hmem : ∀ k, k ∈ List.range' 0 f ++ List.range' (f + 1) (n - (f + 1)) ↔ (k < n ∧ k ≠ f) := fun k => by
  rw [List.mem_append, List.mem_range'_1, List.mem_range'_1]; omega
 have hgetL : ∀ i b, i < l.length → ((Array.replicate l.toArray.size false).setIfInBounds f true).getD i b = decide (i = f) := fun i b hi => by
  rw [Array.getD_eq_getD_getElem?, Array.getElem?_setIfInBounds]
  by_cases e : f = i
  ·subst e; rw [if_pos rfl, if_pos (by simp; omega)]; simp
  ·rw [if_neg e, Array.getElem?_replicate, if_pos (by simpa using hi)]
   simp; exact fun h => e h.symm
 rw [show Array.replicate (k + 1) false = Array.replicate l.toArray.size false by rw [hk]]
 have := sinkF_main (P := P) (T := T) (w := w) (Q := Q) (q := true) (e := l.length) (f := f) (fun _ => by simp) (by simp) F k (List.range' 0 f ++ List.range' (f + 1) (n - (f + 1))) (l.drop n) n _ ((Array.replicate l.toArray.size false).setIfInBounds f true) (a.put (some d) (a.eval (.tmp s))) w.drew
  (by simp; omega) (by simp) (by simp; omega) (Nat.le_refl _) (fun k hk => by rw [List.getElem?_drop]; simp)
  (by
   rw [List.pairwise_append]
   refine ⟨List.pairwise_lt_range', List.pairwise_lt_range', fun x hx y hy => ?_⟩
   have := List.mem_range'_1.1 hx
   have := List.mem_range'_1.1 hy
   omega) (fun i hi => by have := (hmem i).1 hi; simp; omega)
  (fun i hi => by
   have hi' : i < l.length := by simpa using hi
   rw [hmem, hgetL i true hi', decide_eq_false_iff_not]
   omega) (fun i o' ho' hi => by
   have hi' : i < l.length := by have := (Array.getElem?_eq_some_iff.1 ho').1; simpa using this
   rw [hgetL i false hi'] at hi
   obtain rfl : i = f := of_decide_eq_true hi
   have : o' = o := by simp at ho'; rw [ho] at ho'; cases ho'; rfl
   subst this
   exact fun e he hb => absurd (hof e he hb) (fun h => h)) (by rw [List.length_map]; exact hlenq.symm) (fun i hi => ((hmem i).1 hi).2) (fun v hv => (hY v hv).1) (.inr (Keeps.of_below hw0)) (.inr fun u' hu' => ?_)
 ·exact this
 ·rw [(hY w (Keeps.refl _ _)).2]
  exact hl u' (hw0.trans hu')
end
theorem sinkF_nil {P : Program} {ops : Array Oper} {n f : Nat} {q : Bool} {T : List Nat} {w : World} {Q : Act → World → Prop} {A : Act} {u : World} (h : Q A u) : wpSinkF P ops n f q T w Q [] A u := h
theorem sinkF_all {P : Program} {ops : Array Oper} {n f : Nat} {T : List Nat} {w : World} {Q : Act → World → Prop} {o : Oper} {os : List Oper} {A : Act} {u : World} (hw : waitsF ops n f o = true)
  (h : ∀ K : Value → World → Prop, (∀ v u', wpSinkF P ops n f true T w Q os (A.put o.dst v) u' → K v u') → lateOp P o A u K) : wpSinkF P ops n f true T w Q (o :: os) A u :=
 .inl ⟨rfl, hw, h _ fun _ _ h1 => h1⟩
end Go.Proofs.YtflgngjocgiojaaGreat
