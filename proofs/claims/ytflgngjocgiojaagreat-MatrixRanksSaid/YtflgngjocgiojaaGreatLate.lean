/- A region that draws its order: if its operations, but m of them from number n on, only read, reckon or call functions that only make memory, and the m others follow each other in a chain, then one walk serves every order: first all but the m, then these, each in any world that such calls may have left. No condition. -/
import Derived.BigQuiet
import Derived.Below
import Derived.Lib.Hide
import Derived.Test.YtflgngjocgiojaaGreatPlaneA
namespace Go.Proofs.YtflgngjocgiojaaGreat
open Go.RowKit

/-- All blocks of 'w', but those of T, are in 'u' as they were. -/
def Keeps (T : List Nat) (w u : World) : Prop := w.heap.size ≤ u.heap.size ∧ ∀ b, b < w.heap.size → b ∉ T → u.heap[b]? = w.heap[b]?
theorem Keeps.refl (T : List Nat) (w : World) : Keeps T w w := ⟨Nat.le_refl _, fun _ _ _ => rfl⟩
theorem Keeps.of_below {T : List Nat} {w u : World} (h : Below w.heap.size w u) : Keeps T w u := ⟨h.size, fun b hb _ => h.block b hb⟩
theorem Keeps.later {T : List Nat} {w u v : World} (h : Keeps T w u) (k : Below u.heap.size u v) : Keeps T w v :=
 ⟨Nat.le_trans h.1 k.size, fun b hb ht => (k.block b (Nat.lt_of_lt_of_le hb h.1)).trans (h.2 b hb ht)⟩
theorem Keeps.alloc {T : List Nat} {w u : World} (h : Keeps T w u) (o : Obj) : Keeps T w (u.alloc o) :=
 h.later ((Below.refl _ _).alloc (Nat.le_refl _) o)
theorem Keeps.set {T : List Nat} {w u : World} (h : Keeps T w u) {p : Addr} (hp : p.block ∈ T) (x : Value) : Keeps T w (u.setCell p x) :=
 ⟨by simpa [World.setCell] using h.1, fun b hb ht => (Below.heap_setCell u p x b (fun e => ht (e ▸ hp))).trans (h.2 b hb ht)⟩

theorem Keeps.new {T : List Nat} {w u : World} (h : Keeps T w u) {p : Addr} (hp : w.heap.size ≤ p.block) (x : Value) : Keeps T w (u.setCell p x) :=
 ⟨by simpa [World.setCell] using h.1, fun b hb ht => (Below.heap_setCell u p x b (by omega)).trans (h.2 b hb ht)⟩

/-- A world in which all that was there in 'w', but T, and all that was there in 'v', is as it was. -/
structure Later (T : List Nat) (w v : World) where
 u : World
 h : Keeps T w u
 g : Below v.heap.size v u

@[reducible] def CL (T : List Nat) (w v : World) : World → Prop := fun w' => ∃ x : Later T w v, w' = x.u

theorem Later.cell {T : List Nat} {w v : World} (x : Later T w v) (b i : Nat) (hb : b < w.heap.size) (ht : b ∉ T) : x.u.cell? ⟨b, i, none⟩ = w.cell? ⟨b, i, none⟩ :=
 World.cell?_of_block (w := w) (a := ⟨b, i, none⟩) (x.h.2 b hb ht)
theorem Later.frozen {T : List Nat} {w v : World} (x : Later T w v) (b i : Nat) (hb : b < w.heap.size) (ht : b ∉ T) : x.u.frozen? ⟨b, i, none⟩ = w.frozen? ⟨b, i, none⟩ :=
 World.frozen?_of_block (w := w) (a := ⟨b, i, none⟩) (x.h.2 b hb ht)

theorem Later.row {T : List Nat} {w v : World} {b : Nat} {cs : Array Value} (h : ∀ i, w.cell? ⟨b, i, none⟩ = cs[i]?) (hb : b < w.heap.size) (ht : b ∉ T) :
  ∀ (x : Later T w v) i, x.u.cell? ⟨b, i, none⟩ = cs[i]? := fun x i => (x.cell b i hb ht).trans (h i)

theorem Own.later {w v : World} {b : Nat} {cs : Array Value} (h : Own w b cs) {T : List Nat} (ht : b ∉ T) (x : Later T w v) : Own x.u b cs :=
 h.of_block (x.h.2 b h.lt ht)
theorem Own.keeps {w u : World} {b : Nat} {cs : Array Value} (h : Own w b cs) {T : List Nat} (k : Keeps T w u) (ht : b ∉ T) : Own u b cs :=
 h.of_block (k.2 b h.lt ht)

/-- A callee's contract, met inside such a region. -/
theorem lateB {P : Program} {f : FuncId} {args : Array Value} {T : List Nat} {w v : World} {x : Later T w v} {r : Value}
  (h : Calls P f args x.u fun e w' => e = .returned r ∧ Below x.u.heap.size x.u w') :
  Calls P f args x.u fun e w' => e = .returned r ∧ ∃ y : Later T w v, w' = y.u :=
 h.mono fun _ w' ⟨he, hw⟩ => ⟨he, ⟨w', x.h.later hw, x.g.trans (hw.mono x.g.size)⟩, rfl⟩
theorem lateS {P : Program} {f : FuncId} {args : Array Value} {T : List Nat} {w v : World} {x : Later T w v} {r : Value}
  (h : Calls P f args x.u fun e w' => e = .returned r ∧ x.u = w') :
  Calls P f args x.u fun e w' => e = .returned r ∧ ∃ y : Later T w v, w' = y.u :=
 h.mono fun _ _ ⟨he, hw⟩ => ⟨he, x, hw.symm⟩

def lateUpon (P : Program) (K : Value → World → Prop) : Result Next → Prop
 | .ok (.value v) w' => K v w'
 | .ok .skip w' => K undef w'
 | .ok (.enter f args) w' => Calls P f args w' (fun e w'' => ∃ v, e = .returned v ∧ K v w'')
 | _ => False
def lateOp (P : Program) (o : Oper) (a : Act) (w : World) (K : Value → World → Prop) : Prop := lateUpon P K ((execOp a.eval o).run P w)

attribute [go_sem] lateOp lateUpon

section
variable {P : Program} {ops : Array Oper} {n : Nat} {T : List Nat} {w : World} {Q : Exit → Act → World → Prop}

def dstOf (ops : Array Oper) (i : Nat) : Option Tmp := (ops[i]?).bind (·.dst)

theorem dstOf_some {i : Nat} {o : Oper} (h : ops[i]? = some o) : dstOf ops i = o.dst := by simp [dstOf, h]

/-- The operations numbered so, in this order, leave these values, in every world of the class. -/
def YSeq (P : Program) (ops : Array Oper) (C : World → Prop) : List Nat → List Value → Act → Prop
 | [], [], _ => True
 | i :: hs, v :: vs, a => (∃ o, ops[i]? = some o ∧ YieldsIn P ops C o v a) ∧ YSeq P ops C hs vs (a.put (dstOf ops i) v)
 | _, _, _ => False
def puts (ops : Array Oper) : List Nat → List Value → Act → Act
 | i :: hs, v :: vs, a => puts ops hs vs (a.put (dstOf ops i) v)
 | _, _, a => a

def Apart (ops : Array Oper) (i j : Nat) : Prop := ∀ oi oj, ops[i]? = some oi → ops[j]? = some oj → oi.apart ops oj = true

theorem yields_put {oi oj : Oper} {C : World → Prop} {v u : Value} {a : Act} (hap : oi.apart ops oj = true) (hs : ∀ cs b, oj.op ≠ .select cs b) :
  YieldsIn P ops C oj v (a.put oi.dst u) ↔ YieldsIn P ops C oj v a := by
 obtain ⟨h1, _, _⟩ := Oper.apart_spec hap
 have e1 := execOp_put (ops := ops) oj hs a oi.dst u h1
 have e2 := wanted_put (ops := ops) oj a oi.dst u h1
 exact ⟨fun h => h.of_same e1.symm e2.symm, fun h => h.of_same e1 e2⟩
theorem yields_put' {oi oj : Oper} {C : World → Prop} {v u : Value} {a : Act} (hap : oi.apart ops oj = true) (hs : ∀ cs b, oi.op ≠ .select cs b) :
  YieldsIn P ops C oi v (a.put oj.dst u) ↔ YieldsIn P ops C oi v a := by
 obtain ⟨_, _, h1⟩ := Oper.apart_spec hap
 have e1 := execOp_put (ops := ops) oi hs a oj.dst u h1
 have e2 := wanted_put (ops := ops) oi a oj.dst u h1
 exact ⟨fun h => h.of_same e1.symm e2.symm, fun h => h.of_same e1 e2⟩

theorem put_swap {i j : Nat} {oi oj : Oper} (hi : ops[i]? = some oi) (hj : ops[j]? = some oj) (hap : oi.apart ops oj = true) (a : Act) (v u : Value) :
  (a.put (dstOf ops i) v).put (dstOf ops j) u = (a.put (dstOf ops j) u).put (dstOf ops i) v := by
 rw [dstOf_some hi, dstOf_some hj]
 exact Act.put_comm a v u (Oper.apart_spec hap).2.1

/-- An operation that all those before it are apart from may be taken first. -/
theorem yseq_pull {C : World → Prop} (hsel : ∀ (j : Nat) (o : Oper) cs b, ops[j]? = some o → o.op ≠ .select cs b) {j : Nat} {post : List Nat} {vj : Value} {vpost : List Value} :
  ∀ (pre : List Nat) (vpre : List Value) (a : Act), pre.length = vpre.length → (∀ i ∈ pre, Apart ops i j) →
   YSeq P ops C (pre ++ j :: post) (vpre ++ vj :: vpost) a →
   YSeq P ops C (j :: (pre ++ post)) (vj :: (vpre ++ vpost)) a ∧ puts ops (pre ++ j :: post) (vpre ++ vj :: vpost) a = puts ops (j :: (pre ++ post)) (vj :: (vpre ++ vpost)) a
 | [], [], a, _, _, h => ⟨h, rfl⟩
 | i :: pre, v :: vpre, a, hl, hap, h => by
  obtain ⟨⟨oi, hoi, hyi⟩, h2⟩ := h
  obtain ⟨h3, h4⟩ := yseq_pull hsel pre vpre _ (by simpa using hl) (fun k hk => hap k (List.mem_cons_of_mem _ hk)) h2
  obtain ⟨⟨oj, hoj, hyj⟩, h5⟩ := h3
  have ha := hap i (List.mem_cons_self) oi oj hoi hoj
  have hsw := put_swap hoi hoj ha a v vj
  refine ⟨⟨⟨oj, hoj, ?_⟩, ⟨oi, hoi, ?_⟩, ?_⟩, ?_⟩
  ·rw [dstOf_some hoi] at hyj
   exact (yields_put ha (fun cs b => hsel j oj cs b hoj)).1 hyj
  ·rw [dstOf_some hoj]
   exact (yields_put' ha (fun cs b => hsel i oi cs b hoi)).2 hyi
  ·rw [← hsw]; exact h5
  ·simp only [List.cons_append, puts] at h4 ⊢
   rw [h4, hsw]

theorem yseq_put {C : World → Prop} (hsel : ∀ (j : Nat) (o : Oper) cs b, ops[j]? = some o → o.op ≠ .select cs b) {t : Nat} {ot : Oper} (ht : ops[t]? = some ot) {x : Value} :
  ∀ (hs : List Nat) (vs : List Value) (a : Act), (∀ i ∈ hs, Apart ops i t) → YSeq P ops C hs vs a →
   YSeq P ops C hs vs (a.put (dstOf ops t) x)
 | [], [], _, _, _ => trivial
 | i :: hs, v :: vs, a, hap, h => by
  obtain ⟨⟨oi, hoi, hyi⟩, h2⟩ := h
  have ha := hap i (List.mem_cons_self) oi ot hoi ht
  refine ⟨⟨oi, hoi, ?_⟩, ?_⟩
  ·rw [dstOf_some ht]
   exact (yields_put' ha (fun cs b => hsel i oi cs b hoi)).2 hyi
  ·rw [← put_swap hoi ht ha]
   exact yseq_put hsel ht hs vs _ (fun k hk => hap k (List.mem_cons_of_mem _ hk)) h2

theorem puts_put {t : Nat} {ot : Oper} (ht : ops[t]? = some ot) {x : Value} :
  ∀ (hs : List Nat) (vs : List Value) (a : Act), (∀ i ∈ hs, (∃ o, ops[i]? = some o) ∧ Apart ops i t) →
   puts ops hs vs (a.put (dstOf ops t) x) = (puts ops hs vs a).put (dstOf ops t) x
 | [], _, _, _ => by simp [puts]
 | _ :: _, [], _, _ => by simp [puts]
 | i :: hs, v :: vs, a, hap => by
  obtain ⟨⟨oi, hoi⟩, h1⟩ := hap i (List.mem_cons_self)
  simp only [puts]
  rw [← put_swap hoi ht (h1 oi ot hoi ht)]
  exact puts_put ht hs vs _ (fun k hk => hap k (List.mem_cons_of_mem _ hk))

theorem exec_puts {o : Oper} (hs0 : ∀ cs b, o.op ≠ .select cs b) {t : Nat} (ht : ops[t]? = some o) :
  ∀ (hs : List Nat) (vs : List Value) (a : Act), (∀ i ∈ hs, (∃ o, ops[i]? = some o) ∧ Apart ops i t) → execOp (puts ops hs vs a).eval o = execOp a.eval o
 | [], _, _, _ => by simp [puts]
 | _ :: _, [], _, _ => by simp [puts]
 | i :: hs, v :: vs, a, hap => by
  obtain ⟨⟨oi, hoi⟩, h1⟩ := hap i (List.mem_cons_self)
  simp only [puts]
  rw [exec_puts hs0 ht hs vs _ (fun k hk => hap k (List.mem_cons_of_mem _ hk)), dstOf_some hoi]
  exact execOp_put (ops := ops) o hs0 a oi.dst v (Oper.apart_spec (h1 oi o hoi ht)).1

/-- It waits for each of the first n operations. -/
def waitsAll (n : Nat) (o : Oper) : Bool := (List.range n).all fun i => o.after.any fun e => Region.binds .any e && e.on == i
theorem waitsAll_spec {o : Oper} (h : waitsAll n o = true) {i : Nat} (hi : i < n) : ∃ e ∈ o.after, Region.binds .any e = true ∧ e.on = i := by
 have h1 := List.all_eq_true.1 h i (List.mem_range.2 hi)
 obtain ⟨e, he, hb⟩ := Array.any_eq_true'.1 h1
 simp only [Bool.and_eq_true, beq_iff_eq] at hb
 exact ⟨e, he, hb.1, hb.2⟩

/-- The operations behind the first n: one that does not wait for all of the first n, is carried out in any world that calls may have left, and more calls may follow. -/
def wpLate (P : Program) (n : Nat) (q : Bool) (T : List Nat) (w : World) (Q : Act → World → Prop) : List Oper → Act → World → Prop
 | [], A, u => Q A u
 | o :: os, A, u => (q = true ∧ waitsAll n o = true ∧ lateOp P o A u (fun v u' => wpLate P n q T w Q os (A.put o.dst v) u')) ∨
   lateOp P o A u (fun v u' => Keeps T w u' ∧ ∀ u'', Below u'.heap.size u' u'' → wpLate P n q T w Q os (A.put o.dst v) u'')

theorem wp_of_late {o : Oper} {a : Act} {u : World} {K : Value → World → Prop} {K' : Act → World → Prop} (h : lateOp P o a u K) (hk : ∀ v u', K v u' → K' (a.put o.dst v) u') : o.wp P a u K' Q := by
 unfold lateOp at h
 unfold Oper.wp
 generalize (execOp a.eval o).run P u = r at *
 cases r with
 | ok x u' =>
  cases x <;> simp only [lateUpon] at h <;> simp only [Oper.upon]
  case value v => exact hk _ _ h
  case skip => exact hk _ _ h
  case enter f args => exact h.mono fun e u'' ⟨v, he, hv⟩ => by subst he; exact hk _ _ hv
 | halt x u' => simp only [lateUpon] at h

/-- What the Bool below says. -/
structure Fit (ops : Array Oper) (n e : Nat) : Prop where
 sel : ∀ (j : Nat) (o : Oper) cs b, ops[j]? = some o → o.op ≠ .select cs b
 back : ∀ (j : Nat) (o : Oper), ops[j]? = some o → ∀ e ∈ o.after, Region.binds .any e = true → e.on < j
 free : ∀ (i j : Nat) (oi oj : Oper), (i < n ∨ e ≤ i) → i < j → ops[i]? = some oi → ops[j]? = some oj → (∀ e ∈ oj.after, Region.binds .any e = true → e.on ≠ i) → oi.apart ops oj = true
 behind : ∀ (i j : Nat) (oi oj : Oper), e ≤ i → n ≤ j → j < e → ops[i]? = some oi → ops[j]? = some oj → oi.apart ops oj = true
 chain : ∀ (j : Nat) (o : Oper), n < j → j < e → ops[j]? = some o → ∃ e ∈ o.after, Region.binds .any e = true ∧ e.on = j - 1
 bare : ∀ (j : Nat) (o : Oper), n ≤ j → j < e → ops[j]? = some o → o.guard = none

theorem late_main {e : Nat} {q : Bool} (hq : q = true → e = ops.size) (hes : e ≤ ops.size) (F : Fit ops n e) : ∀ (fuel : Nat) (hs : List Nat) (ls : List Oper) (s : Nat) (vs : List Value) (listed : Array Bool) (a : Act) (u : World), fuel = hs.length + ls.length →
  listed.size = ops.size → s + ls.length = e → n ≤ s → (∀ k, k < ls.length → ls[k]? = ops[s + k]?) → hs.Pairwise (· < ·) → (∀ i ∈ hs, (i < n ∨ e ≤ i) ∧ i < ops.size) →
  (∀ k, k < ops.size → (listed.getD k true = false ↔ (k ∈ hs ∨ (s ≤ k ∧ k < e)))) → hs.length = vs.length →
  (∀ v, Keeps T w v → YSeq P ops (CL T w v) hs vs a) → (hs = [] ∨ Keeps T w u) →
  ((hs = [] ∧ wpLate P n q T w (Q .normal) ls (puts ops hs vs a) u) ∨ ∀ u', Below u.heap.size u u' → wpLate P n q T w (Q .normal) ls (puts ops hs vs a) u') →
  wpAny P .any ops Q fuel listed a u := by
 intro fuel
 induction fuel with
 | zero =>
  intro hs ls s vs listed a u hf hsz hsm hn hls _ hlt hun hlen hY hu hL
  have h1 : hs = [] := by cases hs with | nil => rfl | cons => simp at hf; omega
  have h2 : ls = [] := by cases ls with | nil => rfl | cons => simp at hf
  subst h1; subst h2
  have h3 : vs = [] := by cases vs with | nil => rfl | cons => simp at hlen
  subst h3
  have hL' : wpLate P n q T w (Q .normal) [] (puts ops [] [] a) u := by
   rcases hL with h | h
   ·exact h.2
   ·exact h u (Below.refl _ _)
  refine ⟨?_, hL'⟩
  rw [List.eq_nil_iff_forall_not_mem]
  intro j hj
  obtain ⟨h4, o, ho, _⟩ := mem_ready.1 hj
  have hjs : j < ops.size := (Array.getElem?_eq_some_iff.1 ho).1
  rcases (hun j hjs).1 h4 with h5 | h5
  ·cases h5
  ·simp at hsm; omega
 | succ fuel ih =>
  intro hs ls s vs listed a u hf hsz hsm hn hls hpw hlt hun hlen hY hu hL
  have hlisted : ∀ k, k < ops.size → k ∉ hs → (k < s ∨ e ≤ k) → listed.getD k false = true := by
   intro k hk h1 h2
   have h3 : ¬ (listed.getD k true = false) := fun h => by rcases (hun k hk).1 h with h | h; exact h1 h; omega
   have hk' : k < listed.size := by omega
   simp [hk'] at h3 ⊢
   exact h3
  refine ⟨fun hr => ?_, fun j hj => ?_⟩
  ·exfalso
   -- the first that is left may come up
   have : ∃ i, i < ops.size ∧ (i ∈ hs ∨ (s ≤ i ∧ i < e)) ∧ (∀ k, k < i → k ∉ hs ∧ (k < s ∨ e ≤ k)) := by
    cases hs with
    | nil => exact ⟨s, by simp at hf; omega, .inr ⟨Nat.le_refl _, by simp at hf; omega⟩, fun k hk => ⟨by simp, .inl hk⟩⟩
    | cons i hs =>
     have h1 := hlt i (List.mem_cons_self)
     have h2 : ∀ k, k < i → k ∉ i :: hs := fun k hk hm => by
      rcases List.mem_cons.1 hm with h | h
      ·omega
      ·have := (List.pairwise_cons.1 hpw).1 k h; omega
     by_cases hsi : s < i ∧ s < e
     ·exact ⟨s, by omega, .inr ⟨Nat.le_refl _, hsi.2⟩, fun k hk => ⟨h2 k (by omega), .inl hk⟩⟩
     ·exact ⟨i, h1.2, .inl (List.mem_cons_self), fun k hk => ⟨h2 k hk, by omega⟩⟩
   obtain ⟨i, hi, hin, hlow⟩ := this
   have hmem : i ∈ Region.ready .any ops listed := mem_ready.2 ⟨(hun i hi).2 hin, ops[i], Array.getElem?_eq_getElem hi, fun e he hb => by
    have h1 := F.back i ops[i] (Array.getElem?_eq_getElem hi) e he hb
    exact hlisted _ (by omega) (hlow _ h1).1 (hlow _ h1).2⟩
   rw [hr] at hmem
   cases hmem
  ·obtain ⟨hj0, o, ho, hall⟩ := mem_ready.1 hj
   have hjs : j < ops.size := (Array.getElem?_eq_some_iff.1 ho).1
   have hnowait : ∀ i, (i ∈ hs ∨ (s ≤ i ∧ i < e)) → i < ops.size → ∀ e ∈ o.after, Region.binds .any e = true → e.on ≠ i := by
    intro i hi his e he hb heq
    have h1 := hall e he hb
    have h2 := (hun i his).2 hi
    have his' : i < listed.size := by omega
    rw [heq] at h1
    simp [his'] at h1 h2
    rw [h1] at h2; cases h2
   have hsel := fun cs b => F.sel j o cs b ho
   rcases (hun j hjs).1 hj0 with hjh | hjl
   ·-- one of the first n
    have hu' : Keeps T w u := by
     rcases hu with h | h
     ·rw [h] at hjh; cases hjh
     ·exact h
    have hL' : ∀ u', Below u.heap.size u u' → wpLate P n q T w (Q .normal) ls (puts ops hs vs a) u' := by
     rcases hL with h | h
     ·rw [h.1] at hjh; cases hjh
     ·exact h
    obtain ⟨pre, post, rfl⟩ := List.append_of_mem hjh
    have hpl : pre.length < vs.length := by rw [← hlen]; simp
    obtain ⟨vpre, vj, vpost, rfl, hvl⟩ : ∃ vpre vj vpost, vs = vpre ++ vj :: vpost ∧ pre.length = vpre.length := by
     refine ⟨vs.take pre.length, vs[pre.length], vs.drop (pre.length + 1), ?_, by simp; omega⟩
     rw [← List.drop_eq_getElem_cons hpl, List.take_append_drop]
    have hpj : ∀ i ∈ pre, Apart ops i j := by
     intro i hi oi oj hoi hoj
     have hij : i < j := by
      rw [List.pairwise_append] at hpw
      exact hpw.2.2 i hi j (List.mem_cons_self)
     have h1 := hlt i (List.mem_append_left _ hi)
     rw [ho] at hoj; cases hoj
     exact F.free i j oi o h1.1 hij hoi ho (hnowait i (.inl (List.mem_append_left _ hi)) h1.2)
    have hY2 := fun v hv => yseq_pull (P := P) (C := CL T w v) F.sel (vj := vj) pre vpre a hvl hpj (hY v hv)
    obtain ⟨⟨oj, hoj, hy⟩, _⟩ := (hY2 u hu').1
    rw [ho] at hoj; cases hoj
    have hcl : CL T w u u := ⟨⟨u, hu', Below.refl _ _⟩, rfl⟩
    have hq : qOp P ops (CL T w u) j (fun a' => a' = a.put o.dst vj) a := hy.qOp ho rfl
    refine wpOp_of_qOp hcl (fun a' u' hu'' ha' => ?_) hq
    obtain ⟨x, rfl⟩ := hu''
    subst ha'
    refine ih (pre ++ post) ls s (vpre ++ vpost) _ _ x.u (by simp at hf ⊢; omega) (by simpa using hsz) hsm hn hls ?_ ?_ ?_ (by simp at hlen ⊢; omega) ?_ (.inr x.h) (.inr ?_)
    ·exact hpw.sublist (List.Sublist.append (List.Sublist.refl pre) (List.sublist_cons_self j post))
    ·intro i hi
     refine hlt i ?_
     rcases List.mem_append.1 hi with h | h
     ·exact List.mem_append_left _ h
     ·exact List.mem_append_right _ (List.mem_cons_of_mem _ h)
    ·intro k hk
     have hnd : j ∉ pre ++ post := by
      intro h
      rw [List.pairwise_append] at hpw
      rcases List.mem_append.1 h with h | h
      ·have := hpw.2.2 j h j (List.mem_cons_self); omega
      ·have := (List.pairwise_cons.1 hpw.2.1).1 j h; omega
     have hjn := hlt j hjh
     by_cases hkj : j = k
     ·subst hkj
      have : j < listed.size := by omega
      simp only [Array.getD_eq_getD_getElem?, Array.getElem?_setIfInBounds_self_of_lt this, Option.getD_some]
      constructor
      ·intro h; cases h
      ·rintro (h | h)
       ·exact absurd h hnd
       ·omega
     ·rw [getD_set_ne true hkj, hun k hk]
      simp only [List.mem_append, List.mem_cons]
      constructor
      ·rintro ((h | h | h) | h)
       ·exact .inl (.inl h)
       ·omega
       ·exact .inl (.inr h)
       ·exact .inr h
      ·rintro ((h | h) | h)
       ·exact .inl (.inl h)
       ·exact .inl (.inr (.inr h))
       ·exact .inr h
    ·intro v hv
     have := (hY2 v hv).1.2
     rwa [dstOf_some ho] at this
    ·have h1 := (hY2 u hu').2
     simp only [puts] at h1
     rw [dstOf_some ho] at h1
     rw [← h1]
     exact fun u' h => hL' u' (x.g.trans (h.mono x.g.size))
   ·-- the next one of the others
    have hjs' : j = s := by
     rcases Nat.lt_or_ge s j with h | h
     ·exfalso
      obtain ⟨e, he, hb, hon⟩ := F.chain j o (by omega) hjl.2 ho
      exact hnowait (j - 1) (.inr (by omega)) (by omega) e he hb hon
     ·omega
    subst hjs'
    obtain ⟨o', ls', rfl⟩ : ∃ o' ls', ls = o' :: ls' := by
     cases ls with
     | nil => simp at hsm; omega
     | cons o' ls' => exact ⟨o', ls', rfl⟩
    have ho' : o' = o := by have := hls 0 (by simp); simp [ho] at this; exact this
    subst ho'
    have hap : ∀ i ∈ hs, (∃ o, ops[i]? = some o) ∧ Apart ops i j := by
     intro i hi
     have h1 := hlt i hi
     refine ⟨⟨ops[i]'h1.2, Array.getElem?_eq_getElem h1.2⟩, fun oi oj hoi hoj => ?_⟩
     rw [ho] at hoj; cases hoj
     rcases Nat.lt_or_ge i j with hij | hij
     ·exact F.free i j oi o' h1.1 hij hoi ho (hnowait i (.inl hi) h1.2)
     ·exact F.behind i j oi o' (by omega) hn hjl.2 hoi ho
    have hg := F.bare j o' hn hjl.2 ho
    have hun' : ∀ k, k < ops.size → ((listed.setIfInBounds j true).getD k true = false ↔ (k ∈ hs ∨ (j + 1 ≤ k ∧ k < e))) := by
     intro k hk
     by_cases hkj : j = k
     ·subst hkj
      have : j < listed.size := by omega
      simp only [Array.getD_eq_getD_getElem?, Array.getElem?_setIfInBounds_self_of_lt this, Option.getD_some]
      constructor
      ·intro h; cases h
      ·rintro (h | h)
       ·have := hlt j h; omega
       ·omega
     ·rw [getD_set_ne true hkj, hun k hk]
      constructor
      ·rintro (h | h)
       ·exact .inl h
       ·exact .inr (by omega)
      ·rintro (h | h)
       ·exact .inl h
       ·exact .inr (by omega)
    have hls' : ∀ k, k < ls'.length → ls'[k]? = ops[j + 1 + k]? := fun k hk => by have := hls (k + 1) (by simp; omega); rw [show j + 1 + k = j + (k + 1) by omega, ← this]; rfl
    have hYn : ∀ v x, Keeps T w x → YSeq P ops (CL T w x) hs vs (a.put o'.dst v) := fun v x hx => by
     have := yseq_put (P := P) (C := CL T w x) F.sel ho (x := v) hs vs a (fun i hi => (hap i hi).2) (hY x hx)
     rwa [dstOf_some ho] at this
    have hpn : ∀ v, puts ops hs vs (a.put o'.dst v) = (puts ops hs vs a).put o'.dst v := fun v => by
     have := puts_put ho (x := v) hs vs a hap
     rwa [dstOf_some ho] at this
    have hlate : wpLate P n q T w (Q .normal) (o' :: ls') (puts ops hs vs a) u := by
     rcases hL with h | h
     ·exact h.2
     ·exact h u (Below.refl _ _)
    have hex := exec_puts hsel ho hs vs a hap
    have hwp : o'.wp P a u (wpAny P .any ops Q fuel (listed.setIfInBounds j true)) Q := by
     rcases hlate with ⟨hqt, hw, hl⟩ | hl
     ·have hnil : hs = [] := by
       cases hs with
       | nil => rfl
       | cons i hs =>
        exfalso
        have h1 := hlt i (List.mem_cons_self)
        have h2 := hq hqt
        obtain ⟨e, he, hb, hon⟩ := waitsAll_spec hw (show i < n by omega)
        exact hnowait i (.inl (List.mem_cons_self)) h1.2 e he hb hon
      unfold lateOp at hl
      rw [hex] at hl
      refine wp_of_late (K := fun v u' => wpLate P n q T w (Q .normal) ls' ((puts ops hs vs a).put o'.dst v) u') hl (fun v u' hl' => ?_)
      exact ih hs ls' (j + 1) vs _ _ u' (by simp at hf ⊢; omega) (by simpa using hsz) (by simp at hsm; omega) (by omega) hls' hpw hlt hun' hlen (hYn v) (.inl hnil) (.inl ⟨hnil, by rw [hpn]; exact hl'⟩)
     ·unfold lateOp at hl
      rw [hex] at hl
      refine wp_of_late (K := fun v u' => Keeps T w u' ∧ ∀ u'', Below u'.heap.size u' u'' → wpLate P n q T w (Q .normal) ls' ((puts ops hs vs a).put o'.dst v) u'') hl (fun v u' hl' => ?_)
      exact ih hs ls' (j + 1) vs _ _ u' (by simp at hf ⊢; omega) (by simpa using hsz) (by simp at hsm; omega) (by omega) hls' hpw hlt hun' hlen (hYn v) (.inr hl'.1) (.inr (fun u'' hu'' => by rw [hpn]; exact hl'.2 u'' hu''))
    unfold wpOp
    simp only [ho]
    rw [if_pos (by simp [Region.wanted, hg])]
    exact .inl hwp

/-- The Bool over a region. -/
def apartFrom (l : List Oper) (i j : Nat) : Bool :=
 match l[i]?, l[j]? with
 | some oi, some oj => (oj.after.any fun e => Region.binds .any e && e.on == i) || oi.apart l.toArray oj
 | _, _ => true
def lateFit (l : List Oper) (n m : Nat) : Bool :=
 Region.noSelect l.toArray && (l.zipIdx.all fun x => x.1.after.all fun e => !Region.binds .any e || decide (e.on < x.2)) &&
 ((List.range l.length).all fun i => (decide (n ≤ i) && decide (i < n + m)) || (List.range l.length).all fun j => decide (j ≤ i) || apartFrom l i j) &&
 ((List.range l.length).all fun i => decide (i < n + m) || (List.range m).all fun j => match l[i]?, l[n + j]? with | some oi, some oj => oi.apart l.toArray oj | _, _ => true) &&
 (l.zipIdx.all fun x => decide (x.2 ≤ n) || decide (n + m ≤ x.2) || x.1.after.any fun e => Region.binds .any e && e.on == x.2 - 1) &&
 (((l.drop n).take m).all fun o => o.guard.isNone) && decide (n + m ≤ l.length)

theorem mem_zipIdx_of {l : List Oper} {j : Nat} {o : Oper} (h : l[j]? = some o) : (o, j) ∈ l.zipIdx := by
 rw [List.mem_zipIdx_iff_getElem?]
 exact h

theorem fit_of {m : Nat} {l : List Oper} (h : lateFit l n m = true) : Fit l.toArray n (n + m) := by
 simp only [lateFit, Bool.and_eq_true] at h
 obtain ⟨⟨⟨⟨⟨⟨h1, h2⟩, h3⟩, h3b⟩, h4⟩, h5⟩, hlen⟩ := h
 have hlen' : n + m ≤ l.length := by simpa using hlen
 refine ⟨fun j o cs b ho => Region.noSelect_spec h1 j o cs b ho, fun j o ho e he hb => ?_, fun i j oi oj hi hij hoi hoj hno => ?_, fun i j oi oj hi hj hje hoi hoj => ?_, fun j o hj hje ho => ?_, fun j o hj hje ho => ?_⟩
 ·have h6 := List.all_eq_true.1 h2 _ (mem_zipIdx_of (by simpa using ho))
  have h7 := Array.all_eq_true'.1 h6 e he
  simpa [hb] using h7
 ·have hil : i < l.length := by
   have := (Array.getElem?_eq_some_iff.1 hoi).1; simpa using this
  have hjl : j < l.length := by
   have := (Array.getElem?_eq_some_iff.1 hoj).1; simpa using this
  have h5' := List.all_eq_true.1 h3 i (List.mem_range.2 hil)
  simp only [Bool.or_eq_true, Bool.and_eq_true, decide_eq_true_eq] at h5'
  rcases h5' with h5' | h5'
  ·omega
  have h6 := List.all_eq_true.1 h5' j (List.mem_range.2 hjl)
  have e1 : l[i]? = some oi := by simpa using hoi
  have e2 : l[j]? = some oj := by simpa using hoj
  simp only [apartFrom, e1, e2, Bool.or_eq_true, decide_eq_true_eq] at h6
  rcases h6 with h6 | h6 | h6
  ·omega
  ·obtain ⟨e, he, hb⟩ := Array.any_eq_true'.1 h6
   simp only [Bool.and_eq_true, beq_iff_eq] at hb
   exact absurd hb.2 (hno e he hb.1)
  ·exact h6
 ·have hil : i < l.length := by
   have := (Array.getElem?_eq_some_iff.1 hoi).1; simpa using this
  have h6 := List.all_eq_true.1 h3b i (List.mem_range.2 hil)
  simp only [Bool.or_eq_true, decide_eq_true_eq] at h6
  rcases h6 with h6 | h6
  ·omega
  have h7 := List.all_eq_true.1 h6 (j - n) (List.mem_range.2 (by omega))
  have e1 : l[i]? = some oi := by simpa using hoi
  have e2 : l[n + (j - n)]? = some oj := by rw [show n + (j - n) = j by omega]; simpa using hoj
  simpa only [e1, e2] using h7
 ·have h6 := List.all_eq_true.1 h4 _ (mem_zipIdx_of (by simpa using ho))
  simp only [Bool.or_eq_true, decide_eq_true_eq] at h6
  rcases h6 with (h6 | h6) | h6
  ·omega
  ·omega
  ·obtain ⟨e, he, hb⟩ := Array.any_eq_true'.1 h6
   simp only [Bool.and_eq_true, beq_iff_eq] at hb
   exact ⟨e, he, hb.1, hb.2⟩
 ·have h6 : o ∈ (l.drop n).take m := by
   rw [List.mem_iff_getElem?]
   exact ⟨j - n, by rw [List.getElem?_take_of_lt (by omega), List.getElem?_drop, show n + (j - n) = j by omega]; simpa using ho⟩
  have := List.all_eq_true.1 h5 o h6
  simpa using this

/-- The first n operations write into places of their own. -/
def placesFit (l : List Oper) (size : Nat) : Bool :=
 l.all (fun o => match o.dst with | some d => decide (d < size) | none => false) && decide (l.map (·.dst)).Nodup

theorem put_get {a : Act} {d : Tmp} {v : Value} (h : d < a.tmps.size) : (a.put (some d) v).tmps.getD d undef = v := by
 simp [Act.put, h]
theorem put_other {a : Act} {d e : Tmp} {v : Value} (h : e ≠ d) : (a.put (some e) v).tmps.getD d undef = a.tmps.getD d undef := by
 simp [Act.put, Array.getElem?_setIfInBounds_ne h]
theorem put_size (a : Act) (d : Option Tmp) (v : Value) : (a.put d v).tmps.size = a.tmps.size := by
 cases d <;> simp [Act.put]

theorem quiet_get {C : World → Prop} {A : Act} {d : Tmp} : ∀ (l : List Oper) (a : Act), (∀ o ∈ l, o.dst ≠ some d) → wpQuiet P ops C (fun a' => a' = A) l a → A.tmps.getD d undef = a.tmps.getD d undef
 | [], a, _, h => by rw [show a = A from h]
 | o :: l, a, hd, h => by
  have hne := hd o (List.mem_cons_self)
  have key : ∀ v, wpQuiet P ops C (fun a' => a' = A) l (a.put o.dst v) → A.tmps.getD d undef = a.tmps.getD d undef := fun v h' => by
   rw [quiet_get l _ (fun o' ho' => hd o' (List.mem_cons_of_mem _ ho')) h']
   cases ho : o.dst with
   | none => rfl
   | some e => exact put_other (fun h => hne (by rw [ho, h]))
  unfold wpQuiet at h
  split at h
  ·obtain ⟨v, _, h'⟩ := h; exact key v h'
  ·exact key _ h

theorem yseq_of_quiet {C : World → Prop} {A : Act} : ∀ (l : List Oper) (is : List Nat) (a : Act), l.length = is.length → (∀ (j i : Nat), is[j]? = some i → l[j]? = ops[i]?) →
  (∀ o ∈ l, ∃ d, o.dst = some d ∧ d < a.tmps.size) → (l.map (·.dst)).Nodup → wpQuiet P ops C (fun a' => a' = A) l a →
  YSeq P ops C is (l.map fun o => A.tmps.getD (o.dst.getD 0) undef) a ∧ puts ops is (l.map fun o => A.tmps.getD (o.dst.getD 0) undef) a = A
 | [], [], _, _, _, _, _, h => ⟨trivial, h⟩
 | o :: l, k :: is, a, hlen, hl, hd, hnd, h => by
  have h0 : ops[k]? = some o := by simpa using (hl 0 k rfl).symm
  obtain ⟨d, hod, hds⟩ := hd o (List.mem_cons_self)
  simp only [List.map_cons, List.nodup_cons] at hnd
  have hq : qOp P ops C k (wpQuiet P ops C (fun a' => a' = A) l) a := by unfold qOp; simp only [h0]; exact h
  obtain ⟨v, hy, hK⟩ := yieldsIn_of_qOp h0 hq
  have hv : A.tmps.getD d undef = v := by
   rw [quiet_get l _ (fun o' ho' h' => hnd.1 (by rw [hod, ← h']; exact List.mem_map_of_mem ho')) hK, hod]
   exact put_get hds
  have h1 := yseq_of_quiet l is (a.put o.dst v) (by simpa using hlen) (fun j i hj => by simpa using hl (j + 1) i (by simpa using hj))
   (fun o' ho' => by rw [put_size]; exact hd o' (List.mem_cons_of_mem _ ho')) hnd.2 hK
  simp only [List.map_cons, YSeq, puts]
  rw [hod, Option.getD_some, hv, dstOf_some h0]
  exact ⟨⟨⟨o, h0, hy⟩, h1.1⟩, h1.2⟩

/-- A region that draws its order, of which all operations but the m from number n on only read, reckon or call functions that only make memory. -/
theorem region_mid {id : Nat} {a : Act} {l : List Oper} (n m : Nat) (T : List Nat) (hm : P.follows .mixedOrders = true) (hB : lateFit l n m = true) (hp : placesFit (l.take n ++ l.drop (n + m)) a.tmps.size = true)
  (h : ∃ A, (∀ v, Keeps T w v → Nonempty (Later T w v) → wpQuiet P l.toArray (fun w' => ∃ x : Later T w v, w' = x.u) (fun a' => a' = A) (l.take n ++ l.drop (n + m)) a) ∧
   (∀ u, Below w.heap.size w u → wpLate P n (n + m == l.length) T w (Q .normal) ((l.drop n).take m) A u)) : (Code.region id l.toArray true).wp P Q a w := by
 obtain ⟨A, hq, hl⟩ := h
 have F := fit_of hB
 have hnl : n + m ≤ l.length := by simp only [lateFit, Bool.and_eq_true, decide_eq_true_eq] at hB; exact hB.2
 simp only [placesFit, Bool.and_eq_true, decide_eq_true_eq] at hp
 have hlenq : (l.take n ++ l.drop (n + m)).length = (List.range' 0 n ++ List.range' (n + m) (l.length - (n + m))).length := by simp; omega
 have hidx : ∀ (j i : Nat), (List.range' 0 n ++ List.range' (n + m) (l.length - (n + m)))[j]? = some i → (l.take n ++ l.drop (n + m))[j]? = l.toArray[i]? := by
  intro j i hj
  rw [List.getElem?_append] at hj ⊢
  simp only [List.length_range', List.length_take] at hj ⊢
  rw [show min n l.length = n by omega]
  split at hj
  ·rename_i hjn
   rw [if_pos hjn]
   rw [List.getElem?_range' hjn] at hj
   simp only [Option.some.injEq] at hj
   subst hj
   rw [List.getElem?_take_of_lt hjn]; simp
  ·rename_i hjn
   rw [if_neg hjn]
   have hj2 := hj
   rw [List.getElem?_eq_some_iff] at hj
   obtain ⟨hj3, hj4⟩ := hj
   simp only [List.getElem_range'] at hj4
   rw [List.getElem?_drop]
   simp
   congr 1
   omega
 have hY := fun v hv => yseq_of_quiet (P := P) (ops := l.toArray) (C := CL T w v) (A := A) (l.take n ++ l.drop (n + m)) _ a hlenq hidx (fun o ho => by
   have := List.all_eq_true.1 hp.1 o ho
   cases hd : o.dst with
   | none => rw [hd] at this; cases this
   | some d => rw [hd] at this; exact ⟨d, rfl, by simpa using this⟩) hp.2 (hq v hv ⟨⟨v, hv, Below.refl _ _⟩⟩)
 refine wp_region_any hm ?_
 have hw0 : Below w.heap.size w w.drew := (Below.refl _ _).drew
 have hmem : ∀ k, k ∈ List.range' 0 n ++ List.range' (n + m) (l.length - (n + m)) ↔ (k < n ∨ (n + m ≤ k ∧ k < l.length)) := fun k => by
  rw [List.mem_append, List.mem_range'_1, List.mem_range'_1]; omega
 have := late_main (P := P) (T := T) (w := w) (Q := Q) (q := (n + m == l.length)) (e := n + m) (fun h => by simpa using h) (by simpa using hnl) F l.toArray.size (List.range' 0 n ++ List.range' (n + m) (l.length - (n + m))) ((l.drop n).take m) n _ (Array.replicate l.toArray.size false) a w.drew
  (by simp; omega) (by simp) (by simp; omega) (Nat.le_refl _) (fun k hk => by
   have hk' : k < m := by simp at hk; omega
   rw [List.getElem?_take_of_lt hk', List.getElem?_drop]; simp)
  (by
   rw [List.pairwise_append]
   refine ⟨List.pairwise_lt_range', List.pairwise_lt_range', fun x hx y hy => ?_⟩
   have := List.mem_range'_1.1 hx
   have := List.mem_range'_1.1 hy
   omega) (fun i hi => by have := (hmem i).1 hi; simp; omega)
  (fun k hk => by
   have hk' : k < l.length := by simpa using hk
   rw [hmem]
   simp [hk']
   omega) (by rw [List.length_map]; exact hlenq.symm) (fun v hv => (hY v hv).1) (.inr (Keeps.of_below hw0)) (.inr fun u' hu' => ?_)
 ·exact this
 ·rw [(hY w (Keeps.refl _ _)).2]
  exact hl u' (hw0.trans hu')
/-- .. of which the first n do. -/
theorem region_late {id : Nat} {a : Act} {l : List Oper} (n : Nat) (T : List Nat) (hm : P.follows .mixedOrders = true) (hB : lateFit l n (l.length - n) = true) (hp : placesFit (l.take n) a.tmps.size = true)
  (h : ∃ A, (∀ v, Keeps T w v → Nonempty (Later T w v) → wpQuiet P l.toArray (fun w' => ∃ x : Later T w v, w' = x.u) (fun a' => a' = A) (l.take n) a) ∧
   (∀ u, Below w.heap.size w u → wpLate P n true T w (Q .normal) (l.drop n) A u)) : (Code.region id l.toArray true).wp P Q a w := by
 have hnl : n + (l.length - n) ≤ l.length := by simp only [lateFit, Bool.and_eq_true, decide_eq_true_eq] at hB; exact hB.2
 have e1 : l.drop (n + (l.length - n)) = [] := List.drop_eq_nil_of_le (by omega)
 have e2 : (l.drop n).take (l.length - n) = l.drop n := List.take_of_length_le (by simp)
 have e3 : (n + (l.length - n) == l.length) = true := by simp; omega
 refine region_mid n (l.length - n) T hm hB ?_ ?_
 ·rw [e1, List.append_nil]; exact hp
 ·rw [e1, List.append_nil, e2, e3]; exact h
end

/-- Steps of the operations behind the first n. -/
theorem late_nil {P : Program} {n : Nat} {q : Bool} {T : List Nat} {w : World} {Q : Act → World → Prop} {A : Act} {u : World} (h : Q A u) : wpLate P n q T w Q [] A u := h
theorem late_mem {P : Program} {n : Nat} {q : Bool} {T : List Nat} {w : World} {Q : Act → World → Prop} {o : Oper} {os : List Oper} {A : Act} {u : World}
  (h : ∀ K : Value → World → Prop, (∀ v u', Keeps T w u' → (∀ u'', Below u'.heap.size u' u'' → wpLate P n q T w Q os (A.put o.dst v) u'') → K v u') → lateOp P o A u K) : wpLate P n q T w Q (o :: os) A u :=
 .inr (h _ fun _ _ h1 h2 => ⟨h1, h2⟩)
theorem late_sink {P : Program} {n : Nat} {T : List Nat} {w : World} {Q : Act → World → Prop} {o : Oper} {os : List Oper} {A : Act} {u : World} (hw : waitsAll n o = true)
  (h : ∀ K : Value → World → Prop, (∀ v u', wpLate P n true T w Q os (A.put o.dst v) u' → K v u') → lateOp P o A u K) : wpLate P n true T w Q (o :: os) A u :=
 .inl ⟨rfl, hw, h _ fun _ _ h1 => h1⟩
end Go.Proofs.YtflgngjocgiojaaGreat
