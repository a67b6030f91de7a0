/- Regions that draw their order within a round of a loop over a function. No condition. -/
import Derived.Test.YtflgngjocgiojaaGreatGen
import Derived.OrdersIn
import Derived.RangeFuncNested
import Derived.RangeFuncCalls
namespace Go.Proofs.YtflgngjocgiojaaGreat
open Go.RowKit

section
variable {P : Program} {ops : Array Oper} {n : Nat} {T : List Nat} {w : World} {Q : Exit → Act → World → Prop}
def waitsT (ops : Array Oper) (n : Nat) (o : Oper) : Bool := (List.range n).all fun i => o.after.any fun e => Region.binds .any e && (e.on == i || anc ops ops.size e.on i)
theorem waitsT_listed {listed : Array Bool} {o : Oper} (hcl : ∀ (i : Nat) (o : Oper), ops[i]? = some o → listed.getD i false = true → ∀ e ∈ o.after, Region.binds .any e = true → listed.getD e.on false = true)
  (hall : ∀ e ∈ o.after, Region.binds .any e = true → listed.getD e.on false = true) (h : waitsT ops n o = true) {i : Nat} (hi : i < n) : listed.getD i false = true := by
 have h9 := List.all_eq_true.1 h i (List.mem_range.2 hi)
 obtain ⟨e, he, hb⟩ := Array.any_eq_true'.1 h9
 simp only [Bool.and_eq_true, Bool.or_eq_true, beq_iff_eq] at hb
 have h1 := hall e he hb.1
 rcases hb.2 with h2 | h2
 ·rw [← h2]; exact h1
 ·cases hoe : ops[e.on]? with
  | none => simp [anc, aft, hoe, pend_nil] at h2
  | some o' => exact anc_listed hcl ops.size e.on i o' hoe (hcl e.on o' hoe h1) h2
theorem closed_set {listed : Array Bool} {o : Oper} {j : Nat} (hcl : ∀ (i : Nat) (o : Oper), ops[i]? = some o → listed.getD i false = true → ∀ e ∈ o.after, Region.binds .any e = true → listed.getD e.on false = true)
  (ho : ops[j]? = some o) (hall : ∀ e ∈ o.after, Region.binds .any e = true → listed.getD e.on false = true) :
  ∀ (i : Nat) (o : Oper), ops[i]? = some o → (listed.setIfInBounds j true).getD i false = true → ∀ e ∈ o.after, Region.binds .any e = true → (listed.setIfInBounds j true).getD e.on false = true := by
 have mono : ∀ x, listed.getD x false = true → (listed.setIfInBounds j true).getD x false = true := fun x hx => by
  by_cases e : j = x
  ·subst e
   by_cases hl : j < listed.size
   ·simp [hl]
   ·simp [hl] at hx
  ·rw [getD_set_ne false e]; exact hx
 intro i o2 ho2 hi e he hb
 by_cases e1 : j = i
 ·subst e1
  rw [ho] at ho2; cases ho2
  exact mono _ (hall e he hb)
 ·rw [getD_set_ne false e1] at hi
  exact mono _ (hcl i o2 ho2 hi e he hb)

/-- The operations behind the first n: one that does not wait for all of the first n, is carried out in any world that calls may have left, and more calls may follow. -/
def wpSink (P : Program) (ops : Array Oper) (n : Nat) (q : Bool) (T : List Nat) (w : World) (Q : Act → World → Prop) : List Oper → Act → World → Prop
 | [], A, u => Q A u
 | o :: os, A, u => (q = true ∧ waitsT ops n o = true ∧ lateOp P o A u (fun v u' => wpSink P ops n q T w Q os (A.put o.dst v) u')) ∨
   lateOp P o A u (fun v u' => Keeps T w u' ∧ ∀ u'', Below u'.heap.size u' u'' → wpSink P ops n q T w Q os (A.put o.dst v) u'')

theorem sink_main {e : Nat} {q : Bool} (hq : q = true → e = ops.size) (hes : e ≤ ops.size) (F : Fit ops n e) : ∀ (fuel : Nat) (hs : List Nat) (ls : List Oper) (s : Nat) (vs : List Value) (listed : Array Bool) (a : Act) (u : World), fuel = hs.length + ls.length →
  listed.size = ops.size → s + ls.length = e → n ≤ s → (∀ k, k < ls.length → ls[k]? = ops[s + k]?) → hs.Pairwise (· < ·) → (∀ i ∈ hs, (i < n ∨ e ≤ i) ∧ i < ops.size) →
  (∀ k, k < ops.size → (listed.getD k true = false ↔ (k ∈ hs ∨ (s ≤ k ∧ k < e)))) → (∀ (i : Nat) (o : Oper), ops[i]? = some o → listed.getD i false = true → ∀ e ∈ o.after, Region.binds .any e = true → listed.getD e.on false = true) → hs.length = vs.length →
  (∀ v, Keeps T w v → YSeq P ops (CL T w v) hs vs a) → (hs = [] ∨ Keeps T w u) →
  ((hs = [] ∧ wpSink P ops n q T w (Q .normal) ls (puts ops hs vs a) u) ∨ ∀ u', Below u.heap.size u u' → wpSink P ops n q T w (Q .normal) ls (puts ops hs vs a) u') →
  wpAny P .any ops Q fuel listed a u := by
 intro fuel
 induction fuel with
 | zero =>
  intro hs ls s vs listed a u hf hsz hsm hn hls _ hlt hun hcl hlen hY hu hL
  have h1 : hs = [] := by cases hs with | nil => rfl | cons => simp at hf; omega
  have h2 : ls = [] := by cases ls with | nil => rfl | cons => simp at hf
  subst h1; subst h2
  have h3 : vs = [] := by cases vs with | nil => rfl | cons => simp at hlen
  subst h3
  have hL' : wpSink P ops n q T w (Q .normal) [] (puts ops [] [] a) u := by
   rcases hL with h | h
   ·exact h.2
   ·exact h u (Below.refl _ _)
  refine ⟨?_, hL'⟩
  rw [List.eq_nil_iff_forall_not_mem]
  intro j hj
  obtain ⟨h4, o, ho, _⟩ := mem_ready.1 hj
  have hjs : j < ops.size := (Array.getElem?_eq_some_iff.1 ho).1
  rcases (hun j hjs).1 h4 with h5 | h5
  ·cases h5
  ·simp at hsm; omega
 | succ fuel ih =>
  intro hs ls s vs listed a u hf hsz hsm hn hls hpw hlt hun hcl hlen hY hu hL
  have hlisted : ∀ k, k < ops.size → k ∉ hs → (k < s ∨ e ≤ k) → listed.getD k false = true := by
   intro k hk h1 h2
   have h3 : ¬ (listed.getD k true = false) := fun h => by rcases (hun k hk).1 h with h | h; exact h1 h; omega
   have hk' : k < listed.size := by omega
   simp [hk'] at h3 ⊢
   exact h3
  refine ⟨fun hr => ?_, fun j hj => ?_⟩
  ·exfalso
   -- the first that is left may come up
   have : ∃ i, i < ops.size ∧ (i ∈ hs ∨ (s ≤ i ∧ i < e)) ∧ (∀ k, k < i → k ∉ hs ∧ (k < s ∨ e ≤ k)) := by
    cases hs with
    | nil => exact ⟨s, by simp at hf; omega, .inr ⟨Nat.le_refl _, by simp at hf; omega⟩, fun k hk => ⟨by simp, .inl hk⟩⟩
    | cons i hs =>
     have h1 := hlt i (List.mem_cons_self)
     have h2 : ∀ k, k < i → k ∉ i :: hs := fun k hk hm => by
      rcases List.mem_cons.1 hm with h | h
      ·omega
      ·have := (List.pairwise_cons.1 hpw).1 k h; omega
     by_cases hsi : s < i ∧ s < e
     ·exact ⟨s, by omega, .inr ⟨Nat.le_refl _, hsi.2⟩, fun k hk => ⟨h2 k (by omega), .inl hk⟩⟩
     ·exact ⟨i, h1.2, .inl (List.mem_cons_self), fun k hk => ⟨h2 k hk, by omega⟩⟩
   obtain ⟨i, hi, hin, hlow⟩ := this
   have hmem : i ∈ Region.ready .any ops listed := mem_ready.2 ⟨(hun i hi).2 hin, ops[i], Array.getElem?_eq_getElem hi, fun e he hb => by
    have h1 := F.back i ops[i] (Array.getElem?_eq_getElem hi) e he hb
    exact hlisted _ (by omega) (hlow _ h1).1 (hlow _ h1).2⟩
   rw [hr] at hmem
   cases hmem
  ·obtain ⟨hj0, o, ho, hall⟩ := mem_ready.1 hj
   have hjs : j < ops.size := (Array.getElem?_eq_some_iff.1 ho).1
   have hnowait : ∀ i, (i ∈ hs ∨ (s ≤ i ∧ i < e)) → i < ops.size → ∀ e ∈ o.after, Region.binds .any e = true → e.on ≠ i := by
    intro i hi his e he hb heq
    have h1 := hall e he hb
    have h2 := (hun i his).2 hi
    have his' : i < listed.size := by omega
    rw [heq] at h1
    simp [his'] at h1 h2
    rw [h1] at h2; cases h2
   have hsel := fun cs b => F.sel j o cs b ho
   have hcl' := closed_set hcl ho hall
   rcases (hun j hjs).1 hj0 with hjh | hjl
   ·-- one of the first n
    have hu' : Keeps T w u := by
     rcases hu with h | h
     ·rw [h] at hjh; cases hjh
     ·exact h
    have hL' : ∀ u', Below u.heap.size u u' → wpSink P ops n q T w (Q .normal) ls (puts ops hs vs a) u' := by
     rcases hL with h | h
     ·rw [h.1] at hjh; cases hjh
     ·exact h
    obtain ⟨pre, post, rfl⟩ := List.append_of_mem hjh
    have hpl : pre.length < vs.length := by rw [← hlen]; simp
    obtain ⟨vpre, vj, vpost, rfl, hvl⟩ : ∃ vpre vj vpost, vs = vpre ++ vj :: vpost ∧ pre.length = vpre.length := by
     refine ⟨vs.take pre.length, vs[pre.length], vs.drop (pre.length + 1), ?_, by simp; omega⟩
     rw [← List.drop_eq_getElem_cons hpl, List.take_append_drop]
    have hpj : ∀ i ∈ pre, Apart ops i j := by
     intro i hi oi oj hoi hoj
     have hij : i < j := by
      rw [List.pairwise_append] at hpw
      exact hpw.2.2 i hi j (List.mem_cons_self)
     have h1 := hlt i (List.mem_append_left _ hi)
     rw [ho] at hoj; cases hoj
     exact F.free i j oi o h1.1 hij hoi ho (hnowait i (.inl (List.mem_append_left _ hi)) h1.2)
    have hY2 := fun v hv => yseq_pull (P := P) (C := CL T w v) F.sel (vj := vj) pre vpre a hvl hpj (hY v hv)
    obtain ⟨⟨oj, hoj, hy⟩, _⟩ := (hY2 u hu').1
    rw [ho] at hoj; cases hoj
    have hcl : CL T w u u := ⟨⟨u, hu', Below.refl _ _⟩, rfl⟩
    have hq : qOp P ops (CL T w u) j (fun a' => a' = a.put o.dst vj) a := hy.qOp ho rfl
    refine wpOp_of_qOp hcl (fun a' u' hu'' ha' => ?_) hq
    obtain ⟨x, rfl⟩ := hu''
    subst ha'
    refine ih (pre ++ post) ls s (vpre ++ vpost) _ _ x.u (by simp at hf ⊢; omega) (by simpa using hsz) hsm hn hls ?_ ?_ ?_ hcl' (by simp at hlen ⊢; omega) ?_ (.inr x.h) (.inr ?_)
    ·exact hpw.sublist (List.Sublist.append (List.Sublist.refl pre) (List.sublist_cons_self j post))
    ·intro i hi
     refine hlt i ?_
     rcases List.mem_append.1 hi with h | h
     ·exact List.mem_append_left _ h
     ·exact List.mem_append_right _ (List.mem_cons_of_mem _ h)
    ·intro k hk
     have hnd : j ∉ pre ++ post := by
      intro h
      rw [List.pairwise_append] at hpw
      rcases List.mem_append.1 h with h | h
      ·have := hpw.2.2 j h j (List.mem_cons_self); omega
      ·have := (List.pairwise_cons.1 hpw.2.1).1 j h; omega
     have hjn := hlt j hjh
     by_cases hkj : j = k
     ·subst hkj
      have : j < listed.size := by omega
      simp only [Array.getD_eq_getD_getElem?, Array.getElem?_setIfInBounds_self_of_lt this, Option.getD_some]
      constructor
      ·intro h; cases h
      ·rintro (h | h)
       ·exact absurd h hnd
       ·omega
     ·rw [getD_set_ne true hkj, hun k hk]
      simp only [List.mem_append, List.mem_cons]
      constructor
      ·rintro ((h | h | h) | h)
       ·exact .inl (.inl h)
       ·omega
       ·exact .inl (.inr h)
       ·exact .inr h
      ·rintro ((h | h) | h)
       ·exact .inl (.inl h)
       ·exact .inl (.inr (.inr h))
       ·exact .inr h
    ·intro v hv
     have := (hY2 v hv).1.2
     rwa [dstOf_some ho] at this
    ·have h1 := (hY2 u hu').2
     simp only [puts] at h1
     rw [dstOf_some ho] at h1
     rw [← h1]
     exact fun u' h => hL' u' (x.g.trans (h.mono x.g.size))
   ·-- the next one of the others
    have hjs' : j = s := by
     rcases Nat.lt_or_ge s j with h | h
     ·exfalso
      obtain ⟨e, he, hb, hon⟩ := F.chain j o (by omega) hjl.2 ho
      exact hnowait (j - 1) (.inr (by omega)) (by omega) e he hb hon
     ·omega
    subst hjs'
    obtain ⟨o', ls', rfl⟩ : ∃ o' ls', ls = o' :: ls' := by
     cases ls with
     | nil => simp at hsm; omega
     | cons o' ls' => exact ⟨o', ls', rfl⟩
    have ho' : o' = o := by have := hls 0 (by simp); simp [ho] at this; exact this
    subst ho'
    have hap : ∀ i ∈ hs, (∃ o, ops[i]? = some o) ∧ Apart ops i j := by
     intro i hi
     have h1 := hlt i hi
     refine ⟨⟨ops[i]'h1.2, Array.getElem?_eq_getElem h1.2⟩, fun oi oj hoi hoj => ?_⟩
     rw [ho] at hoj; cases hoj
     rcases Nat.lt_or_ge i j with hij | hij
     ·exact F.free i j oi o' h1.1 hij hoi ho (hnowait i (.inl hi) h1.2)
     ·exact F.behind i j oi o' (by omega) hn hjl.2 hoi ho
    have hg := F.bare j o' hn hjl.2 ho
    have hun' : ∀ k, k < ops.size → ((listed.setIfInBounds j true).getD k true = false ↔ (k ∈ hs ∨ (j + 1 ≤ k ∧ k < e))) := by
     intro k hk
     by_cases hkj : j = k
     ·subst hkj
      have : j < listed.size := by omega
      simp only [Array.getD_eq_getD_getElem?, Array.getElem?_setIfInBounds_self_of_lt this, Option.getD_some]
      constructor
      ·intro h; cases h
      ·rintro (h | h)
       ·have := hlt j h; omega
       ·omega
     ·rw [getD_set_ne true hkj, hun k hk]
      constructor
      ·rintro (h | h)
       ·exact .inl h
       ·exact .inr (by omega)
      ·rintro (h | h)
       ·exact .inl h
       ·exact .inr (by omega)
    have hls' : ∀ k, k < ls'.length → ls'[k]? = ops[j + 1 + k]? := fun k hk => by have := hls (k + 1) (by simp; omega); rw [show j + 1 + k = j + (k + 1) by omega, ← this]; rfl
    have hYn : ∀ v x, Keeps T w x → YSeq P ops (CL T w x) hs vs (a.put o'.dst v) := fun v x hx => by
     have := yseq_put (P := P) (C := CL T w x) F.sel ho (x := v) hs vs a (fun i hi => (hap i hi).2) (hY x hx)
     rwa [dstOf_some ho] at this
    have hpn : ∀ v, puts ops hs vs (a.put o'.dst v) = (puts ops hs vs a).put o'.dst v := fun v => by
     have := puts_put ho (x := v) hs vs a hap
     rwa [dstOf_some ho] at this
    have hlate : wpSink P ops n q T w (Q .normal) (o' :: ls') (puts ops hs vs a) u := by
     rcases hL with h | h
     ·exact h.2
     ·exact h u (Below.refl _ _)
    have hex := exec_puts hsel ho hs vs a hap
    have hwp : o'.wp P a u (wpAny P .any ops Q fuel (listed.setIfInBounds j true)) Q := by
     rcases hlate with ⟨hqt, hw, hl⟩ | hl
     ·have hnil : hs = [] := by
       cases hs with
       | nil => rfl
       | cons i hs =>
        exfalso
        have h1 := hlt i (List.mem_cons_self)
        have h2 := hq hqt
        have h3 := waitsT_listed hcl hall hw (show i < n by omega)
        have h4 := (hun i h1.2).2 (.inl List.mem_cons_self)
        have h5 : i < listed.size := by omega
        simp [h5] at h3 h4
        rw [h3] at h4; cases h4
      unfold lateOp at hl
      rw [hex] at hl
      refine wp_of_late (K := fun v u' => wpSink P ops n q T w (Q .normal) ls' ((puts ops hs vs a).put o'.dst v) u') hl (fun v u' hl' => ?_)
      exact ih hs ls' (j + 1) vs _ _ u' (by simp at hf ⊢; omega) (by simpa using hsz) (by simp at hsm; omega) (by omega) hls' hpw hlt hun' hcl' hlen (hYn v) (.inl hnil) (.inl ⟨hnil, by rw [hpn]; exact hl'⟩)
     ·unfold lateOp at hl
      rw [hex] at hl
      refine wp_of_late (K := fun v u' => Keeps T w u' ∧ ∀ u'', Below u'.heap.size u' u'' → wpSink P ops n q T w (Q .normal) ls' ((puts ops hs vs a).put o'.dst v) u'') hl (fun v u' hl' => ?_)
      exact ih hs ls' (j + 1) vs _ _ u' (by simp at hf ⊢; omega) (by simpa using hsz) (by simp at hsm; omega) (by omega) hls' hpw hlt hun' hcl' hlen (hYn v) (.inr hl'.1) (.inr (fun u'' hu'' => by rw [hpn]; exact hl'.2 u'' hu''))
    unfold wpOp
    simp only [ho]
    rw [if_pos (by simp [Region.wanted, hg])]
    exact .inl hwp

/-- A region that draws its order, of which all operations but the m from number n on only read, reckon or call functions that only make memory. -/
theorem sink_any {a : Act} {l : List Oper} (n m : Nat) (T : List Nat) (hB : lateFit l n m = true) (hp : placesFit (l.take n ++ l.drop (n + m)) a.tmps.size = true)
  (h : ∃ A, (∀ v, Keeps T w v → Nonempty (Later T w v) → wpQuiet P l.toArray (fun w' => ∃ x : Later T w v, w' = x.u) (fun a' => a' = A) (l.take n ++ l.drop (n + m)) a) ∧
   (∀ u, Below w.heap.size w u → wpSink P l.toArray n (n + m == l.length) T w (Q .normal) ((l.drop n).take m) A u)) : wpAny P .any l.toArray Q l.toArray.size (Array.replicate l.toArray.size false) a w.drew := by
 obtain ⟨A, hq, hl⟩ := h
 have F := fit_of hB
 have hnl : n + m ≤ l.length := by simp only [lateFit, Bool.and_eq_true, decide_eq_true_eq] at hB; exact hB.2
 simp only [placesFit, Bool.and_eq_true, decide_eq_true_eq] at hp
 have hlenq : (l.take n ++ l.drop (n + m)).length = (List.range' 0 n ++ List.range' (n + m) (l.length - (n + m))).length := by simp; omega
 have hidx : ∀ (j i : Nat), (List.range' 0 n ++ List.range' (n + m) (l.length - (n + m)))[j]? = some i → (l.take n ++ l.drop (n + m))[j]? = l.toArray[i]? := by
  intro j i hj
  rw [List.getElem?_append] at hj ⊢
  simp only [List.length_range', List.length_take] at hj ⊢
  rw [show min n l.length = n by omega]
  split at hj
  ·rename_i hjn
   rw [if_pos hjn]
   rw [List.getElem?_range' hjn] at hj
   simp only [Option.some.injEq] at hj
   subst hj
   rw [List.getElem?_take_of_lt hjn]; simp
  ·rename_i hjn
   rw [if_neg hjn]
   have hj2 := hj
   rw [List.getElem?_eq_some_iff] at hj
   obtain ⟨hj3, hj4⟩ := hj
   simp only [List.getElem_range'] at hj4
   rw [List.getElem?_drop]
   simp
   congr 1
   omega
 have hY := fun v hv => yseq_of_quiet (P := P) (ops := l.toArray) (C := CL T w v) (A := A) (l.take n ++ l.drop (n + m)) _ a hlenq hidx (fun o ho => by
   have := List.all_eq_true.1 hp.1 o ho
   cases hd : o.dst with
   | none => rw [hd] at this; cases this
   | some d => rw [hd] at this; exact ⟨d, rfl, by simpa using this⟩) hp.2 (hq v hv ⟨⟨v, hv, Below.refl _ _⟩⟩)
 have hw0 : Below w.heap.size w w.drew := (Below.refl _ _).drew
 have hmem : ∀ k, k ∈ List.range' 0 n ++ List.range' (n + m) (l.length - (n + m)) ↔ (k < n ∨ (n + m ≤ k ∧ k < l.length)) := fun k => by
  rw [List.mem_append, List.mem_range'_1, List.mem_range'_1]; omega
 have := sink_main (P := P) (T := T) (w := w) (Q := Q) (q := (n + m == l.length)) (e := n + m) (fun h => by simpa using h) (by simpa using hnl) F l.toArray.size (List.range' 0 n ++ List.range' (n + m) (l.length - (n + m))) ((l.drop n).take m) n _ (Array.replicate l.toArray.size false) a w.drew
  (by simp; omega) (by simp) (by simp; omega) (Nat.le_refl _) (fun k hk => by
   have hk' : k < m := by simp at hk; omega
   rw [List.getElem?_take_of_lt hk', List.getElem?_drop]; simp)
  (by
   rw [List.pairwise_append]
   refine ⟨List.pairwise_lt_range', List.pairwise_lt_range', fun x hx y hy => ?_⟩
   have := List.mem_range'_1.1 hx
   have := List.mem_range'_1.1 hy
   omega) (fun i hi => by have := (hmem i).1 hi; simp; omega)
  (fun k hk => by
   have hk' : k < l.length := by simpa using hk
   rw [hmem]
   simp [hk']
   omega) (fun i o _ hi => by
   rw [Array.getD_eq_getD_getElem?, Array.getElem?_replicate] at hi
   split at hi <;> simp at hi) (by rw [List.length_map]; exact hlenq.symm) (fun v hv => (hY v hv).1) (.inr (Keeps.of_below hw0)) (.inr fun u' hu' => ?_)
 ·exact this
 ·rw [(hY w (Keeps.refl _ _)).2]
  exact hl u' (hw0.trans hu')
theorem region_sink_mid {id : Nat} {a : Act} {l : List Oper} (n m : Nat) (T : List Nat) (hm : P.follows .mixedOrders = true) (hB : lateFit l n m = true) (hp : placesFit (l.take n ++ l.drop (n + m)) a.tmps.size = true)
  (h : ∃ A, (∀ v, Keeps T w v → Nonempty (Later T w v) → wpQuiet P l.toArray (fun w' => ∃ x : Later T w v, w' = x.u) (fun a' => a' = A) (l.take n ++ l.drop (n + m)) a) ∧
   (∀ u, Below w.heap.size w u → wpSink P l.toArray n (n + m == l.length) T w (Q .normal) ((l.drop n).take m) A u)) : (Code.region id l.toArray true).wp P Q a w := wp_region_any hm (sink_any n m T hB hp h)
/-- .. of which the first n do. -/
theorem region_sink {id : Nat} {a : Act} {l : List Oper} (n : Nat) (T : List Nat) (hm : P.follows .mixedOrders = true) (hB : lateFit l n (l.length - n) = true) (hp : placesFit (l.take n) a.tmps.size = true)
  (h : ∃ A, (∀ v, Keeps T w v → Nonempty (Later T w v) → wpQuiet P l.toArray (fun w' => ∃ x : Later T w v, w' = x.u) (fun a' => a' = A) (l.take n) a) ∧
   (∀ u, Below w.heap.size w u → wpSink P l.toArray n true T w (Q .normal) (l.drop n) A u)) : (Code.region id l.toArray true).wp P Q a w := by
 have hnl : n + (l.length - n) ≤ l.length := by simp only [lateFit, Bool.and_eq_true, decide_eq_true_eq] at hB; exact hB.2
 have e1 : l.drop (n + (l.length - n)) = [] := List.drop_eq_nil_of_le (by omega)
 have e2 : (l.drop n).take (l.length - n) = l.drop n := List.take_of_length_le (by simp)
 have e3 : (n + (l.length - n) == l.length) = true := by simp; omega
 refine region_sink_mid n (l.length - n) T hm hB ?_ ?_
 ·rw [e1, List.append_nil]; exact hp
 ·rw [e1, List.append_nil, e2, e3]; exact h
end

/-- Steps of the operations behind the first n. -/
theorem sink_nil {P : Program} {ops : Array Oper} {n : Nat} {q : Bool} {T : List Nat} {w : World} {Q : Act → World → Prop} {A : Act} {u : World} (h : Q A u) : wpSink P ops n q T w Q [] A u := h
theorem sink_mem {P : Program} {ops : Array Oper} {n : Nat} {q : Bool} {T : List Nat} {w : World} {Q : Act → World → Prop} {o : Oper} {os : List Oper} {A : Act} {u : World}
  (h : ∀ K : Value → World → Prop, (∀ v u', Keeps T w u' → (∀ u'', Below u'.heap.size u' u'' → wpSink P ops n q T w Q os (A.put o.dst v) u'') → K v u') → lateOp P o A u K) : wpSink P ops n q T w Q (o :: os) A u :=
 .inr (h _ fun _ _ h1 h2 => ⟨h1, h2⟩)
theorem sink_all {P : Program} {ops : Array Oper} {n : Nat} {T : List Nat} {w : World} {Q : Act → World → Prop} {o : Oper} {os : List Oper} {A : Act} {u : World} (hw : waitsT ops n o = true)
  (h : ∀ K : Value → World → Prop, (∀ v u', wpSink P ops n true T w Q os (A.put o.dst v) u' → K v u') → lateOp P o A u K) : wpSink P ops n true T w Q (o :: os) A u :=
 .inl ⟨rfl, hw, h _ fun _ _ h1 => h1⟩
end Go.Proofs.YtflgngjocgiojaaGreat
namespace Go.Proofs.YtflgngjocgiojaaGreat
open Go.RowKit

section
variable {P : Program} {ops : Array Oper} {Q : Exit → Act → World → Prop} {r : Nat}
theorem upon_lift {n : Nat} {o : Oper} {a : Act} {K : Act → World → Prop} {x : Result Next} (h : o.upon P a K Q x) : o.uponIn (Fence.wide.inRound r) n P a K Q x := by
 have hd : ∀ k : Nat, ((Fence.wide.inRound r).depth.isSome = true → 1 ≤ k) := fun k e => absurd e (by simp [Fence.wide])
 cases x with
 | ok y w' =>
  cases y with
  | value v => exact h
  | skip => exact h
  | defer d => exact h
  | enter f args => exact ⟨hd n, CallsIn.inRound r (callsIn_wide.2 h)⟩
  | row row args => exact ⟨hd n, fun c cs _ => let ⟨v, w2, h1, h2⟩ := h c cs; ⟨v, w2, h1, stepsIn_wide.2 h2⟩⟩
  | _ => exact False.elim h
 | halt hh w' => cases hh <;> first | exact h | exact False.elim h
def noDefer (l : List Oper) : Bool := l.all fun o => match o.op with
 | .defer _ => false
 | _ => true
theorem wpAny_lift {l : List Oper} {n : Nat} {md : Region.Mode} (hd : noDefer l = true) (hQ : ¬ LetsOut Q) : ∀ (fuel : Nat) (listed : Array Bool) (a : Act) (w : World), wpAny P md l.toArray Q fuel listed a w → wpAnyIn (Fence.wide.inRound r) n P md l.toArray Q fuel listed a w
 | 0, _, _, _, h => h
 | fuel + 1, listed, a, w, h => ⟨h.1, fun i hi => by
  have h2 := h.2 i hi
  unfold wpOp at h2
  unfold wpOpIn
  cases ho : l.toArray[i]? with
  | none =>
   rw [ho] at h2
   exact wpAny_lift hd hQ fuel _ a w h2
  | some o =>
   rw [ho] at h2
   simp only [] at h2 ⊢
   by_cases hw : Region.wanted o (yielded l.toArray a.tmps) = true
   ·rw [if_pos hw] at h2 ⊢
    rcases h2 with h3 | h3
    ·refine ⟨fun _ _ => trivial, ?_⟩
     have hne : ∀ c, o.op ≠ .defer c := fun c e => by
      have hm : o ∈ l := by
       have := Array.mem_of_getElem? ho
       simpa using this
      have := List.all_eq_true.1 hd o hm
      rw [e] at this
      cases this
     rw [Oper.semAt_eq _ _ _ hne]
     have h4 : o.wp P a w (wpAnyIn (Fence.wide.inRound r) n P md l.toArray Q fuel (listed.setIfInBounds i true)) Q := Oper.wp_mono (fun a w h => wpAny_lift hd hQ fuel _ a w h) h3
     exact upon_lift h4
    ·exact absurd h3.2 hQ
   ·rw [if_neg hw] at h2 ⊢
    exact ⟨fun _ _ => trivial, wpAny_lift hd hQ fuel _ _ w h2⟩⟩
/-- A region that draws its order, within a round. -/
theorem region_sink_round {id k : Nat} {a : Act} {w : World} {l : List Oper} (n : Nat) (T : List Nat) (hm : P.follows .mixedOrders = true) (hB : lateFit l n (l.length - n) = true) (hp : placesFit (l.take n) a.tmps.size = true) (hd : noDefer l = true) (hQ : ¬ LetsOut Q)
  (h : ∃ A, (∀ v, Keeps T w v → Nonempty (Later T w v) → wpQuiet P l.toArray (fun w' => ∃ x : Later T w v, w' = x.u) (fun a' => a' = A) (l.take n) a) ∧
   (∀ u, Below w.heap.size w u → wpSink P l.toArray n true T w (Q .normal) (l.drop n) A u)) : (Code.region id l.toArray true).wpIn (Fence.wide.inRound r) k P Q a w := by
 refine wpIn_region_any hm (wpAny_lift hd hQ _ _ _ _ ?_)
 have hnl : n + (l.length - n) ≤ l.length := by simp only [lateFit, Bool.and_eq_true, decide_eq_true_eq] at hB; exact hB.2
 have e1 : l.drop (n + (l.length - n)) = [] := List.drop_eq_nil_of_le (by omega)
 have e2 : (l.drop n).take (l.length - n) = l.drop n := List.take_of_length_le (by simp)
 have e3 : (n + (l.length - n) == l.length) = true := by simp; omega
 refine sink_any n (l.length - n) T hB ?_ ?_
 ·rw [e1, List.append_nil]; exact hp
 ·rw [e1, List.append_nil, e2, e3]; exact h
end
end Go.Proofs.YtflgngjocgiojaaGreat
