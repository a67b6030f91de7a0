/- A region that draws its order, with k operations (from number n on) that make one block of memory each, in whatever order: the walk takes the new blocks' numbers as unknown. Before them, and m behind them, operations that only read, reckon or call functions that only make memory; the others follow in a chain. No condition. -/
import Derived.Test.YtccnlnkgoaelpaaLate
namespace Go.Proofs.Ytccnlnkgoaelpaa
open Go.RowKit

section
variable {P : Program} {ops : Array Oper} {T : List Nat} {w : World} {Q : Exit → Act → World → Prop}

def wpChain (P : Program) (T : List Nat) (w : World) (Q : Act → World → Prop) : List Oper → Act → World → Prop
  | [], A, u => Q A u
  | o :: os, A, u => lateOp P o A u (fun v u' => Keeps T w u' ∧ ∀ u'', Below u'.heap.size u' u'' → wpChain P T w Q os (A.put o.dst v) u'')

/-- An operation that makes one block: its number, itself, the block, and its value by the block's number. -/
structure ME where
  j : Nat
  o : Oper
  obj : Obj
  val : Nat → Value
def putM : List ME → (Nat → Nat) → Act → Act
  | [], _, A => A
  | m :: ms, f, A => putM ms f (A.put m.o.dst (m.val (f m.j)))
def AMem (P : Program) (T : List Nat) (w : World) (Q : Act → World → Prop) (ls : List Oper) (ms : List ME) (A : Act) (u : World) : Prop :=
  ∀ (f : Nat → Nat) (u' : World), Below u.heap.size u u' → (∀ m ∈ ms, u.heap.size ≤ f m.j ∧ u'.heap[f m.j]? = some m.obj) → (ms.map fun m => f m.j).Nodup → wpChain P T w Q ls (putM ms f A) u'
theorem AMem.later {ls : List Oper} {ms : List ME} {A : Act} {u v : World} {Q : Act → World → Prop} (h : AMem P T w Q ls ms A u) (hv : Below u.heap.size u v) : AMem P T w Q ls ms A v :=
  fun f u' hu hm hn => h f u' (hv.trans (hu.mono hv.size)) (fun m hm' => ⟨Nat.le_trans hv.size (hm m hm').1, (hm m hm').2⟩) hn

theorem putM_pull (f : Nat → Nat) {m : ME} {post : List ME} : ∀ (pre : List ME) (A : Act), (∀ x ∈ pre, ∀ d, x.o.dst = some d → m.o.dst ≠ some d) →
    putM (pre ++ m :: post) f A = putM (pre ++ post) f (A.put m.o.dst (m.val (f m.j)))
  | [], _, _ => rfl
  | x :: pre, A, h => by
    simp only [List.cons_append, putM]
    rw [putM_pull f pre _ (fun y hy => h y (List.mem_cons_of_mem _ hy)), Act.put_comm A _ _ (h x (List.mem_cons_self))]
theorem putM_congr {f g : Nat → Nat} : ∀ (ms : List ME) (A : Act), (∀ m ∈ ms, f m.j = g m.j) → putM ms f A = putM ms g A
  | [], _, _ => rfl
  | m :: ms, A, h => by
    simp only [putM]
    rw [h m (List.mem_cons_self), putM_congr ms _ (fun x hx => h x (List.mem_cons_of_mem _ hx))]

/-- What the Bool below says: n, k, m; c = n + k + m begins the chain. -/
structure Fit2 (ops : Array Oper) (n k m : Nat) : Prop where
  sel : ∀ (j : Nat) (o : Oper) cs b, ops[j]? = some o → o.op ≠ .select cs b
  back : ∀ (j : Nat) (o : Oper), ops[j]? = some o → ∀ e ∈ o.after, Region.binds .any e = true → e.on < j
  free : ∀ (i j : Nat) (oi oj : Oper), (i < n ∨ (n + k ≤ i ∧ i < n + k + m)) → i < j → ops[i]? = some oi → ops[j]? = some oj → (∀ e ∈ oj.after, Region.binds .any e = true → e.on ≠ i) → oi.apart ops oj = true
  behind : ∀ (i j : Nat) (oi oj : Oper), n + k ≤ i → i < n + k + m → n ≤ j → j < n + k → ops[i]? = some oi → ops[j]? = some oj → oi.apart ops oj = true
  memApart : ∀ (i j : Nat) (oi oj : Oper), n ≤ i → i < n + k → n ≤ j → j < n + k → i ≠ j → ops[i]? = some oi → ops[j]? = some oj → oi.apart ops oj = true
  chain : ∀ (j : Nat) (o : Oper), n + k + m < j → ops[j]? = some o → ∃ e ∈ o.after, Region.binds .any e = true ∧ e.on = j - 1
  memChain : ∀ (o : Oper), ops[n + k + m]? = some o → ∀ i, n ≤ i → i < n + k → ∃ e ∈ o.after, Region.binds .any e = true ∧ e.on = i
  bare : ∀ (j : Nat) (o : Oper), ((n ≤ j ∧ j < n + k) ∨ n + k + m ≤ j) → ops[j]? = some o → o.guard = none

theorem mem_main {n k m : Nat} (F : Fit2 ops n k m) : ∀ (fuel : Nat) (hs : List Nat) (ms : List ME) (ls : List Oper) (s : Nat) (vs : List Value) (listed : Array Bool) (a : Act) (u : World),
    fuel = hs.length + ms.length + ls.length → listed.size = ops.size → s + ls.length = ops.size → n + k + m ≤ s → (∀ i, ls[i]? = ops[s + i]?) → (s = n + k + m ∨ ms = []) → hs.Pairwise (· < ·) →
    (∀ i ∈ hs, (i < n ∨ (n + k ≤ i ∧ i < n + k + m)) ∧ i < ops.size) → (∀ x ∈ ms, n ≤ x.j ∧ x.j < n + k ∧ ops[x.j]? = some x.o) → (ms.map (·.j)).Nodup →
    (∀ i, i < ops.size → (listed.getD i true = false ↔ (i ∈ hs ∨ i ∈ ms.map (·.j) ∨ s ≤ i))) → hs.length = vs.length →
    (∀ v, Keeps T w v → YSeq P ops (CL T w v) hs vs a) → Keeps T w u →
    (∀ x ∈ ms, ∀ u, (execOp (puts ops hs vs a).eval x.o).run P u = .ok (.value (x.val u.heap.size)) (u.alloc x.obj)) →
    AMem P T w (Q .normal) ls ms (puts ops hs vs a) u → wpAny P .any ops Q fuel listed a u := by
  intro fuel
  induction fuel with
  | zero =>
    intro hs ms ls s vs listed a u hf hsz hsm hn hls hsm0 _ hlt hmi hmn hun hlen hY hu hR hL
    have h1 : hs = [] := by cases hs with | nil => rfl | cons => simp at hf; omega
    have h2 : ms = [] := by cases ms with | nil => rfl | cons => simp at hf; omega
    have h3 : ls = [] := by cases ls with | nil => rfl | cons => simp at hf
    subst h1; subst h2; subst h3
    have h3 : vs = [] := by cases vs with | nil => rfl | cons => simp at hlen
    subst h3
    refine ⟨?_, hL (fun _ => 0) u (Below.refl _ _) (by simp) (by simp)⟩
    rw [List.eq_nil_iff_forall_not_mem]
    intro j hj
    obtain ⟨h4, o, ho, _⟩ := mem_ready.1 hj
    have hjs : j < ops.size := (Array.getElem?_eq_some_iff.1 ho).1
    rcases (hun j hjs).1 h4 with h5 | h5 | h5
    · cases h5
    · cases h5
    · simp at hsm; omega
  | succ fuel ih =>
    intro hs ms ls s vs listed a u hf hsz hsm hn hls hsm0 hpw hlt hmi hmn hun hlen hY hu hR hL
    have hlisted : ∀ i, i < ops.size → i ∉ hs → i ∉ ms.map (·.j) → i < s → listed.getD i false = true := by
      intro i hi h1 h2 h0
      have h3 : ¬ (listed.getD i true = false) := fun h => by
        rcases (hun i hi).1 h with h | h | h
        · exact h1 h
        · exact h2 h
        · omega
      have hi' : i < listed.size := by omega
      simp [hi'] at h3 ⊢
      exact h3
    -- the least that is left
    have hleast : ∃ i, i < ops.size ∧ (i ∈ hs ∨ i ∈ ms.map (·.j) ∨ s ≤ i) ∧ (∀ x, x < i → x ∉ hs ∧ x ∉ ms.map (·.j) ∧ x < s) := by
      have hex : ∃ i, i < ops.size ∧ (i ∈ hs ∨ i ∈ ms.map (·.j) ∨ s ≤ i) := by
        cases hs with
        | cons i hs => exact ⟨i, (hlt i List.mem_cons_self).2, .inl List.mem_cons_self⟩
        | nil =>
          cases ms with
          | cons x ms =>
            have hx := hmi x List.mem_cons_self
            exact ⟨x.j, (Array.getElem?_eq_some_iff.1 hx.2.2).1, .inr (.inl (by simp))⟩
          | nil => exact ⟨s, by simp at hf; omega, .inr (.inr (Nat.le_refl _))⟩
      have hdec : ∀ b, (∃ i, i < b ∧ i < ops.size ∧ (i ∈ hs ∨ i ∈ ms.map (·.j) ∨ s ≤ i)) → ∃ i, i < ops.size ∧ (i ∈ hs ∨ i ∈ ms.map (·.j) ∨ s ≤ i) ∧ (∀ x, x < i → x ∉ hs ∧ x ∉ ms.map (·.j) ∧ x < s) := by
        intro b
        induction b with
        | zero => rintro ⟨i, h, _⟩; omega
        | succ b ihb =>
          rintro ⟨i, hib, his, hin⟩
          by_cases hsm : ∃ i, i < b ∧ i < ops.size ∧ (i ∈ hs ∨ i ∈ ms.map (·.j) ∨ s ≤ i)
          · exact ihb hsm
          · have hib' : i = b := by
              by_cases h : i < b
              · exact absurd ⟨i, h, his, hin⟩ hsm
              · omega
            subst hib'
            refine ⟨i, his, hin, fun x hx => ⟨fun h => hsm ⟨x, hx, by omega, .inl h⟩, fun h => hsm ⟨x, hx, by omega, .inr (.inl h)⟩, ?_⟩⟩
            by_cases hxs : x < s
            · exact hxs
            · exact absurd ⟨x, hx, by omega, .inr (.inr (by omega))⟩ hsm
      obtain ⟨i, h1, h2⟩ := hex
      exact hdec (i + 1) ⟨i, by omega, h1, h2⟩
    refine ⟨fun hr => ?_, fun j hj => ?_⟩
    · exfalso
      obtain ⟨i, hi, hin, hlow⟩ := hleast
      have hmem : i ∈ Region.ready .any ops listed := mem_ready.2 ⟨(hun i hi).2 hin, ops[i], Array.getElem?_eq_getElem hi, fun e he hb => by
        have h1 := F.back i ops[i] (Array.getElem?_eq_getElem hi) e he hb
        exact hlisted _ (by omega) (hlow _ h1).1 (hlow _ h1).2.1 (hlow _ h1).2.2⟩
      rw [hr] at hmem
      cases hmem
    · obtain ⟨hj0, o, ho, hall⟩ := mem_ready.1 hj
      have hjs : j < ops.size := (Array.getElem?_eq_some_iff.1 ho).1
      have hnowait : ∀ i, (i ∈ hs ∨ i ∈ ms.map (·.j) ∨ s ≤ i) → i < ops.size → ∀ e ∈ o.after, Region.binds .any e = true → e.on ≠ i := by
        intro i hi his e he hb heq
        have h1 := hall e he hb
        have h2 := (hun i his).2 hi
        have his' : i < listed.size := by omega
        rw [heq] at h1
        simp [his'] at h1 h2
        rw [h1] at h2; cases h2
      have hsel := fun cs b => F.sel j o cs b ho
      have hset : ∀ i, i < ops.size → i ≠ j → ((listed.setIfInBounds j true).getD i true = false ↔ (i ∈ hs ∨ i ∈ ms.map (·.j) ∨ s ≤ i)) := fun i hi hij => by
        rw [getD_set_ne true (Ne.symm hij), hun i hi]
      have hset0 : ¬ ((listed.setIfInBounds j true).getD j true = false) := by
        have : j < listed.size := by omega
        simp only [Array.getD_eq_getD_getElem?, Array.getElem?_setIfInBounds_self_of_lt this, Option.getD_some]
        intro h; cases h
      have hdisj : ∀ i ∈ hs, i ∉ ms.map (·.j) ∧ i < s := fun i hi => by
        refine ⟨fun hm => ?_, ?_⟩
        · rw [List.mem_map] at hm
          obtain ⟨x, hx, rfl⟩ := hm
          have := hmi x hx; have := hlt x.j hi; omega
        · have := hlt i hi; omega
      have hhead : ∀ i ∈ hs, i ≠ j → ((j < n ∨ (n + k ≤ j ∧ j < n + k + m)) → i < j) → Apart ops i j := by
        intro i hi hij hij2 oi oj hoi hoj
        have h1 := hlt i hi
        rw [ho] at hoj; cases hoj
        rcases Nat.lt_or_ge i j with h | h
        · exact F.free i j oi o h1.1 h hoi ho (hnowait i (.inl hi) h1.2)
        · have h2 : ¬ (j < n ∨ (n + k ≤ j ∧ j < n + k + m)) := fun hh => by have := hij2 hh; omega
          exact F.behind i j oi o (by omega) (by omega) (by omega) (by omega) hoi ho
      rcases (hun j hjs).1 hj0 with hjh | hjm | hjl
      · -- reads, reckons, calls
        obtain ⟨pre, post, rfl⟩ := List.append_of_mem hjh
        have hpl : pre.length < vs.length := by rw [← hlen]; simp
        obtain ⟨vpre, vj, vpost, rfl, hvl⟩ : ∃ vpre vj vpost, vs = vpre ++ vj :: vpost ∧ pre.length = vpre.length := by
          refine ⟨vs.take pre.length, vs[pre.length], vs.drop (pre.length + 1), ?_, by simp; omega⟩
          rw [← List.drop_eq_getElem_cons hpl, List.take_append_drop]
        have hpj : ∀ i ∈ pre, Apart ops i j := by
          intro i hi
          have hij : i < j := by
            rw [List.pairwise_append] at hpw
            exact hpw.2.2 i hi j (List.mem_cons_self)
          exact hhead i (List.mem_append_left _ hi) (by omega) (fun _ => hij)
        have hY2 := fun v hv => yseq_pull (P := P) (C := CL T w v) F.sel (vj := vj) pre vpre a hvl hpj (hY v hv)
        obtain ⟨⟨oj, hoj, hy⟩, _⟩ := (hY2 u hu).1
        rw [ho] at hoj; cases hoj
        have hcl : CL T w u u := ⟨⟨u, hu, Below.refl _ _⟩, rfl⟩
        have hq : qOp P ops (CL T w u) j (fun a' => a' = a.put o.dst vj) a := hy.qOp ho rfl
        have hpe : puts ops (pre ++ post) (vpre ++ vpost) (a.put o.dst vj) = puts ops (pre ++ j :: post) (vpre ++ vj :: vpost) a := by
          have h1 := (hY2 u hu).2
          simp only [puts] at h1
          rw [dstOf_some ho] at h1
          exact h1.symm
        have hnd : j ∉ pre ++ post := by
          intro h
          rw [List.pairwise_append] at hpw
          rcases List.mem_append.1 h with h | h
          · have := hpw.2.2 j h j (List.mem_cons_self); omega
          · have := (List.pairwise_cons.1 hpw.2.1).1 j h; omega
        refine wpOp_of_qOp hcl (fun a' u' hu'' ha' => ?_) hq
        obtain ⟨x, rfl⟩ := hu''
        subst ha'
        refine ih (pre ++ post) ms ls s (vpre ++ vpost) _ _ x.u (by simp at hf ⊢; omega) (by simpa using hsz) hsm hn hls hsm0 ?_ ?_ hmi hmn ?_ (by simp at hlen ⊢; omega) ?_ x.h ?_ ?_
        · exact hpw.sublist (List.Sublist.append (List.Sublist.refl pre) (List.sublist_cons_self j post))
        · intro i hi
          refine hlt i ?_
          rcases List.mem_append.1 hi with h | h
          · exact List.mem_append_left _ h
          · exact List.mem_append_right _ (List.mem_cons_of_mem _ h)
        · intro i hi
          by_cases hij : i = j
          · subst hij
            have h5 := hdisj i hjh
            constructor
            · intro h; exact absurd h hset0
            · rintro (h | h | h)
              · exact absurd h hnd
              · exact absurd h h5.1
              · omega
          · rw [hset i hi hij]
            simp only [List.mem_append, List.mem_cons]
            constructor
            · rintro ((h | h | h) | h)
              · exact .inl (.inl h)
              · exact absurd h hij
              · exact .inl (.inr h)
              · exact .inr h
            · rintro ((h | h) | h)
              · exact .inl (.inl h)
              · exact .inl (.inr (.inr h))
              · exact .inr h
        · intro v hv
          have := (hY2 v hv).1.2
          rwa [dstOf_some ho] at this
        · rw [hpe]; exact hR
        · rw [hpe]; exact hL.later x.g
      · -- makes a block
        rw [List.mem_map] at hjm
        obtain ⟨x, hx, rfl⟩ := hjm
        have hxi := hmi x hx
        have hxo : x.o = o := by have := hxi.2.2; rw [ho] at this; exact (Option.some.inj this).symm
        obtain ⟨pre, post, rfl⟩ := List.append_of_mem hx
        have hap : ∀ i ∈ hs, (∃ o, ops[i]? = some o) ∧ Apart ops i x.j := by
          intro i hi
          have h1 := hlt i hi
          exact ⟨⟨ops[i]'h1.2, Array.getElem?_eq_getElem h1.2⟩, hhead i hi (by omega) (fun h => by omega)⟩
        have hnj : x.j ∉ (pre ++ post).map (·.j) := by
          rw [List.map_append, List.map_cons, List.nodup_append] at hmn
          rw [List.map_append, List.mem_append]
          rintro (h | h)
          · exact hmn.2.2 _ h _ (List.mem_cons_self) rfl
          · exact (List.nodup_cons.1 hmn.2.1).1 h
        have hmemab : ∀ y ∈ pre ++ post, y ∈ pre ++ x :: post := fun y hy => by
          rcases List.mem_append.1 hy with h | h
          · exact List.mem_append_left _ h
          · exact List.mem_append_right _ (List.mem_cons_of_mem _ h)
        have hxy : ∀ y ∈ pre ++ post, x.o.apart ops y.o = true ∧ y.o.apart ops x.o = true := fun y hy => by
          have hyi := hmi y (hmemab y hy)
          have hne : x.j ≠ y.j := fun h => hnj (by rw [List.mem_map]; exact ⟨y, hy, h.symm⟩)
          exact ⟨F.memApart x.j y.j x.o y.o hxi.1 hxi.2.1 hyi.1 hyi.2.1 hne hxi.2.2 hyi.2.2, F.memApart y.j x.j y.o x.o hyi.1 hyi.2.1 hxi.1 hxi.2.1 (Ne.symm hne) hyi.2.2 hxi.2.2⟩
        have hrun := hR x hx u
        rw [hxo, exec_puts hsel ho hs vs a hap] at hrun
        have hYn : ∀ v, Keeps T w v → YSeq P ops (CL T w v) hs vs (a.put o.dst (x.val u.heap.size)) := fun v hv => by
          have := yseq_put (P := P) (C := CL T w v) F.sel ho (x := x.val u.heap.size) hs vs a (fun i hi => (hap i hi).2) (hY v hv)
          rwa [dstOf_some ho] at this
        have hpn : puts ops hs vs (a.put o.dst (x.val u.heap.size)) = (puts ops hs vs a).put o.dst (x.val u.heap.size) := by
          have := puts_put ho (x := x.val u.heap.size) hs vs a hap
          rwa [dstOf_some ho] at this
        have hwp : o.wp P a u (wpAny P .any ops Q fuel (listed.setIfInBounds x.j true)) Q := by
          unfold Oper.wp
          rw [hrun]
          show wpAny P .any ops Q fuel (listed.setIfInBounds x.j true) (a.put o.dst (x.val u.heap.size)) (u.alloc x.obj)
          refine ih hs (pre ++ post) ls s vs _ _ (u.alloc x.obj) (by simp at hf ⊢; omega) (by simpa using hsz) hsm hn hls ?_ hpw hlt (fun y hy => hmi y (hmemab y hy)) ?_ ?_ hlen hYn (hu.alloc _) ?_ ?_
          · rcases hsm0 with h | h
            · exact .inl h
            · simp at h
          · rw [List.map_append, List.map_cons] at hmn
            rw [List.map_append]
            exact hmn.sublist (List.Sublist.append (List.Sublist.refl _) (List.sublist_cons_self _ _))
          · intro i hi
            by_cases hij : i = x.j
            · subst hij
              constructor
              · intro h; exact absurd h hset0
              · rintro (h | h | h)
                · have := hlt _ h; omega
                · exact absurd h hnj
                · omega
            · rw [hset i hi hij]
              simp only [List.map_append, List.mem_append, List.map_cons, List.mem_cons]
              constructor
              · rintro (h | (h | h | h) | h)
                · exact .inl h
                · exact .inr (.inl (.inl h))
                · exact absurd h hij
                · exact .inr (.inl (.inr h))
                · exact .inr (.inr h)
              · rintro (h | (h | h) | h)
                · exact .inl h
                · exact .inr (.inl (.inl h))
                · exact .inr (.inl (.inr (.inr h)))
                · exact .inr (.inr h)
          · intro y hy u2
            rw [hpn, ← hxo]
            have hys := F.sel y.j y.o
            have := execOp_put (ops := ops) y.o (fun cs b => hys cs b (hmi y (hmemab y hy)).2.2) (puts ops hs vs a) x.o.dst (x.val u.heap.size) (Oper.apart_spec (hxy y hy).1).1
            rw [this]
            exact hR y (hmemab y hy) u2
          · intro f u' hu' hfm hfn
            rw [hpn]
            have hb1 : u.heap.size < (u.alloc x.obj).heap.size := by simp
            have key := hL (fun j => if j = x.j then u.heap.size else f j) u' (((Below.refl _ _).alloc (Nat.le_refl _) x.obj).trans (hu'.mono (by simp)))
              (fun y hy => ?_) ?_
            · rw [putM_pull _ pre _ (fun y hy d hd hd2 => (Oper.apart_spec (hxy y (List.mem_append_left _ hy)).2).2.1 d hd hd2)] at key
              rw [if_pos rfl] at key
              rw [putM_congr (g := f) (pre ++ post) _ (fun y hy => if_neg (fun h => hnj (by rw [List.mem_map]; exact ⟨y, hy, h⟩)))] at key
              rw [← hxo]
              exact key
            · by_cases hyx : y.j = x.j
              · rw [if_pos hyx]
                have hyx' : y = x := by
                  rcases List.mem_append.1 hy with h | h
                  · exact absurd (by rw [← hyx, List.mem_map]; exact ⟨y, List.mem_append_left _ h, rfl⟩) hnj
                  · rcases List.mem_cons.1 h with h | h
                    · exact h
                    · exact absurd (by rw [← hyx, List.mem_map]; exact ⟨y, List.mem_append_right _ h, rfl⟩) hnj
                subst hyx'
                refine ⟨Nat.le_refl _, ?_⟩
                rw [hu'.block _ hb1]
                exact heap_alloc_new u _
              · rw [if_neg hyx]
                have hy' : y ∈ pre ++ post := by
                  rcases List.mem_append.1 hy with h | h
                  · exact List.mem_append_left _ h
                  · rcases List.mem_cons.1 h with h | h
                    · exact absurd (by rw [h]) hyx
                    · exact List.mem_append_right _ h
                have := hfm y hy'
                exact ⟨by omega, this.2⟩
            · rw [List.map_append, List.map_cons, if_pos rfl]
              have e1 : ∀ l : List ME, (∀ y ∈ l, y ∈ pre ++ post) → (l.map fun m => if m.j = x.j then u.heap.size else f m.j) = l.map fun m => f m.j := fun l hl => by
                refine List.map_congr_left (fun y hy => if_neg (fun h => hnj (by rw [List.mem_map]; exact ⟨y, hl y hy, h⟩)))
              rw [e1 pre (fun y hy => List.mem_append_left _ hy), e1 post (fun y hy => List.mem_append_right _ hy)]
              rw [List.map_append, List.nodup_append] at hfn
              have hge : ∀ z ∈ (pre ++ post), f z.j ≠ u.heap.size := fun z hz => by have := (hfm z hz).1; omega
              rw [List.nodup_append, List.nodup_cons]
              refine ⟨hfn.1, ⟨fun h => ?_, hfn.2.1⟩, fun p hp r hr => ?_⟩
              · rw [List.mem_map] at h
                obtain ⟨z, hz, hz2⟩ := h
                exact hge z (List.mem_append_right _ hz) hz2
              · rcases List.mem_cons.1 hr with h | h
                · subst h
                  rw [List.mem_map] at hp
                  obtain ⟨z, hz, rfl⟩ := hp
                  exact hge z (List.mem_append_left _ hz)
                · exact hfn.2.2 p hp r h
        unfold wpOp
        simp only [ho]
        rw [if_pos (by simp [Region.wanted, F.bare x.j o (.inl ⟨hxi.1, hxi.2.1⟩) ho])]
        exact .inl hwp
      · -- the next of the chain
        have hjs' : j = s := by
          rcases Nat.lt_or_ge s j with h | h
          · exfalso
            obtain ⟨e, he, hb, hon⟩ := F.chain j o (by omega) ho
            exact hnowait (j - 1) (.inr (.inr (by omega))) (by omega) e he hb hon
          · omega
        subst hjs'
        have hms : ms = [] := by
          rcases hsm0 with h | h
          · cases ms with
            | nil => rfl
            | cons x ms =>
              exfalso
              have hxi := hmi x List.mem_cons_self
              obtain ⟨e, he, hb, hon⟩ := F.memChain o (by rw [← h]; exact ho) x.j hxi.1 hxi.2.1
              exact hnowait x.j (.inr (.inl (by simp))) (by omega) e he hb hon
          · exact h
        subst hms
        obtain ⟨o', ls', rfl⟩ : ∃ o' ls', ls = o' :: ls' := by
          cases ls with
          | nil => simp at hsm; omega
          | cons o' ls' => exact ⟨o', ls', rfl⟩
        have ho' : o' = o := by have := hls 0; simp [ho] at this; exact this
        subst ho'
        have hap : ∀ i ∈ hs, (∃ o, ops[i]? = some o) ∧ Apart ops i j := by
          intro i hi
          have h1 := hlt i hi
          exact ⟨⟨ops[i]'h1.2, Array.getElem?_eq_getElem h1.2⟩, hhead i hi (by omega) (fun h => by omega)⟩
        have hls' : ∀ i, ls'[i]? = ops[j + 1 + i]? := fun i => by have := hls (i + 1); rw [show j + 1 + i = j + (i + 1) by omega, ← this]; rfl
        have hlate := hL (fun _ => 0) u (Below.refl _ _) (by simp) (by simp)
        have hex := exec_puts hsel ho hs vs a hap
        have hwp : o'.wp P a u (wpAny P .any ops Q fuel (listed.setIfInBounds j true)) Q := by
          simp only [putM, wpChain] at hlate
          unfold lateOp at hlate
          rw [hex] at hlate
          refine wp_of_late (K := fun v u' => Keeps T w u' ∧ ∀ u'', Below u'.heap.size u' u'' → wpChain P T w (Q .normal) ls' ((puts ops hs vs a).put o'.dst v) u'') hlate (fun v u' hl' => ?_)
          have hpn : puts ops hs vs (a.put o'.dst v) = (puts ops hs vs a).put o'.dst v := by
            have := puts_put ho (x := v) hs vs a hap
            rwa [dstOf_some ho] at this
          refine ih hs [] ls' (j + 1) vs _ _ u' (by simp at hf ⊢; omega) (by simpa using hsz) (by simp at hsm; omega) (by omega) hls' (.inr rfl) hpw hlt (by simp) (by simp) ?_ hlen (fun x hx => ?_) hl'.1 (by simp) (fun f u'' hu'' _ _ => ?_)
          · intro i hi
            by_cases hij : i = j
            · subst hij
              constructor
              · intro h; exact absurd h hset0
              · rintro (h | h | h)
                · have := hlt _ h; omega
                · cases h
                · omega
            · rw [hset i hi hij]
              constructor
              · rintro (h | h | h)
                · exact .inl h
                · exact .inr (.inl h)
                · exact .inr (.inr (by omega))
              · rintro (h | h | h)
                · exact .inl h
                · exact .inr (.inl h)
                · exact .inr (.inr (by omega))
          · have := yseq_put (P := P) (C := CL T w x) F.sel ho (x := v) hs vs a (fun i hi => (hap i hi).2) (hY x hx)
            rwa [dstOf_some ho] at this
          · rw [hpn]; exact hl'.2 u'' hu''
        unfold wpOp
        simp only [ho]
        rw [if_pos (by simp [Region.wanted, F.bare j o' (.inr (by omega)) ho])]
        exact .inl hwp
/-- The Bool over a region. -/
def memFit (l : List Oper) (n k m : Nat) : Bool :=
  Region.noSelect l.toArray && (l.zipIdx.all fun x => x.1.after.all fun e => !Region.binds .any e || decide (e.on < x.2)) &&
  ((List.range l.length).all fun i => (decide (n ≤ i) && decide (i < n + k)) || decide (n + k + m ≤ i) || (List.range l.length).all fun j => decide (j ≤ i) || apartFrom l i j) &&
  ((List.range l.length).all fun i => decide (i < n) || decide (n + k + m ≤ i) || (List.range k).all fun j => decide (i = n + j) || match l[i]?, l[n + j]? with | some oi, some oj => oi.apart l.toArray oj | _, _ => true) &&
  (l.zipIdx.all fun x => decide (x.2 ≤ n + k + m) || x.1.after.any fun e => Region.binds .any e && e.on == x.2 - 1) &&
  (match l[n + k + m]? with | some o => (List.range k).all fun i => o.after.any fun e => Region.binds .any e && e.on == n + i | none => true) &&
  (((l.drop n).take k ++ l.drop (n + k + m)).all fun o => o.guard.isNone) && decide (n + k + m ≤ l.length)

theorem fit2_of {n k m : Nat} {l : List Oper} (h : memFit l n k m = true) : Fit2 l.toArray n k m := by
  simp only [memFit, Bool.and_eq_true] at h
  obtain ⟨⟨⟨⟨⟨⟨⟨h1, h2⟩, h3⟩, h4⟩, h5⟩, h6⟩, h7⟩, hlen⟩ := h
  have hlen' : n + k + m ≤ l.length := by simpa using hlen
  have far : ∀ (i j : Nat) (oi oj : Oper), n ≤ i → i < n + k + m → n ≤ j → j < n + k → i ≠ j → l.toArray[i]? = some oi → l.toArray[j]? = some oj → oi.apart l.toArray oj = true := fun i j oi oj hi hi2 hj hj2 hne hoi hoj => by
    have hil : i < l.length := by
      have := (Array.getElem?_eq_some_iff.1 hoi).1; simpa using this
    have h8 := List.all_eq_true.1 h4 i (List.mem_range.2 hil)
    simp only [Bool.or_eq_true, decide_eq_true_eq] at h8
    rcases h8 with (h8 | h8) | h8
    · omega
    · omega
    · have h9 := List.all_eq_true.1 h8 (j - n) (List.mem_range.2 (by omega))
      have e1 : l[i]? = some oi := by simpa using hoi
      have e2 : l[n + (j - n)]? = some oj := by rw [show n + (j - n) = j by omega]; simpa using hoj
      simp only [e1, e2, Bool.or_eq_true, decide_eq_true_eq] at h9
      rcases h9 with h9 | h9
      · omega
      · exact h9
  refine ⟨fun j o cs b ho => Region.noSelect_spec h1 j o cs b ho, fun j o ho e he hb => ?_, fun i j oi oj hi hij hoi hoj hno => ?_, fun i j oi oj hi hi2 hj hj2 hoi hoj => far i j oi oj (by omega) hi2 hj hj2 (by omega) hoi hoj,
    fun i j oi oj hi hi2 hj hj2 hne hoi hoj => far i j oi oj hi (by omega) hj hj2 hne hoi hoj, fun j o hj ho => ?_, fun o ho i hi hi2 => ?_, fun j o hj ho => ?_⟩
  · have h8 := List.all_eq_true.1 h2 _ (mem_zipIdx_of (by simpa using ho))
    have h9 := Array.all_eq_true'.1 h8 e he
    simpa [hb] using h9
  · have hil : i < l.length := by
      have := (Array.getElem?_eq_some_iff.1 hoi).1; simpa using this
    have hjl : j < l.length := by
      have := (Array.getElem?_eq_some_iff.1 hoj).1; simpa using this
    have h8 := List.all_eq_true.1 h3 i (List.mem_range.2 hil)
    simp only [Bool.or_eq_true, Bool.and_eq_true, decide_eq_true_eq] at h8
    rcases h8 with (h8 | h8) | h8
    · omega
    · omega
    have h9 := List.all_eq_true.1 h8 j (List.mem_range.2 hjl)
    have e1 : l[i]? = some oi := by simpa using hoi
    have e2 : l[j]? = some oj := by simpa using hoj
    simp only [apartFrom, e1, e2, Bool.or_eq_true, decide_eq_true_eq] at h9
    rcases h9 with h9 | h9 | h9
    · omega
    · obtain ⟨e, he, hb⟩ := Array.any_eq_true'.1 h9
      simp only [Bool.and_eq_true, beq_iff_eq] at hb
      exact absurd hb.2 (hno e he hb.1)
    · exact h9
  · have h8 := List.all_eq_true.1 h5 _ (mem_zipIdx_of (by simpa using ho))
    simp only [Bool.or_eq_true, decide_eq_true_eq] at h8
    rcases h8 with h8 | h8
    · omega
    · obtain ⟨e, he, hb⟩ := Array.any_eq_true'.1 h8
      simp only [Bool.and_eq_true, beq_iff_eq] at hb
      exact ⟨e, he, hb.1, hb.2⟩
  · have e1 : l[n + k + m]? = some o := by simpa using ho
    simp only [e1] at h6
    have h8 := List.all_eq_true.1 h6 (i - n) (List.mem_range.2 (by omega))
    obtain ⟨e, he, hb⟩ := Array.any_eq_true'.1 h8
    simp only [Bool.and_eq_true, beq_iff_eq] at hb
    exact ⟨e, he, hb.1, by omega⟩
  · have h8 : o ∈ (l.drop n).take k ++ l.drop (n + k + m) := by
      rw [List.mem_append]
      rcases hj with hj | hj
      · left
        rw [List.mem_iff_getElem?]
        exact ⟨j - n, by rw [List.getElem?_take_of_lt (by omega), List.getElem?_drop, show n + (j - n) = j by omega]; simpa using ho⟩
      · right
        rw [List.mem_iff_getElem?]
        exact ⟨j - (n + k + m), by rw [List.getElem?_drop, show n + k + m + (j - (n + k + m)) = j by omega]; simpa using ho⟩
    have := List.all_eq_true.1 h7 o h8
    simpa using this

/-- The makers in A: each makes this block, and answers so by the block's number. -/
def memRuns (P : Program) (A : Act) : List Oper → List (Obj × (Nat → Value)) → Prop
  | o :: os, b :: bs => (∀ u : World, (execOp A.eval o).run P u = .ok (.value (b.2 u.heap.size)) (u.alloc b.1)) ∧ memRuns P A os bs
  | [], [] => True
  | _, _ => False
/-- With whatever new blocks. -/
def memK (u u' : World) (K : Act → Prop) : List Oper → List (Obj × (Nat → Value)) → List Nat → Act → Prop
  | o :: os, b :: bs, ps, A => ∀ p, u.heap.size ≤ p → p ∉ ps → u'.heap[p]? = some b.1 → memK u u' K os bs (p :: ps) (A.put o.dst (b.2 p))
  | _, _, _, A => K A
def mesOf : Nat → List Oper → List (Obj × (Nat → Value)) → List ME
  | j, o :: os, b :: bs => ⟨j, o, b.1, b.2⟩ :: mesOf (j + 1) os bs
  | _, _, _ => []

theorem mesOf_mem {P : Program} {A : Act} : ∀ (os : List Oper) (bs : List (Obj × (Nat → Value))) (j : Nat), memRuns P A os bs → ∀ x ∈ mesOf j os bs,
    j ≤ x.j ∧ x.j < j + os.length ∧ os[x.j - j]? = some x.o ∧ ∀ u : World, (execOp A.eval x.o).run P u = .ok (.value (x.val u.heap.size)) (u.alloc x.obj)
  | o :: os, b :: bs, j, h, x, hx => by
    simp only [mesOf, List.mem_cons] at hx
    rcases hx with rfl | hx
    · exact ⟨Nat.le_refl _, by simp, by simp, h.1⟩
    · obtain ⟨h1, h2, h3, h4⟩ := mesOf_mem os bs (j + 1) h.2 x hx
      refine ⟨by omega, by simp; omega, ?_, h4⟩
      rw [show x.j - j = (x.j - (j + 1)) + 1 by omega, List.getElem?_cons_succ]
      exact h3
  | [], [], _, _, x, hx => by simp [mesOf] at hx
  | [], _ :: _, _, h, _, _ => h.elim
  | _ :: _, [], _, h, _, _ => h.elim
theorem mesOf_js {P : Program} {A : Act} : ∀ (os : List Oper) (bs : List (Obj × (Nat → Value))) (j : Nat), memRuns P A os bs → (mesOf j os bs).map (·.j) = List.range' j os.length
  | o :: os, b :: bs, j, h => by
    simp only [mesOf, List.map_cons, List.length_cons, List.range'_succ]
    rw [mesOf_js os bs (j + 1) h.2]
  | [], [], _, _ => rfl
  | [], _ :: _, _, h => h.elim
  | _ :: _, [], _, h => h.elim
theorem memK_run {P : Program} {B : Act} {u u' : World} {K : Act → Prop} {f : Nat → Nat} : ∀ (os : List Oper) (bs : List (Obj × (Nat → Value))) (j : Nat) (ps : List Nat) (A : Act), memRuns P B os bs → memK u u' K os bs ps A →
    (∀ m ∈ mesOf j os bs, u.heap.size ≤ f m.j ∧ u'.heap[f m.j]? = some m.obj) → ((mesOf j os bs).map fun m => f m.j).Nodup → (∀ m ∈ mesOf j os bs, f m.j ∉ ps) → K (putM (mesOf j os bs) f A)
  | o :: os, b :: bs, j, ps, A, hr, h, hm, hn, hp => by
    simp only [mesOf, putM]
    simp only [mesOf, List.map_cons, List.nodup_cons] at hn
    have h0 := hm ⟨j, o, b.1, b.2⟩ (by simp [mesOf])
    refine memK_run os bs (j + 1) (f j :: ps) _ hr.2 (h (f j) h0.1 (hp ⟨j, o, b.1, b.2⟩ (by simp [mesOf])) h0.2) (fun m hmm => hm m (by simp [mesOf, hmm])) hn.2 (fun m hmm => ?_)
    rw [List.mem_cons]
    rintro (he | he)
    · exact hn.1 (he ▸ List.mem_map_of_mem (f := fun m : ME => f m.j) hmm)
    · exact hp m (by simp [mesOf, hmm]) he
  | [], [], _, _, _, _, h, _, _, _ => h
  | [], _ :: _, _, _, _, h, _, _, _, _ => h.elim
  | _ :: _, [], _, _, _, h, _, _, _, _ => h.elim

/-- A region that draws its order, of which the operations n to n + k make a block each, those from n + k + m on follow in a chain, and all others only read, reckon or call functions that only make memory. -/
theorem region_mem {id : Nat} {a : Act} {l : List Oper} (n k m : Nat) (T : List Nat) (hm : P.follows .mixedOrders = true) (hB : memFit l n k m = true) (hp : placesFit (l.take n ++ (l.drop (n + k)).take m) a.tmps.size = true) (bs : List (Obj × (Nat → Value)))
    (h : ∃ A, (∀ v, Keeps T w v → Nonempty (Later T w v) → wpQuiet P l.toArray (fun w' => ∃ x : Later T w v, w' = x.u) (fun a' => a' = A) (l.take n ++ (l.drop (n + k)).take m) a) ∧ memRuns P A ((l.drop n).take k) bs ∧
      (∀ u u', Below w.heap.size w u → Below u.heap.size u u' → memK u u' (fun A' => wpChain P T w (Q .normal) (l.drop (n + k + m)) A' u') ((l.drop n).take k) bs [] A)) : (Code.region id l.toArray true).wp P Q a w := by
  obtain ⟨A, hq, hr, hl⟩ := h
  have F := fit2_of hB
  have hnl : n + k + m ≤ l.length := by simp only [memFit, Bool.and_eq_true, decide_eq_true_eq] at hB; exact hB.2
  simp only [placesFit, Bool.and_eq_true, decide_eq_true_eq] at hp
  have hlenq : (l.take n ++ (l.drop (n + k)).take m).length = (List.range' 0 n ++ List.range' (n + k) m).length := by simp; omega
  have hidx : ∀ (j i : Nat), (List.range' 0 n ++ List.range' (n + k) m)[j]? = some i → (l.take n ++ (l.drop (n + k)).take m)[j]? = l.toArray[i]? := by
    intro j i hj
    rw [List.getElem?_append] at hj ⊢
    simp only [List.length_range', List.length_take] at hj ⊢
    rw [show min n l.length = n by omega]
    split at hj
    · rename_i hjn
      rw [if_pos hjn]
      rw [List.getElem?_range' hjn] at hj
      simp only [Option.some.injEq] at hj
      subst hj
      rw [List.getElem?_take_of_lt hjn]; simp
    · rename_i hjn
      rw [if_neg hjn]
      rw [List.getElem?_eq_some_iff] at hj
      obtain ⟨hj3, hj4⟩ := hj
      simp only [List.getElem_range'] at hj4
      have hj5 : j - n < m := by simpa using hj3
      rw [List.getElem?_take_of_lt hj5, List.getElem?_drop]
      simp
      congr 1
      omega
  have hY := fun v hv => yseq_of_quiet (P := P) (ops := l.toArray) (C := CL T w v) (A := A) (l.take n ++ (l.drop (n + k)).take m) _ a hlenq hidx (fun o ho => by
      have := List.all_eq_true.1 hp.1 o ho
      cases hd : o.dst with
      | none => rw [hd] at this; cases this
      | some d => rw [hd] at this; exact ⟨d, rfl, by simpa using this⟩) hp.2 (hq v hv ⟨⟨v, hv, Below.refl _ _⟩⟩)
  refine wp_region_any hm ?_
  have hw0 : Below w.heap.size w w.drew := (Below.refl _ _).drew
  have hmem : ∀ i, i ∈ List.range' 0 n ++ List.range' (n + k) m ↔ (i < n ∨ (n + k ≤ i ∧ i < n + k + m)) := fun i => by
    rw [List.mem_append, List.mem_range'_1, List.mem_range'_1]; omega
  have hk : ((l.drop n).take k).length = k := by simp; omega
  have hmm := mesOf_mem ((l.drop n).take k) bs n hr
  have hjs := mesOf_js ((l.drop n).take k) bs n hr
  rw [hk] at hjs
  have hml : (mesOf n ((l.drop n).take k) bs).length = k := by rw [← List.length_map (f := fun x : ME => x.j), hjs]; simp
  have e1 := (hY w (Keeps.refl _ _)).2
  have := mem_main (P := P) (T := T) (w := w) (Q := Q) F l.toArray.size (List.range' 0 n ++ List.range' (n + k) m) (mesOf n ((l.drop n).take k) bs) (l.drop (n + k + m)) (n + k + m) _ (Array.replicate l.toArray.size false) a w.drew
    (by simp [hml]; omega) (by simp) (by simp; omega) (Nat.le_refl _) (fun i => by rw [List.getElem?_drop]; simp) (.inl rfl)
    (by
      rw [List.pairwise_append]
      refine ⟨List.pairwise_lt_range', List.pairwise_lt_range', fun x hx y hy => ?_⟩
      have := List.mem_range'_1.1 hx
      have := List.mem_range'_1.1 hy
      omega) (fun i hi => by have := (hmem i).1 hi; simp; omega)
    (fun x hx => by
      obtain ⟨h1, h2, h3, _⟩ := hmm x hx
      rw [hk] at h2
      refine ⟨h1, h2, ?_⟩
      rw [List.getElem?_take_of_lt (by omega), List.getElem?_drop, show n + (x.j - n) = x.j by omega] at h3
      simpa using h3) (by rw [hjs]; exact List.nodup_range')
    (fun i hi => by
      have hi' : i < l.length := by simpa using hi
      rw [hmem, hjs, List.mem_range'_1]
      simp [hi']
      omega) (by rw [List.length_map]; exact hlenq.symm) (fun v hv => (hY v hv).1) (Keeps.of_below hw0) (fun x hx u => by rw [e1]; exact (hmm x hx).2.2.2 u) (by
      rw [e1]
      intro f u' hu' hfm hfn
      exact memK_run ((l.drop n).take k) bs n [] A hr (hl w.drew u' hw0 hu') hfm hfn (by simp))
  exact this
end

theorem chain_nil {P : Program} {T : List Nat} {w : World} {Q : Act → World → Prop} {A : Act} {u : World} (h : Q A u) : wpChain P T w Q [] A u := h
theorem chain_mem {P : Program} {T : List Nat} {w : World} {Q : Act → World → Prop} {o : Oper} {os : List Oper} {A : Act} {u : World}
    (h : ∀ K : Value → World → Prop, (∀ v u', Keeps T w u' → (∀ u'', Below u'.heap.size u' u'' → wpChain P T w Q os (A.put o.dst v) u'') → K v u') → lateOp P o A u K) : wpChain P T w Q (o :: os) A u :=
  h _ fun _ _ h1 h2 => ⟨h1, h2⟩
end Go.Proofs.Ytccnlnkgoaelpaa
