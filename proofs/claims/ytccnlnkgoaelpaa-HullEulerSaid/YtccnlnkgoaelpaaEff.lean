/- A region that draws its order: some operations, wherever they stand before number c, make memory and answer by it (alloc, buildSlice, a call that returns a slice), in whatever order; from c on the operations follow each other in a chain; all others only read, reckon or call functions that only make memory. Guards whose value is known are allowed everywhere. No condition. -/
import Derived.Test.YtccnlnkgoaelpaaMem
namespace Go.Proofs.Ytccnlnkgoaelpaa
open Go.RowKit

section
variable {P : Program} {ops : Array Oper} {T : List Nat} {w : World} {Q : Exit → Act → World → Prop}

def effChain (P : Program) (ops : Array Oper) (T : List Nat) (w : World) (Q : Act → World → Prop) : List Oper → Act → World → Prop
  | [], A, u => Q A u
  | o :: os, A, u => Region.wanted o (yielded ops A.tmps) = true ∧ lateOp P o A u (fun v u' => Keeps T w u' ∧ ∀ u'', Below u'.heap.size u' u'' → effChain P ops T w Q os (A.put o.dst v) u'')

/-- An operation that makes memory: its number, itself, its value by a block's number and a number, and what it leaves behind, which lasts. -/
structure EF where
  j : Nat
  o : Oper
  val : Nat × Nat → Value
  R : Nat × Nat → World → Prop
  st : ∀ a u u', R a u → Below u.heap.size u u' → R a u'
def putE : List EF → (Nat → Nat × Nat) → Act → Act
  | [], _, A => A
  | m :: ms, f, A => putE ms f (A.put m.o.dst (m.val (f m.j)))
def AEff (P : Program) (ops : Array Oper) (T : List Nat) (w : World) (Q : Act → World → Prop) (ls : List Oper) (ms : List EF) (A : Act) (u : World) : Prop :=
  ∀ (f : Nat → Nat × Nat) (u' : World), Below u.heap.size u u' → (∀ m ∈ ms, u.heap.size ≤ (f m.j).1 ∧ (f m.j).1 < u'.heap.size ∧ m.R (f m.j) u') → (ms.map fun m => (f m.j).1).Nodup → effChain P ops T w Q ls (putE ms f A) u'
theorem AEff.later {ls : List Oper} {ms : List EF} {A : Act} {u v : World} {Q : Act → World → Prop} (h : AEff P ops T w Q ls ms A u) (hv : Below u.heap.size u v) : AEff P ops T w Q ls ms A v :=
  fun f u' hu hm hn => h f u' (hv.trans (hu.mono hv.size)) (fun m hm' => ⟨Nat.le_trans hv.size (hm m hm').1, (hm m hm').2⟩) hn

theorem putE_pull (f : Nat → Nat × Nat) {m : EF} {post : List EF} : ∀ (pre : List EF) (A : Act), (∀ x ∈ pre, ∀ d, x.o.dst = some d → m.o.dst ≠ some d) →
    putE (pre ++ m :: post) f A = putE (pre ++ post) f (A.put m.o.dst (m.val (f m.j)))
  | [], _, _ => rfl
  | x :: pre, A, h => by
    simp only [List.cons_append, putE]
    rw [putE_pull f pre _ (fun y hy => h y (List.mem_cons_of_mem _ hy)), Act.put_comm A _ _ (h x (List.mem_cons_self))]
theorem putE_congr {f g : Nat → Nat × Nat} : ∀ (ms : List EF) (A : Act), (∀ m ∈ ms, f m.j = g m.j) → putE ms f A = putE ms g A
  | [], _, _ => rfl
  | m :: ms, A, h => by
    simp only [putE]
    rw [h m (List.mem_cons_self), putE_congr ms _ (fun x hx => h x (List.mem_cons_of_mem _ hx))]

/-- What the Bool below says: mi the makers, c the number where the chain begins. -/
structure Fit3 (ops : Array Oper) (mi : List Nat) (c : Nat) : Prop where
  lt : ∀ i ∈ mi, i < c
  sel : ∀ (j : Nat) (o : Oper) cs b, ops[j]? = some o → o.op ≠ .select cs b
  back : ∀ (j : Nat) (o : Oper), ops[j]? = some o → ∀ e ∈ o.after, Region.binds .any e = true → e.on < j
  free : ∀ (i j : Nat) (oi oj : Oper), i < c → i ∉ mi → i < j → ops[i]? = some oi → ops[j]? = some oj → (∀ e ∈ oj.after, Region.binds .any e = true → e.on ≠ i) → oi.apart ops oj = true
  behind : ∀ (i j : Nat) (oi oj : Oper), i < c → i ∉ mi → j ∈ mi → j < i → ops[i]? = some oi → ops[j]? = some oj → oi.apart ops oj = true
  memApart : ∀ (i j : Nat) (oi oj : Oper), i ∈ mi → j ∈ mi → i ≠ j → ops[i]? = some oi → ops[j]? = some oj → oi.apart ops oj = true
  chain : ∀ (j : Nat) (o : Oper), c < j → ops[j]? = some o → ∃ e ∈ o.after, Region.binds .any e = true ∧ e.on = j - 1
  memChain : ∀ (o : Oper), ops[c]? = some o → ∀ i ∈ mi, ∃ e ∈ o.after, Region.binds .any e = true ∧ e.on = i

theorem wanted_puts {o : Oper} {t : Nat} (ht : ops[t]? = some o) :
    ∀ (hs : List Nat) (vs : List Value) (a : Act), (∀ i ∈ hs, (∃ o, ops[i]? = some o) ∧ Apart ops i t) → Region.wanted o (yielded ops (puts ops hs vs a).tmps) = Region.wanted o (yielded ops a.tmps)
  | [], _, _, _ => by simp [puts]
  | _ :: _, [], _, _ => by simp [puts]
  | i :: hs, v :: vs, a, hap => by
    obtain ⟨⟨oi, hoi⟩, h1⟩ := hap i (List.mem_cons_self)
    simp only [puts]
    rw [wanted_puts ht hs vs _ (fun k hk => hap k (List.mem_cons_of_mem _ hk)), dstOf_some hoi]
    exact wanted_put (ops := ops) o a oi.dst v (Oper.apart_spec (h1 oi o hoi ht)).1

theorem eff_main {mi : List Nat} {c : Nat} (F : Fit3 ops mi c) : ∀ (fuel : Nat) (hs : List Nat) (ms : List EF) (ls : List Oper) (s : Nat) (vs : List Value) (listed : Array Bool) (a : Act) (u : World),
    fuel = hs.length + ms.length + ls.length → listed.size = ops.size → s + ls.length = ops.size → c ≤ s → (∀ i, ls[i]? = ops[s + i]?) → (s = c ∨ ms = []) → hs.Pairwise (· < ·) →
    (∀ i ∈ hs, (i < c ∧ i ∉ mi) ∧ i < ops.size) → (∀ x ∈ ms, x.j ∈ mi ∧ ops[x.j]? = some x.o) → (ms.map (·.j)).Nodup →
    (∀ i, i < ops.size → (listed.getD i true = false ↔ (i ∈ hs ∨ i ∈ ms.map (·.j) ∨ s ≤ i))) → hs.length = vs.length →
    (∀ v, Keeps T w v → YSeq P ops (CL T w v) hs vs a) → Keeps T w u →
    (∀ x ∈ ms, Region.wanted x.o (yielded ops (puts ops hs vs a).tmps) = true ∧ ∀ u, Keeps T w u → lateOp P x.o (puts ops hs vs a) u (fun v u' => ∃ p, v = x.val p ∧ u.heap.size ≤ p.1 ∧ p.1 < u'.heap.size ∧ Below u.heap.size u u' ∧ x.R p u')) →
    AEff P ops T w (Q .normal) ls ms (puts ops hs vs a) u → wpAny P .any ops Q fuel listed a u := by
  intro fuel
  induction fuel with
  | zero =>
    intro hs ms ls s vs listed a u hf hsz hsm hn hls hsm0 _ hlt hmi hmn hun hlen hY hu hR hL
    have h1 : hs = [] := by cases hs with | nil => rfl | cons => simp at hf; omega
    have h2 : ms = [] := by cases ms with | nil => rfl | cons => simp at hf; omega
    have h3 : ls = [] := by cases ls with | nil => rfl | cons => simp at hf
    subst h1; subst h2; subst h3
    have h3 : vs = [] := by cases vs with | nil => rfl | cons => simp at hlen
    subst h3
    refine ⟨?_, hL (fun _ => (0, 0)) u (Below.refl _ _) (by simp) (by simp)⟩
    rw [List.eq_nil_iff_forall_not_mem]
    intro j hj
    obtain ⟨h4, o, ho, _⟩ := mem_ready.1 hj
    have hjs : j < ops.size := (Array.getElem?_eq_some_iff.1 ho).1
    rcases (hun j hjs).1 h4 with h5 | h5 | h5
    · cases h5
    · cases h5
    · simp at hsm; omega
  | succ fuel ih =>
    intro hs ms ls s vs listed a u hf hsz hsm hn hls hsm0 hpw hlt hmi hmn hun hlen hY hu hR hL
    have hlisted : ∀ i, i < ops.size → i ∉ hs → i ∉ ms.map (·.j) → i < s → listed.getD i false = true := by
      intro i hi h1 h2 h0
      have h3 : ¬ (listed.getD i true = false) := fun h => by
        rcases (hun i hi).1 h with h | h | h
        · exact h1 h
        · exact h2 h
        · omega
      have hi' : i < listed.size := by omega
      simp [hi'] at h3 ⊢
      exact h3
    -- the least that is left
    have hleast : ∃ i, i < ops.size ∧ (i ∈ hs ∨ i ∈ ms.map (·.j) ∨ s ≤ i) ∧ (∀ x, x < i → x ∉ hs ∧ x ∉ ms.map (·.j) ∧ x < s) := by
      have hex : ∃ i, i < ops.size ∧ (i ∈ hs ∨ i ∈ ms.map (·.j) ∨ s ≤ i) := by
        cases hs with
        | cons i hs => exact ⟨i, (hlt i List.mem_cons_self).2, .inl List.mem_cons_self⟩
        | nil =>
          cases ms with
          | cons x ms =>
            have hx := hmi x List.mem_cons_self
            exact ⟨x.j, (Array.getElem?_eq_some_iff.1 hx.2).1, .inr (.inl (by simp))⟩
          | nil => exact ⟨s, by simp at hf; omega, .inr (.inr (Nat.le_refl _))⟩
      have hdec : ∀ b, (∃ i, i < b ∧ i < ops.size ∧ (i ∈ hs ∨ i ∈ ms.map (·.j) ∨ s ≤ i)) → ∃ i, i < ops.size ∧ (i ∈ hs ∨ i ∈ ms.map (·.j) ∨ s ≤ i) ∧ (∀ x, x < i → x ∉ hs ∧ x ∉ ms.map (·.j) ∧ x < s) := by
        intro b
        induction b with
        | zero => rintro ⟨i, h, _⟩; omega
        | succ b ihb =>
          rintro ⟨i, hib, his, hin⟩
          by_cases hsm : ∃ i, i < b ∧ i < ops.size ∧ (i ∈ hs ∨ i ∈ ms.map (·.j) ∨ s ≤ i)
          · exact ihb hsm
          · have hib' : i = b := by
              by_cases h : i < b
              · exact absurd ⟨i, h, his, hin⟩ hsm
              · omega
            subst hib'
            refine ⟨i, his, hin, fun x hx => ⟨fun h => hsm ⟨x, hx, by omega, .inl h⟩, fun h => hsm ⟨x, hx, by omega, .inr (.inl h)⟩, ?_⟩⟩
            by_cases hxs : x < s
            · exact hxs
            · exact absurd ⟨x, hx, by omega, .inr (.inr (by omega))⟩ hsm
      obtain ⟨i, h1, h2⟩ := hex
      exact hdec (i + 1) ⟨i, by omega, h1, h2⟩
    refine ⟨fun hr => ?_, fun j hj => ?_⟩
    · exfalso
      obtain ⟨i, hi, hin, hlow⟩ := hleast
      have hmem : i ∈ Region.ready .any ops listed := mem_ready.2 ⟨(hun i hi).2 hin, ops[i], Array.getElem?_eq_getElem hi, fun e he hb => by
        have h1 := F.back i ops[i] (Array.getElem?_eq_getElem hi) e he hb
        exact hlisted _ (by omega) (hlow _ h1).1 (hlow _ h1).2.1 (hlow _ h1).2.2⟩
      rw [hr] at hmem
      cases hmem
    · obtain ⟨hj0, o, ho, hall⟩ := mem_ready.1 hj
      have hjs : j < ops.size := (Array.getElem?_eq_some_iff.1 ho).1
      have hnowait : ∀ i, (i ∈ hs ∨ i ∈ ms.map (·.j) ∨ s ≤ i) → i < ops.size → ∀ e ∈ o.after, Region.binds .any e = true → e.on ≠ i := by
        intro i hi his e he hb heq
        have h1 := hall e he hb
        have h2 := (hun i his).2 hi
        have his' : i < listed.size := by omega
        rw [heq] at h1
        simp [his'] at h1 h2
        rw [h1] at h2; cases h2
      have hsel := fun cs b => F.sel j o cs b ho
      have hset : ∀ i, i < ops.size → i ≠ j → ((listed.setIfInBounds j true).getD i true = false ↔ (i ∈ hs ∨ i ∈ ms.map (·.j) ∨ s ≤ i)) := fun i hi hij => by
        rw [getD_set_ne true (Ne.symm hij), hun i hi]
      have hset0 : ¬ ((listed.setIfInBounds j true).getD j true = false) := by
        have : j < listed.size := by omega
        simp only [Array.getD_eq_getD_getElem?, Array.getElem?_setIfInBounds_self_of_lt this, Option.getD_some]
        intro h; cases h
      have hdisj : ∀ i ∈ hs, i ∉ ms.map (·.j) ∧ i < s := fun i hi => by
        refine ⟨fun hm => ?_, ?_⟩
        · rw [List.mem_map] at hm
          obtain ⟨x, hx, rfl⟩ := hm
          exact (hlt x.j hi).1.2 (hmi x hx).1
        · have := (hlt i hi).1.1; omega
      have hhead : ∀ i ∈ hs, i ≠ j → (j < c → j ∉ mi → i < j) → Apart ops i j := by
        intro i hi hij hij2 oi oj hoi hoj
        have h1 := hlt i hi
        rw [ho] at hoj; cases hoj
        rcases Nat.lt_or_ge i j with h | h
        · exact F.free i j oi o h1.1.1 h1.1.2 h hoi ho (hnowait i (.inl hi) h1.2)
        · have h2 : j ∈ mi := by
            rcases Classical.em (j ∈ mi) with hh | hh
            · exact hh
            · have h3 := h1.1.1
              have := hij2 (by omega) hh; omega
          exact F.behind i j oi o h1.1.1 h1.1.2 h2 (by omega) hoi ho
      rcases (hun j hjs).1 hj0 with hjh | hjm | hjl
      · -- reads, reckons, calls
        obtain ⟨pre, post, rfl⟩ := List.append_of_mem hjh
        have hpl : pre.length < vs.length := by rw [← hlen]; simp
        obtain ⟨vpre, vj, vpost, rfl, hvl⟩ : ∃ vpre vj vpost, vs = vpre ++ vj :: vpost ∧ pre.length = vpre.length := by
          refine ⟨vs.take pre.length, vs[pre.length], vs.drop (pre.length + 1), ?_, by simp; omega⟩
          rw [← List.drop_eq_getElem_cons hpl, List.take_append_drop]
        have hpj : ∀ i ∈ pre, Apart ops i j := by
          intro i hi
          have hij : i < j := by
            rw [List.pairwise_append] at hpw
            exact hpw.2.2 i hi j (List.mem_cons_self)
          exact hhead i (List.mem_append_left _ hi) (by omega) (fun _ _ => hij)
        have hY2 := fun v hv => yseq_pull (P := P) (C := CL T w v) F.sel (vj := vj) pre vpre a hvl hpj (hY v hv)
        obtain ⟨⟨oj, hoj, hy⟩, _⟩ := (hY2 u hu).1
        rw [ho] at hoj; cases hoj
        have hcl : CL T w u u := ⟨⟨u, hu, Below.refl _ _⟩, rfl⟩
        have hq : qOp P ops (CL T w u) j (fun a' => a' = a.put o.dst vj) a := hy.qOp ho rfl
        have hpe : puts ops (pre ++ post) (vpre ++ vpost) (a.put o.dst vj) = puts ops (pre ++ j :: post) (vpre ++ vj :: vpost) a := by
          have h1 := (hY2 u hu).2
          simp only [puts] at h1
          rw [dstOf_some ho] at h1
          exact h1.symm
        have hnd : j ∉ pre ++ post := by
          intro h
          rw [List.pairwise_append] at hpw
          rcases List.mem_append.1 h with h | h
          · have := hpw.2.2 j h j (List.mem_cons_self); omega
          · have := (List.pairwise_cons.1 hpw.2.1).1 j h; omega
        refine wpOp_of_qOp hcl (fun a' u' hu'' ha' => ?_) hq
        obtain ⟨x, rfl⟩ := hu''
        subst ha'
        refine ih (pre ++ post) ms ls s (vpre ++ vpost) _ _ x.u (by simp at hf ⊢; omega) (by simpa using hsz) hsm hn hls hsm0 ?_ ?_ hmi hmn ?_ (by simp at hlen ⊢; omega) ?_ x.h ?_ ?_
        · exact hpw.sublist (List.Sublist.append (List.Sublist.refl pre) (List.sublist_cons_self j post))
        · intro i hi
          refine hlt i ?_
          rcases List.mem_append.1 hi with h | h
          · exact List.mem_append_left _ h
          · exact List.mem_append_right _ (List.mem_cons_of_mem _ h)
        · intro i hi
          by_cases hij : i = j
          · subst hij
            have h5 := hdisj i hjh
            constructor
            · intro h; exact absurd h hset0
            · rintro (h | h | h)
              · exact absurd h hnd
              · exact absurd h h5.1
              · omega
          · rw [hset i hi hij]
            simp only [List.mem_append, List.mem_cons]
            constructor
            · rintro ((h | h | h) | h)
              · exact .inl (.inl h)
              · exact absurd h hij
              · exact .inl (.inr h)
              · exact .inr h
            · rintro ((h | h) | h)
              · exact .inl (.inl h)
              · exact .inl (.inr (.inr h))
              · exact .inr h
        · intro v hv
          have := (hY2 v hv).1.2
          rwa [dstOf_some ho] at this
        · rw [hpe]; exact hR
        · rw [hpe]; exact hL.later x.g
      · -- makes a block
        rw [List.mem_map] at hjm
        obtain ⟨x, hx, rfl⟩ := hjm
        have hxi := hmi x hx
        have hxo : x.o = o := by have := hxi.2; rw [ho] at this; exact (Option.some.inj this).symm
        obtain ⟨pre, post, rfl⟩ := List.append_of_mem hx
        have hap : ∀ i ∈ hs, (∃ o, ops[i]? = some o) ∧ Apart ops i x.j := by
          intro i hi
          have h1 := hlt i hi
          exact ⟨⟨ops[i]'h1.2, Array.getElem?_eq_getElem h1.2⟩, hhead i hi (fun e => h1.1.2 (e ▸ hxi.1)) (fun _ h => absurd hxi.1 h)⟩
        have hnj : x.j ∉ (pre ++ post).map (·.j) := by
          rw [List.map_append, List.map_cons, List.nodup_append] at hmn
          rw [List.map_append, List.mem_append]
          rintro (h | h)
          · exact hmn.2.2 _ h _ (List.mem_cons_self) rfl
          · exact (List.nodup_cons.1 hmn.2.1).1 h
        have hmemab : ∀ y ∈ pre ++ post, y ∈ pre ++ x :: post := fun y hy => by
          rcases List.mem_append.1 hy with h | h
          · exact List.mem_append_left _ h
          · exact List.mem_append_right _ (List.mem_cons_of_mem _ h)
        have hxy : ∀ y ∈ pre ++ post, x.o.apart ops y.o = true ∧ y.o.apart ops x.o = true := fun y hy => by
          have hyi := hmi y (hmemab y hy)
          have hne : x.j ≠ y.j := fun h => hnj (by rw [List.mem_map]; exact ⟨y, hy, h.symm⟩)
          exact ⟨F.memApart x.j y.j x.o y.o hxi.1 hyi.1 hne hxi.2 hyi.2, F.memApart y.j x.j y.o x.o hyi.1 hxi.1 (Ne.symm hne) hyi.2 hxi.2⟩
        have hrun := (hR x hx).2 u hu
        have hwant := (hR x hx).1
        rw [hxo] at hrun hwant
        unfold lateOp at hrun
        rw [exec_puts hsel ho hs vs a hap] at hrun
        rw [wanted_puts ho hs vs a hap] at hwant
        have hwp : o.wp P a u (wpAny P .any ops Q fuel (listed.setIfInBounds x.j true)) Q := by
          refine wp_of_late (K := fun v u' => ∃ p, v = x.val p ∧ u.heap.size ≤ p.1 ∧ p.1 < u'.heap.size ∧ Below u.heap.size u u' ∧ x.R p u') hrun (fun v u1 hv => ?_)
          obtain ⟨p, rfl, hp1, hp2, hub, hxR⟩ := hv
          have hYn : ∀ v, Keeps T w v → YSeq P ops (CL T w v) hs vs (a.put o.dst (x.val p)) := fun v hv => by
            have := yseq_put (P := P) (C := CL T w v) F.sel ho (x := x.val p) hs vs a (fun i hi => (hap i hi).2) (hY v hv)
            rwa [dstOf_some ho] at this
          have hpn : puts ops hs vs (a.put o.dst (x.val p)) = (puts ops hs vs a).put o.dst (x.val p) := by
            have := puts_put ho (x := x.val p) hs vs a hap
            rwa [dstOf_some ho] at this
          refine ih hs (pre ++ post) ls s vs _ _ u1 (by simp at hf ⊢; omega) (by simpa using hsz) hsm hn hls ?_ hpw hlt (fun y hy => hmi y (hmemab y hy)) ?_ ?_ hlen hYn (hu.later hub) ?_ ?_
          · rcases hsm0 with h | h
            · exact .inl h
            · simp at h
          · rw [List.map_append, List.map_cons] at hmn
            rw [List.map_append]
            exact hmn.sublist (List.Sublist.append (List.Sublist.refl _) (List.sublist_cons_self _ _))
          · intro i hi
            by_cases hij : i = x.j
            · subst hij
              constructor
              · intro h; exact absurd h hset0
              · rintro (h | h | h)
                · exact absurd hxi.1 (hlt _ h).1.2
                · exact absurd h hnj
                · have := F.lt _ hxi.1; omega
            · rw [hset i hi hij]
              simp only [List.map_append, List.mem_append, List.map_cons, List.mem_cons]
              constructor
              · rintro (h | (h | h | h) | h)
                · exact .inl h
                · exact .inr (.inl (.inl h))
                · exact absurd h hij
                · exact .inr (.inl (.inr h))
                · exact .inr (.inr h)
              · rintro (h | (h | h) | h)
                · exact .inl h
                · exact .inr (.inl (.inl h))
                · exact .inr (.inl (.inr (.inr h)))
                · exact .inr (.inr h)
          · intro y hy
            rw [hpn, ← hxo]
            have hys := F.sel y.j y.o
            have hapy := (Oper.apart_spec (hxy y hy).1).1
            refine ⟨?_, fun u2 hu2 => ?_⟩
            · rw [wanted_put (ops := ops) y.o (puts ops hs vs a) x.o.dst (x.val p) hapy]
              exact (hR y (hmemab y hy)).1
            · have := execOp_put (ops := ops) y.o (fun cs b => hys cs b (hmi y (hmemab y hy)).2) (puts ops hs vs a) x.o.dst (x.val p) hapy
              unfold lateOp
              rw [this]
              exact (hR y (hmemab y hy)).2 u2 hu2
          · intro f u' hu' hfm hfn
            rw [hpn]
            have key := hL (fun j => if j = x.j then p else f j) u' (hub.trans (hu'.mono hub.size))
              (fun y hy => ?_) ?_
            · rw [putE_pull _ pre _ (fun y hy d hd hd2 => (Oper.apart_spec (hxy y (List.mem_append_left _ hy)).2).2.1 d hd hd2)] at key
              rw [if_pos rfl] at key
              rw [putE_congr (g := f) (pre ++ post) _ (fun y hy => if_neg (fun h => hnj (by rw [List.mem_map]; exact ⟨y, hy, h⟩)))] at key
              rw [← hxo]
              exact key
            · by_cases hyx : y.j = x.j
              · rw [if_pos hyx]
                have hyx' : y = x := by
                  rcases List.mem_append.1 hy with h | h
                  · exact absurd (by rw [← hyx, List.mem_map]; exact ⟨y, List.mem_append_left _ h, rfl⟩) hnj
                  · rcases List.mem_cons.1 h with h | h
                    · exact h
                    · exact absurd (by rw [← hyx, List.mem_map]; exact ⟨y, List.mem_append_right _ h, rfl⟩) hnj
                subst hyx'
                exact ⟨hp1, Nat.lt_of_lt_of_le hp2 hu'.size, y.st _ _ _ hxR hu'⟩
              · rw [if_neg hyx]
                have hy' : y ∈ pre ++ post := by
                  rcases List.mem_append.1 hy with h | h
                  · exact List.mem_append_left _ h
                  · rcases List.mem_cons.1 h with h | h
                    · exact absurd (by rw [h]) hyx
                    · exact List.mem_append_right _ h
                have h5 := hfm y hy'
                have h6 := hub.size
                exact ⟨by omega, h5.2.1, h5.2.2⟩
            · rw [List.map_append, List.map_cons, if_pos rfl]
              have e1 : ∀ l : List EF, (∀ y ∈ l, y ∈ pre ++ post) → (l.map fun m => (if m.j = x.j then p else f m.j).1) = l.map fun m => (f m.j).1 := fun l hl => by
                refine List.map_congr_left (fun y hy => by rw [if_neg (fun h => hnj (by rw [List.mem_map]; exact ⟨y, hl y hy, h⟩))])
              rw [e1 pre (fun y hy => List.mem_append_left _ hy), e1 post (fun y hy => List.mem_append_right _ hy)]
              rw [List.map_append, List.nodup_append] at hfn
              have hge : ∀ z ∈ (pre ++ post), (f z.j).1 ≠ p.1 := fun z hz => by have := (hfm z hz).1; omega
              rw [List.nodup_append, List.nodup_cons]
              refine ⟨hfn.1, ⟨fun h => ?_, hfn.2.1⟩, fun p' hp r hr => ?_⟩
              · rw [List.mem_map] at h
                obtain ⟨z, hz, hz2⟩ := h
                exact hge z (List.mem_append_right _ hz) hz2
              · rcases List.mem_cons.1 hr with h | h
                · subst h
                  rw [List.mem_map] at hp
                  obtain ⟨z, hz, rfl⟩ := hp
                  exact hge z (List.mem_append_left _ hz)
                · exact hfn.2.2 p' hp r h
        unfold wpOp
        simp only [ho]
        rw [if_pos hwant]
        exact .inl hwp
      · -- the next of the chain
        have hjs' : j = s := by
          rcases Nat.lt_or_ge s j with h | h
          · exfalso
            obtain ⟨e, he, hb, hon⟩ := F.chain j o (by omega) ho
            exact hnowait (j - 1) (.inr (.inr (by omega))) (by omega) e he hb hon
          · omega
        subst hjs'
        have hms : ms = [] := by
          rcases hsm0 with h | h
          · cases ms with
            | nil => rfl
            | cons x ms =>
              exfalso
              have hxi := hmi x List.mem_cons_self
              obtain ⟨e, he, hb, hon⟩ := F.memChain o (by rw [← h]; exact ho) x.j hxi.1
              exact hnowait x.j (.inr (.inl (by simp))) (by have := F.lt _ hxi.1; omega) e he hb hon
          · exact h
        subst hms
        obtain ⟨o', ls', rfl⟩ : ∃ o' ls', ls = o' :: ls' := by
          cases ls with
          | nil => simp at hsm; omega
          | cons o' ls' => exact ⟨o', ls', rfl⟩
        have ho' : o' = o := by have := hls 0; simp [ho] at this; exact this
        subst ho'
        have hap : ∀ i ∈ hs, (∃ o, ops[i]? = some o) ∧ Apart ops i j := by
          intro i hi
          have h1 := hlt i hi
          exact ⟨⟨ops[i]'h1.2, Array.getElem?_eq_getElem h1.2⟩, hhead i hi (fun e => by have := h1.1.1; omega) (fun h _ => by omega)⟩
        have hls' : ∀ i, ls'[i]? = ops[j + 1 + i]? := fun i => by have := hls (i + 1); rw [show j + 1 + i = j + (i + 1) by omega, ← this]; rfl
        have hlate0 := hL (fun _ => (0, 0)) u (Below.refl _ _) (by simp) (by simp)
        simp only [putE, effChain] at hlate0
        obtain ⟨hwant, hlate⟩ := hlate0
        rw [wanted_puts ho hs vs a hap] at hwant
        have hex := exec_puts hsel ho hs vs a hap
        have hwp : o'.wp P a u (wpAny P .any ops Q fuel (listed.setIfInBounds j true)) Q := by
          unfold lateOp at hlate
          rw [hex] at hlate
          refine wp_of_late (K := fun v u' => Keeps T w u' ∧ ∀ u'', Below u'.heap.size u' u'' → effChain P ops T w (Q .normal) ls' ((puts ops hs vs a).put o'.dst v) u'') hlate (fun v u' hl' => ?_)
          have hpn : puts ops hs vs (a.put o'.dst v) = (puts ops hs vs a).put o'.dst v := by
            have := puts_put ho (x := v) hs vs a hap
            rwa [dstOf_some ho] at this
          refine ih hs [] ls' (j + 1) vs _ _ u' (by simp at hf ⊢; omega) (by simpa using hsz) (by simp at hsm; omega) (by omega) hls' (.inr rfl) hpw hlt (by simp) (by simp) ?_ hlen (fun x hx => ?_) hl'.1 (by simp) (fun f u'' hu'' _ _ => ?_)
          · intro i hi
            by_cases hij : i = j
            · subst hij
              constructor
              · intro h; exact absurd h hset0
              · rintro (h | h | h)
                · have := (hlt _ h).1.1; omega
                · cases h
                · omega
            · rw [hset i hi hij]
              constructor
              · rintro (h | h | h)
                · exact .inl h
                · exact .inr (.inl h)
                · exact .inr (.inr (by omega))
              · rintro (h | h | h)
                · exact .inl h
                · exact .inr (.inl h)
                · exact .inr (.inr (by omega))
          · have := yseq_put (P := P) (C := CL T w x) F.sel ho (x := v) hs vs a (fun i hi => (hap i hi).2) (hY x hx)
            rwa [dstOf_some ho] at this
          · rw [hpn]; exact hl'.2 u'' hu''
        unfold wpOp
        simp only [ho]
        rw [if_pos hwant]
        exact .inl hwp

/-- The operations before c that are no makers, and their numbers. -/
def headsFrom (l : List Oper) : Nat → List Nat → Nat → List Oper
  | i, [], c => (l.drop i).take (c - i)
  | i, m :: mi, c => (l.drop i).take (m - i) ++ headsFrom l (m + 1) mi c
def idxFrom : Nat → List Nat → Nat → List Nat
  | i, [], c => List.range' i (c - i)
  | i, m :: mi, c => List.range' i (m - i) ++ idxFrom (m + 1) mi c
def sortedB : Nat → List Nat → Nat → Bool
  | i, [], c => decide (i ≤ c)
  | i, m :: mi, c => decide (i ≤ m) && sortedB (m + 1) mi c
def makersOf (l : List Oper) (mi : List Nat) : List Oper := mi.flatMap fun i => (l.drop i).take 1

theorem seg_at {l : List Oper} {i k j x : Nat} (h : (List.range' i k)[j]? = some x) : ((l.drop i).take k)[j]? = l[x]? ∧ i ≤ x ∧ x < i + k := by
  rw [List.getElem?_eq_some_iff] at h
  obtain ⟨hj, h⟩ := h
  simp only [List.getElem_range'] at h
  have hjk : j < k := by simpa using hj
  have hx : x = i + j := by omega
  subst hx
  rw [List.getElem?_take_of_lt hjk, List.getElem?_drop]
  exact ⟨rfl, by omega, by omega⟩
theorem heads_spec (l : List Oper) (c : Nat) (hc : c ≤ l.length) : ∀ (mi : List Nat) (i : Nat), sortedB i mi c = true →
    (headsFrom l i mi c).length = (idxFrom i mi c).length ∧ (∀ (j x : Nat), (idxFrom i mi c)[j]? = some x → (headsFrom l i mi c)[j]? = l[x]?) ∧ (∀ x, x ∈ idxFrom i mi c ↔ (i ≤ x ∧ x < c ∧ x ∉ mi)) ∧
    (idxFrom i mi c).Pairwise (· < ·) ∧ i ≤ c ∧ (∀ m ∈ mi, i ≤ m ∧ m < c) ∧ mi.Nodup
  | [], i, h => by
    simp only [sortedB, decide_eq_true_eq] at h
    refine ⟨by simp [headsFrom, idxFrom]; omega, fun j x hx => (seg_at hx).1, fun x => ?_, List.pairwise_lt_range', h, by simp, List.nodup_nil⟩
    simp only [idxFrom, List.mem_range'_1, List.not_mem_nil, not_false_eq_true, and_true]
    omega
  | m :: mi, i, h => by
    simp only [sortedB, Bool.and_eq_true, decide_eq_true_eq] at h
    obtain ⟨h1, h2, h3, h4, h5, h6, h7⟩ := heads_spec l c hc mi (m + 1) h.2
    have him := h.1
    have hlen : ((l.drop i).take (m - i)).length = (List.range' i (m - i)).length := by simp; omega
    refine ⟨by simp only [headsFrom, idxFrom, List.length_append, hlen, h1], fun j x hx => ?_, fun x => ?_, ?_, by omega, ?_, ?_⟩
    · simp only [headsFrom, idxFrom] at hx ⊢
      rw [List.getElem?_append] at hx ⊢
      rw [hlen]
      split at hx
      · rename_i hj
        rw [if_pos hj]; exact (seg_at hx).1
      · rename_i hj
        rw [if_neg hj]; exact h2 _ _ hx
    · simp only [idxFrom, List.mem_append, List.mem_range'_1, h3, List.mem_cons, not_or]
      constructor
      · rintro (hx | hx)
        · exact ⟨by omega, by omega, by omega, fun hxm => by have := h6 x hxm; omega⟩
        · exact ⟨by omega, hx.2.1, by omega, hx.2.2⟩
      · rintro ⟨ha, hb, hc', hd⟩
        rcases Nat.lt_or_ge x m with hl | hl
        · left; omega
        · right; exact ⟨by omega, hb, hd⟩
    · simp only [idxFrom]
      rw [List.pairwise_append]
      refine ⟨List.pairwise_lt_range', h4, fun x hx y hy => ?_⟩
      have := List.mem_range'_1.1 hx
      have := (h3 y).1 hy
      omega
    · intro x hx
      rcases List.mem_cons.1 hx with rfl | hx
      · exact ⟨him, by omega⟩
      · have := h6 x hx; omega
    · rw [List.nodup_cons]
      exact ⟨fun hm => by have := h6 m hm; omega, h7⟩

/-- The Bool over a region. -/
def effFit (l : List Oper) (mi : List Nat) (c : Nat) : Bool :=
  Region.noSelect l.toArray && (l.zipIdx.all fun x => x.1.after.all fun e => !Region.binds .any e || decide (e.on < x.2)) &&
  ((List.range c).all fun i => mi.contains i || (List.range l.length).all fun j => decide (j ≤ i) || apartFrom l i j) &&
  ((List.range c).all fun i => mi.all fun j => decide (i = j) || (!mi.contains i && decide (i < j)) || match l[i]?, l[j]? with | some oi, some oj => oi.apart l.toArray oj | _, _ => true) &&
  (l.zipIdx.all fun x => decide (x.2 ≤ c) || x.1.after.any fun e => Region.binds .any e && e.on == x.2 - 1) &&
  (match l[c]? with | some o => mi.all fun i => o.after.any fun e => Region.binds .any e && e.on == i | none => true) &&
  sortedB 0 mi c && decide (c ≤ l.length)

theorem fit3_of {mi : List Nat} {c : Nat} {l : List Oper} (h : effFit l mi c = true) : Fit3 l.toArray mi c := by
  simp only [effFit, Bool.and_eq_true] at h
  obtain ⟨⟨⟨⟨⟨⟨⟨h1, h2⟩, h3⟩, h4⟩, h5⟩, h6⟩, h7⟩, hlen⟩ := h
  have hlen' : c ≤ l.length := by simpa using hlen
  have hlt : ∀ i ∈ mi, i < c := fun i hi => ((heads_spec l c hlen' mi 0 h7).2.2.2.2.2.1 i hi).2
  have far : ∀ (i j : Nat) (oi oj : Oper), i < c → j ∈ mi → i ≠ j → (i ∈ mi ∨ j < i) → l.toArray[i]? = some oi → l.toArray[j]? = some oj → oi.apart l.toArray oj = true := fun i j oi oj hi hj hne hor hoi hoj => by
    have h8 := List.all_eq_true.1 h4 i (List.mem_range.2 hi)
    have h9 := List.all_eq_true.1 h8 j hj
    have e1 : l[i]? = some oi := by simpa using hoi
    have e2 : l[j]? = some oj := by simpa using hoj
    simp only [e1, e2, Bool.or_eq_true, Bool.and_eq_true, decide_eq_true_eq, Bool.not_eq_true', List.contains_eq_mem, decide_eq_false_iff_not] at h9
    rcases h9 with (h9 | h9) | h9
    · exact absurd h9 hne
    · rcases hor with h | h
      · exact absurd h h9.1
      · omega
    · exact h9
  refine ⟨hlt, fun j o cs b ho => Region.noSelect_spec h1 j o cs b ho, fun j o ho e he hb => ?_, fun i j oi oj hi hni hij hoi hoj hno => ?_, fun i j oi oj hi _ hj hji hoi hoj => far i j oi oj hi hj (by omega) (.inr hji) hoi hoj,
    fun i j oi oj hi hj hne hoi hoj => far i j oi oj (hlt i hi) hj hne (.inl hi) hoi hoj, fun j o hj ho => ?_, fun o ho i hi => ?_⟩
  · have h8 := List.all_eq_true.1 h2 _ (mem_zipIdx_of (by simpa using ho))
    have h9 := Array.all_eq_true'.1 h8 e he
    simpa [hb] using h9
  · have hjl : j < l.length := by
      have := (Array.getElem?_eq_some_iff.1 hoj).1; simpa using this
    have h8 := List.all_eq_true.1 h3 i (List.mem_range.2 hi)
    simp only [Bool.or_eq_true, List.contains_eq_mem, decide_eq_true_eq] at h8
    rcases h8 with h8 | h8
    · exact absurd h8 hni
    have h9 := List.all_eq_true.1 h8 j (List.mem_range.2 hjl)
    have e1 : l[i]? = some oi := by simpa using hoi
    have e2 : l[j]? = some oj := by simpa using hoj
    simp only [apartFrom, e1, e2, Bool.or_eq_true, decide_eq_true_eq] at h9
    rcases h9 with h9 | h9 | h9
    · omega
    · obtain ⟨e, he, hb⟩ := Array.any_eq_true'.1 h9
      simp only [Bool.and_eq_true, beq_iff_eq] at hb
      exact absurd hb.2 (hno e he hb.1)
    · exact h9
  · have h8 := List.all_eq_true.1 h5 _ (mem_zipIdx_of (by simpa using ho))
    simp only [Bool.or_eq_true, decide_eq_true_eq] at h8
    rcases h8 with h8 | h8
    · omega
    · obtain ⟨e, he, hb⟩ := Array.any_eq_true'.1 h8
      simp only [Bool.and_eq_true, beq_iff_eq] at hb
      exact ⟨e, he, hb.1, hb.2⟩
  · have e1 : l[c]? = some o := by simpa using ho
    simp only [e1] at h6
    have h8 := List.all_eq_true.1 h6 i hi
    obtain ⟨e, he, hb⟩ := Array.any_eq_true'.1 h8
    simp only [Bool.and_eq_true, beq_iff_eq] at hb
    exact ⟨e, he, hb.1, hb.2⟩

/-- What a maker answers, and what it leaves behind. -/
structure EB where
  val : Nat × Nat → Value
  R : Nat × Nat → World → Prop
  st : ∀ a u u', R a u → Below u.heap.size u u' → R a u'
def effRun (P : Program) (ops : Array Oper) (T : List Nat) (w : World) (A : Act) (o : Oper) (b : EB) : Prop :=
  Region.wanted o (yielded ops A.tmps) = true ∧ ∀ u, Keeps T w u → lateOp P o A u (fun v u' => ∃ p, v = b.val p ∧ u.heap.size ≤ p.1 ∧ p.1 < u'.heap.size ∧ Below u.heap.size u u' ∧ b.R p u')
def effRuns (P : Program) (ops : Array Oper) (T : List Nat) (w : World) (A : Act) : List Oper → List EB → Prop
  | o :: os, b :: bs => effRun P ops T w A o b ∧ effRuns P ops T w A os bs
  | [], [] => True
  | _, _ => False
/-- With whatever the makers have left. -/
def effK (u u' : World) (K : Act → Prop) : List Oper → List EB → List Nat → Act → Prop
  | o :: os, b :: bs, ps, A => ∀ p : Nat × Nat, u.heap.size ≤ p.1 → p.1 < u'.heap.size → p.1 ∉ ps → b.R p u' → effK u u' K os bs (p.1 :: ps) (A.put o.dst (b.val p))
  | _, _, _, A => K A
def efsOf : List Nat → List Oper → List EB → List EF
  | j :: js, o :: os, b :: bs => ⟨j, o, b.val, b.R, b.st⟩ :: efsOf js os bs
  | _, _, _ => []

theorem makers_at {l : List Oper} {c : Nat} (hc : c ≤ l.length) : ∀ (mi : List Nat), (∀ m ∈ mi, m < c) → ∃ os : List Oper, makersOf l mi = os ∧ os.length = mi.length ∧ ∀ (k i : Nat), mi[k]? = some i → os[k]? = l[i]?
  | [], _ => ⟨[], rfl, rfl, by simp⟩
  | i :: mi, h => by
    obtain ⟨os, h1, h2, h3⟩ := makers_at hc mi (fun m hm => h m (List.mem_cons_of_mem _ hm))
    have hi : i < l.length := by have := h i List.mem_cons_self; omega
    have e : (l.drop i).take 1 = [l[i]] := by
      rw [List.drop_eq_getElem_cons hi]; rfl
    refine ⟨l[i] :: os, by unfold makersOf at h1 ⊢; rw [List.flatMap_cons, e, h1]; rfl, by simp [h2], fun k j hk => ?_⟩
    cases k with
    | zero => simp at hk; subst hk; simp
    | succ k => simpa using h3 k j (by simpa using hk)
theorem efs_mem {P : Program} {ops : Array Oper} {A : Act} : ∀ (js : List Nat) (os : List Oper) (bs : List EB), js.length = os.length → effRuns P ops T w A os bs → (∀ (k i : Nat), js[k]? = some i → os[k]? = ops[i]?) →
    (efsOf js os bs).map (·.j) = js ∧ ∀ x ∈ efsOf js os bs, x.j ∈ js ∧ ops[x.j]? = some x.o ∧ effRun P ops T w A x.o ⟨x.val, x.R, x.st⟩
  | [], [], [], _, _, _ => ⟨rfl, by simp [efsOf]⟩
  | j :: js, o :: os, b :: bs, hl, hr, hat => by
    obtain ⟨h1, h2⟩ := efs_mem js os bs (by simpa using hl) hr.2 (fun k i hk => by simpa using hat (k + 1) i (by simpa using hk))
    refine ⟨by simp only [efsOf, List.map_cons, h1], fun x hx => ?_⟩
    simp only [efsOf, List.mem_cons] at hx
    rcases hx with rfl | hx
    · exact ⟨List.mem_cons_self, by simpa using (hat 0 j rfl).symm, hr.1⟩
    · obtain ⟨h3, h4⟩ := h2 x hx
      exact ⟨List.mem_cons_of_mem _ h3, h4⟩
  | [], [], _ :: _, _, h, _ => h.elim
  | [], _ :: _, _, h, _, _ => by simp at h
  | _ :: _, [], _, h, _, _ => by simp at h
  | _ :: _, _ :: _, [], _, h, _ => h.elim
theorem effK_run {u u' : World} {K : Act → Prop} {f : Nat → Nat × Nat} : ∀ (js : List Nat) (os : List Oper) (bs : List EB) (ps : List Nat) (A : Act), js.length = os.length → os.length = bs.length → effK u u' K os bs ps A →
    (∀ m ∈ efsOf js os bs, u.heap.size ≤ (f m.j).1 ∧ (f m.j).1 < u'.heap.size ∧ m.R (f m.j) u') → ((efsOf js os bs).map fun m => (f m.j).1).Nodup → (∀ m ∈ efsOf js os bs, (f m.j).1 ∉ ps) → K (putE (efsOf js os bs) f A)
  | j :: js, o :: os, b :: bs, ps, A, hl, hl2, h, hm, hn, hp => by
    simp only [efsOf, putE]
    simp only [efsOf, List.map_cons, List.nodup_cons] at hn
    have h0 := hm ⟨j, o, b.val, b.R, b.st⟩ (by simp [efsOf])
    refine effK_run js os bs ((f j).1 :: ps) _ (by simpa using hl) (by simpa using hl2) (h (f j) h0.1 h0.2.1 (hp ⟨j, o, b.val, b.R, b.st⟩ (by simp [efsOf])) h0.2.2) (fun m hmm => hm m (by simp [efsOf, hmm])) hn.2 (fun m hmm => ?_)
    rw [List.mem_cons]
    rintro (he | he)
    · exact hn.1 (he ▸ List.mem_map_of_mem (f := fun m : EF => (f m.j).1) hmm)
    · exact hp m (by simp [efsOf, hmm]) he
  | [], [], [], _, _, _, _, h, _, _, _ => h
  | [], [], _ :: _, _, _, _, h2, _, _, _, _ => by simp at h2
  | [], _ :: _, _, _, _, h, _, _, _, _, _ => by simp at h
  | _ :: _, [], _, _, _, h, _, _, _, _, _ => by simp at h
  | _ :: _, _ :: _, [], _, _, _, h2, _, _, _, _ => by simp at h2
theorem effRuns_len {P : Program} {ops : Array Oper} {A : Act} : ∀ (os : List Oper) (bs : List EB), effRuns P ops T w A os bs → os.length = bs.length
  | [], [], _ => rfl
  | _ :: os, _ :: bs, h => by simp [effRuns_len os bs h.2]
  | [], _ :: _, h => h.elim
  | _ :: _, [], h => h.elim

/-- A region that draws its order, with makers mi before the chain that begins at number c. -/
theorem region_eff {id : Nat} {a : Act} {l : List Oper} (mi : List Nat) (c : Nat) (T : List Nat) (hm : P.follows .mixedOrders = true) (hB : effFit l mi c = true) (hp : placesFit (headsFrom l 0 mi c) a.tmps.size = true) (bs : List EB)
    (h : ∃ A, (∀ v, Keeps T w v → Nonempty (Later T w v) → wpQuiet P l.toArray (fun w' => ∃ x : Later T w v, w' = x.u) (fun a' => a' = A) (headsFrom l 0 mi c) a) ∧ effRuns P l.toArray T w A (makersOf l mi) bs ∧
      (∀ u u', Below w.heap.size w u → Below u.heap.size u u' → effK u u' (fun A' => effChain P l.toArray T w (Q .normal) (l.drop c) A' u') (makersOf l mi) bs [] A)) : (Code.region id l.toArray true).wp P Q a w := by
  obtain ⟨A, hq, hr, hl⟩ := h
  have F := fit3_of hB
  have hB' := hB
  simp only [effFit, Bool.and_eq_true, decide_eq_true_eq] at hB'
  have hcl := hB'.2
  obtain ⟨hlenq, hidx, hmem, hpw, _, hrange, hnd⟩ := heads_spec l c hcl mi 0 hB'.1.2
  simp only [placesFit, Bool.and_eq_true, decide_eq_true_eq] at hp
  have hY := fun v hv => yseq_of_quiet (P := P) (ops := l.toArray) (C := CL T w v) (A := A) (headsFrom l 0 mi c) _ a hlenq (fun j i hj => by rw [hidx j i hj]; simp) (fun o ho => by
      have := List.all_eq_true.1 hp.1 o ho
      cases hd : o.dst with
      | none => rw [hd] at this; cases this
      | some d => rw [hd] at this; exact ⟨d, rfl, by simpa using this⟩) hp.2 (hq v hv ⟨⟨v, hv, Below.refl _ _⟩⟩)
  refine wp_region_any hm ?_
  have hw0 : Below w.heap.size w w.drew := (Below.refl _ _).drew
  obtain ⟨os, hos, hosl, hosat⟩ := makers_at hcl mi (fun m hm => (hrange m hm).2)
  rw [hos] at hr
  rw [hos] at hl
  obtain ⟨hjs, hmm⟩ := efs_mem (P := P) (ops := l.toArray) (T := T) (w := w) mi os bs hosl.symm hr (fun k i hk => by rw [hosat k i hk]; simp)
  have e1 := (hY w (Keeps.refl _ _)).2
  have hel : (efsOf mi os bs).length = mi.length := by rw [← List.length_map (f := fun x : EF => x.j), hjs]
  have hcount : (idxFrom 0 mi c).length + mi.length = c := by
    have key : ∀ (mi : List Nat) (i : Nat), sortedB i mi c = true → (idxFrom i mi c).length + mi.length = c - i ∧ i ≤ c := by
      intro mi
      induction mi with
      | nil => intro i h; simp only [sortedB, decide_eq_true_eq] at h; simp [idxFrom]; omega
      | cons m mi ih =>
        intro i h
        simp only [sortedB, Bool.and_eq_true, decide_eq_true_eq] at h
        have := ih (m + 1) h.2
        simp [idxFrom]; omega
    have := (key mi 0 hB'.1.2).1
    omega
  exact eff_main (P := P) (T := T) (w := w) (Q := Q) F l.toArray.size (idxFrom 0 mi c) (efsOf mi os bs) (l.drop c) c _ (Array.replicate l.toArray.size false) a w.drew
    (by simp [hel]; omega) (by simp) (by simp; omega) (Nat.le_refl _) (fun i => by rw [List.getElem?_drop]; simp) (.inl rfl) hpw
    (fun i hi => by have := (hmem i).1 hi; exact ⟨⟨this.2.1, this.2.2⟩, by simp; omega⟩)
    (fun x hx => ⟨(hmm x hx).1, (hmm x hx).2.1⟩) (by rw [hjs]; exact hnd)
    (fun i hi => by
      have hi' : i < l.length := by simpa using hi
      rw [hmem, hjs]
      simp [hi']
      rcases Classical.em (i ∈ mi) with h | h
      · have := hrange i h; simp [h]
      · simp [h]; omega) (by rw [List.length_map]; exact hlenq.symm) (fun v hv => (hY v hv).1) (Keeps.of_below hw0) (fun x hx => by rw [e1]; exact (hmm x hx).2.2) (by
      rw [e1]
      intro f u' hu' hfm hfn
      exact effK_run mi os bs [] A hosl.symm (effRuns_len os bs hr) (hl w.drew u' hw0 hu') hfm hfn (by simp))
end

theorem effc_nil {P : Program} {ops : Array Oper} {T : List Nat} {w : World} {Q : Act → World → Prop} {A : Act} {u : World} (h : Q A u) : effChain P ops T w Q [] A u := h
theorem effc_mem {P : Program} {ops : Array Oper} {T : List Nat} {w : World} {Q : Act → World → Prop} {o : Oper} {os : List Oper} {A : Act} {u : World} (hwant : Region.wanted o (yielded ops A.tmps) = true)
    (h : ∀ K : Value → World → Prop, (∀ v u', Keeps T w u' → (∀ u'', Below u'.heap.size u' u'' → effChain P ops T w Q os (A.put o.dst v) u'') → K v u') → lateOp P o A u K) : effChain P ops T w Q (o :: os) A u :=
  ⟨hwant, h _ fun _ _ h1 h2 => ⟨h1, h2⟩⟩
end Go.Proofs.Ytccnlnkgoaelpaa
