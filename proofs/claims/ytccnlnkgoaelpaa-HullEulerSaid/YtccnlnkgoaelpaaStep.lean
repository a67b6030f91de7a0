/- A region that draws its order, as in Eff, with steppers: operations that follow each other, each of which has a known value and takes memory from one phase to the next (a draw from a list of numbers, say). No condition. -/
import Derived.Test.YtccnlnkgoaelpaaEff
import Derived.Test.YtccnlnkgoaelpaaDraw
namespace Go.Proofs.Ytccnlnkgoaelpaa
open Go.RowKit

section
variable {P : Program} {ops : Array Oper} {T : List Nat} {w : World} {Q : Exit → Act → World → Prop}

theorem Upd.keeps {w u v : World} (h : Keeps T w u) (k : Upd T u v) : Keeps T w v :=
  ⟨Nat.le_trans h.1 k.size, fun b hb ht => (k.block b (Nat.lt_of_lt_of_le hb h.1) ht).trans (h.2 b hb ht)⟩

/-- The operations numbered so have these values, each said by D. -/
def YG (ops : Array Oper) (D : Nat → Value → Act → Prop) : List Nat → List Value → Act → Prop
  | [], [], _ => True
  | i :: hs, v :: vs, a => ((∃ o, ops[i]? = some o) ∧ D i v a) ∧ YG ops D hs vs (a.put (dstOf ops i) v)
  | _, _, _ => False
/-- D does not see what is written elsewhere. -/
structure Blind (ops : Array Oper) (D : Nat → Value → Act → Prop) : Prop where
  l : ∀ (i j : Nat) (v u : Value) (a : Act), (∃ o, ops[i]? = some o) → (∃ o, ops[j]? = some o) → Apart ops i j → (D j v (a.put (dstOf ops i) u) ↔ D j v a)
  r : ∀ (i j : Nat) (v u : Value) (a : Act), (∃ o, ops[i]? = some o) → (∃ o, ops[j]? = some o) → Apart ops i j → (D i v (a.put (dstOf ops j) u) ↔ D i v a)

theorem yg_pull {D : Nat → Value → Act → Prop} (hD : Blind ops D) {j : Nat} {post : List Nat} {vj : Value} {vpost : List Value} :
    ∀ (pre : List Nat) (vpre : List Value) (a : Act), pre.length = vpre.length → (∀ i ∈ pre, Apart ops i j) →
      YG ops D (pre ++ j :: post) (vpre ++ vj :: vpost) a →
      YG ops D (j :: (pre ++ post)) (vj :: (vpre ++ vpost)) a ∧ puts ops (pre ++ j :: post) (vpre ++ vj :: vpost) a = puts ops (j :: (pre ++ post)) (vj :: (vpre ++ vpost)) a
  | [], [], a, _, _, h => ⟨h, rfl⟩
  | i :: pre, v :: vpre, a, hl, hap, h => by
    obtain ⟨⟨⟨oi, hoi⟩, hyi⟩, h2⟩ := h
    obtain ⟨h3, h4⟩ := yg_pull hD pre vpre _ (by simpa using hl) (fun k hk => hap k (List.mem_cons_of_mem _ hk)) h2
    obtain ⟨⟨⟨oj, hoj⟩, hyj⟩, h5⟩ := h3
    have hij := hap i (List.mem_cons_self)
    have ha := hij oi oj hoi hoj
    have hsw := put_swap hoi hoj ha a v vj
    refine ⟨⟨⟨⟨oj, hoj⟩, ?_⟩, ⟨⟨oi, hoi⟩, ?_⟩, ?_⟩, ?_⟩
    · exact (hD.l i j vj v a ⟨oi, hoi⟩ ⟨oj, hoj⟩ hij).1 hyj
    · exact (hD.r i j v vj a ⟨oi, hoi⟩ ⟨oj, hoj⟩ hij).2 hyi
    · rw [← hsw]; exact h5
    · simp only [List.cons_append, puts] at h4 ⊢
      rw [h4, hsw]
theorem yg_put {D : Nat → Value → Act → Prop} (hD : Blind ops D) {t : Nat} {ot : Oper} (ht : ops[t]? = some ot) {x : Value} :
    ∀ (hs : List Nat) (vs : List Value) (a : Act), (∀ i ∈ hs, Apart ops i t) → YG ops D hs vs a →
      YG ops D hs vs (a.put (dstOf ops t) x)
  | [], [], _, _, _ => trivial
  | i :: hs, v :: vs, a, hap, h => by
    obtain ⟨⟨⟨oi, hoi⟩, hyi⟩, h2⟩ := h
    have hit := hap i (List.mem_cons_self)
    have ha := hit oi ot hoi ht
    refine ⟨⟨⟨oi, hoi⟩, (hD.r i t v x a ⟨oi, hoi⟩ ⟨ot, ht⟩ hit).2 hyi⟩, ?_⟩
    rw [← put_swap hoi ht ha]
    exact yg_put hD ht hs vs _ (fun k hk => hap k (List.mem_cons_of_mem _ hk)) h2
theorem yg_append {D : Nat → Value → Act → Prop} : ∀ (hs : List Nat) (vs : List Value) (hs' : List Nat) (vs' : List Value) (a : Act), YG ops D hs vs a → YG ops D hs' vs' (puts ops hs vs a) →
    YG ops D (hs ++ hs') (vs ++ vs') a ∧ puts ops (hs ++ hs') (vs ++ vs') a = puts ops hs' vs' (puts ops hs vs a)
  | [], [], _, _, _, _, h2 => ⟨by simpa [puts] using h2, by simp [puts]⟩
  | i :: hs, v :: vs, hs', vs', a, h1, h2 => by
    have h3 := yg_append hs vs hs' vs' (a.put (dstOf ops i) v) h1.2 (by simpa [puts] using h2)
    exact ⟨⟨h1.1, h3.1⟩, by simpa [puts] using h3.2⟩

/-- A step from phase k to the next. -/
def stepRun (P : Program) (ops : Array Oper) (T : List Nat) (w : World) (Ph : Nat → World → Prop) (k : Nat) (o : Oper) (v : Value) (a : Act) : Prop :=
  Region.wanted o (yielded ops a.tmps) = true ∧ ∀ u, Keeps T w u → Ph k u → lateOp P o a u (fun v' u' => v' = v ∧ Upd T u u' ∧ Ph (k + 1) u')
/-- What an operation before the chain, no maker, answers: a stepper, or one that only reads, reckons or calls. -/
def DS (P : Program) (ops : Array Oper) (T : List Nat) (w : World) (Ph : Nat → World → Prop) (si : List Nat) (i : Nat) (v : Value) (a : Act) : Prop :=
  ∃ o, ops[i]? = some o ∧ ((i ∈ si ∧ stepRun P ops T w Ph (si.idxOf i) o v a) ∨ (i ∉ si ∧ ∀ x, Keeps T w x → YieldsIn P ops (CL T w x) o v a))
theorem stepRun_l {Ph : Nat → World → Prop} {k : Nat} {oi oj : Oper} {v u : Value} {a : Act} (hs : ∀ cs b, oj.op ≠ .select cs b) (hap : oi.apart ops oj = true) :
    stepRun P ops T w Ph k oj v (a.put oi.dst u) ↔ stepRun P ops T w Ph k oj v a := by
  obtain ⟨h1, _, _⟩ := Oper.apart_spec hap
  unfold stepRun lateOp
  rw [execOp_put (ops := ops) oj hs a oi.dst u h1, wanted_put (ops := ops) oj a oi.dst u h1]
theorem stepRun_r {Ph : Nat → World → Prop} {k : Nat} {oi oj : Oper} {v u : Value} {a : Act} (hs : ∀ cs b, oi.op ≠ .select cs b) (hap : oi.apart ops oj = true) :
    stepRun P ops T w Ph k oi v (a.put oj.dst u) ↔ stepRun P ops T w Ph k oi v a := by
  obtain ⟨_, _, h1⟩ := Oper.apart_spec hap
  unfold stepRun lateOp
  rw [execOp_put (ops := ops) oi hs a oj.dst u h1, wanted_put (ops := ops) oi a oj.dst u h1]
theorem blindDS {Ph : Nat → World → Prop} {si : List Nat} (hsel : ∀ (j : Nat) (o : Oper) cs b, ops[j]? = some o → o.op ≠ .select cs b) : Blind ops (DS P ops T w Ph si) := by
  refine ⟨fun i j v u a hi hj hap => ?_, fun i j v u a hi hj hap => ?_⟩
  · obtain ⟨oi, hoi⟩ := hi
    obtain ⟨oj, hoj⟩ := hj
    have ha := hap oi oj hoi hoj
    unfold DS
    rw [dstOf_some hoi, hoj]
    constructor
    · rintro ⟨o, ho, h⟩
      cases ho
      exact ⟨oj, rfl, h.imp (fun h => ⟨h.1, (stepRun_l (hsel j oj · · hoj) ha).1 h.2⟩) (fun h => ⟨h.1, fun x hx => (yields_put ha (fun cs b => hsel j oj cs b hoj)).1 (h.2 x hx)⟩)⟩
    · rintro ⟨o, ho, h⟩
      cases ho
      exact ⟨oj, rfl, h.imp (fun h => ⟨h.1, (stepRun_l (hsel j oj · · hoj) ha).2 h.2⟩) (fun h => ⟨h.1, fun x hx => (yields_put ha (fun cs b => hsel j oj cs b hoj)).2 (h.2 x hx)⟩)⟩
  · obtain ⟨oi, hoi⟩ := hi
    obtain ⟨oj, hoj⟩ := hj
    have ha := hap oi oj hoi hoj
    unfold DS
    rw [dstOf_some hoj, hoi]
    constructor
    · rintro ⟨o, ho, h⟩
      cases ho
      exact ⟨oi, rfl, h.imp (fun h => ⟨h.1, (stepRun_r (hsel i oi · · hoi) ha).1 h.2⟩) (fun h => ⟨h.1, fun x hx => (yields_put' ha (fun cs b => hsel i oi cs b hoi)).1 (h.2 x hx)⟩)⟩
    · rintro ⟨o, ho, h⟩
      cases ho
      exact ⟨oi, rfl, h.imp (fun h => ⟨h.1, (stepRun_r (hsel i oi · · hoi) ha).2 h.2⟩) (fun h => ⟨h.1, fun x hx => (yields_put' ha (fun cs b => hsel i oi cs b hoi)).2 (h.2 x hx)⟩)⟩

/-- A maker; what it leaves behind lasts, whatever happens to T. -/
structure ES (T : List Nat) where
  j : Nat
  o : Oper
  val : Nat × Nat → Value
  R : Nat × Nat → World → Prop
  st : ∀ a u u', R a u → Upd T u u' → R a u'
def putS {T : List Nat} : List (ES T) → (Nat → Nat × Nat) → Act → Act
  | [], _, A => A
  | m :: ms, f, A => putS ms f (A.put m.o.dst (m.val (f m.j)))
def ASt (P : Program) (ops : Array Oper) (T : List Nat) (w : World) (Ph : Nat → World → Prop) (n : Nat) (Q : Act → World → Prop) (ls : List Oper) (ms : List (ES T)) (A : Act) (u : World) : Prop :=
  ∀ (f : Nat → Nat × Nat) (u' : World), Upd T u u' → Ph n u' → (∀ m ∈ ms, u.heap.size ≤ (f m.j).1 ∧ (f m.j).1 < u'.heap.size ∧ m.R (f m.j) u') → (ms.map fun m => (f m.j).1).Nodup → effChain P ops T w Q ls (putS ms f A) u'
theorem ASt.later {Ph : Nat → World → Prop} {n : Nat} {ls : List Oper} {ms : List (ES T)} {A : Act} {u v : World} {Q : Act → World → Prop} (h : ASt P ops T w Ph n Q ls ms A u) (hv : Upd T u v) : ASt P ops T w Ph n Q ls ms A v :=
  fun f u' hu hp hm hn => h f u' (hv.trans hu) hp (fun m hm' => ⟨Nat.le_trans hv.size (hm m hm').1, (hm m hm').2⟩) hn

theorem putS_pull (f : Nat → Nat × Nat) {m : ES T} {post : List (ES T)} : ∀ (pre : List (ES T)) (A : Act), (∀ x ∈ pre, ∀ d, x.o.dst = some d → m.o.dst ≠ some d) →
    putS (pre ++ m :: post) f A = putS (pre ++ post) f (A.put m.o.dst (m.val (f m.j)))
  | [], _, _ => rfl
  | x :: pre, A, h => by
    simp only [List.cons_append, putS]
    rw [putS_pull f pre _ (fun y hy => h y (List.mem_cons_of_mem _ hy)), Act.put_comm A _ _ (h x (List.mem_cons_self))]
theorem putS_congr {f g : Nat → Nat × Nat} : ∀ (ms : List (ES T)) (A : Act), (∀ m ∈ ms, f m.j = g m.j) → putS ms f A = putS ms g A
  | [], _, _ => rfl
  | m :: ms, A, h => by
    simp only [putS]
    rw [h m (List.mem_cons_self), putS_congr ms _ (fun x hx => h x (List.mem_cons_of_mem _ hx))]

/-- What is asked of the steppers. -/
structure StepFit (ops : Array Oper) (mi si : List Nat) (c : Nat) : Prop where
  nd : si.Nodup
  lt : ∀ i ∈ si, i < c ∧ i ∉ mi
  next : ∀ (k i i' : Nat) (o : Oper), si[k]? = some i → si[k + 1]? = some i' → ops[i']? = some o → ∃ e ∈ o.after, Region.binds .any e = true ∧ e.on = i
  last : ∀ (o : Oper), ops[c]? = some o → ∀ i ∈ si, ∃ e ∈ o.after, Region.binds .any e = true ∧ e.on = i

theorem step_main {mi si : List Nat} {c : Nat} {Ph : Nat → World → Prop} (F : Fit3 ops mi c) (G : StepFit ops mi si c) (hPB : ∀ k u u', Ph k u → Below u.heap.size u u' → Ph k u') : ∀ (fuel : Nat) (hs : List Nat) (ms : List (ES T)) (ls : List Oper) (s : Nat) (vs : List Value) (listed : Array Bool) (a : Act) (u : World) (k : Nat),
    fuel = hs.length + ms.length + ls.length → listed.size = ops.size → s + ls.length = ops.size → c ≤ s → (∀ i, ls[i]? = ops[s + i]?) → hs.Pairwise (· < ·) →
    (∀ i ∈ hs, (i < c ∧ i ∉ mi) ∧ i < ops.size) → (∀ x ∈ ms, x.j ∈ mi ∧ ops[x.j]? = some x.o) → (ms.map (·.j)).Nodup →
    (∀ i, i < ops.size → (listed.getD i true = false ↔ (i ∈ hs ∨ i ∈ ms.map (·.j) ∨ s ≤ i))) → hs.length = vs.length →
    YG ops (DS P ops T w Ph si) hs vs a → Keeps T w u → (∀ (n i : Nat), si[n]? = some i → (i ∈ hs ↔ k ≤ n)) →
    (∀ x ∈ ms, Region.wanted x.o (yielded ops (puts ops hs vs a).tmps) = true ∧ ∀ u, Keeps T w u → lateOp P x.o (puts ops hs vs a) u (fun v u' => ∃ p, v = x.val p ∧ u.heap.size ≤ p.1 ∧ p.1 < u'.heap.size ∧ Below u.heap.size u u' ∧ x.R p u')) →
    ((s = c ∧ Ph k u ∧ ASt P ops T w Ph si.length (Q .normal) ls ms (puts ops hs vs a) u) ∨ (ms = [] ∧ si.length ≤ k ∧ ∀ u', Below u.heap.size u u' → effChain P ops T w (Q .normal) ls (puts ops hs vs a) u')) → k ≤ si.length → wpAny P .any ops Q fuel listed a u := by
  intro fuel
  induction fuel with
  | zero =>
    intro hs ms ls s vs listed a u k hf hsz hsm hn hls _ hlt hmi hmn hun hlen hY hu hK hR hL hkm
    have h1 : hs = [] := by cases hs with | nil => rfl | cons => simp at hf; omega
    have h2 : ms = [] := by cases ms with | nil => rfl | cons => simp at hf; omega
    have h3 : ls = [] := by cases ls with | nil => rfl | cons => simp at hf
    subst h1; subst h2; subst h3
    have h3 : vs = [] := by cases vs with | nil => rfl | cons => simp at hlen
    subst h3
    have hfin : effChain P ops T w (Q .normal) [] a u := by
      rcases hL with ⟨hs0, hp, hL⟩ | ⟨_, _, hL⟩
      · have hke : k = si.length := by
          rcases Nat.lt_or_ge k si.length with h | h
          · exact absurd ((hK k si[k] (List.getElem?_eq_getElem h)).2 (Nat.le_refl _)) (by simp)
          · omega
        subst hke
        exact hL (fun _ => (0, 0)) u (Upd.refl _ _) hp (by simp) (by simp)
      · exact hL u (Below.refl _ _)
    refine ⟨?_, hfin⟩
    rw [List.eq_nil_iff_forall_not_mem]
    intro j hj
    obtain ⟨h4, o, ho, _⟩ := mem_ready.1 hj
    have hjs : j < ops.size := (Array.getElem?_eq_some_iff.1 ho).1
    rcases (hun j hjs).1 h4 with h5 | h5 | h5
    · cases h5
    · cases h5
    · simp at hsm; omega
  | succ fuel ih =>
    intro hs ms ls s vs listed a u k hf hsz hsm hn hls hpw hlt hmi hmn hun hlen hY hu hK hR hL hkm
    have hlisted : ∀ i, i < ops.size → i ∉ hs → i ∉ ms.map (·.j) → i < s → listed.getD i false = true := by
      intro i hi h1 h2 h0
      have h3 : ¬ (listed.getD i true = false) := fun h => by
        rcases (hun i hi).1 h with h | h | h
        · exact h1 h
        · exact h2 h
        · omega
      have hi' : i < listed.size := by omega
      simp [hi'] at h3 ⊢
      exact h3
    -- the least that is left
    have hleast : ∃ i, i < ops.size ∧ (i ∈ hs ∨ i ∈ ms.map (·.j) ∨ s ≤ i) ∧ (∀ x, x < i → x ∉ hs ∧ x ∉ ms.map (·.j) ∧ x < s) := by
      have hex : ∃ i, i < ops.size ∧ (i ∈ hs ∨ i ∈ ms.map (·.j) ∨ s ≤ i) := by
        cases hs with
        | cons i hs => exact ⟨i, (hlt i List.mem_cons_self).2, .inl List.mem_cons_self⟩
        | nil =>
          cases ms with
          | cons x ms =>
            have hx := hmi x List.mem_cons_self
            exact ⟨x.j, (Array.getElem?_eq_some_iff.1 hx.2).1, .inr (.inl (by simp))⟩
          | nil => exact ⟨s, by simp at hf; omega, .inr (.inr (Nat.le_refl _))⟩
      have hdec : ∀ b, (∃ i, i < b ∧ i < ops.size ∧ (i ∈ hs ∨ i ∈ ms.map (·.j) ∨ s ≤ i)) → ∃ i, i < ops.size ∧ (i ∈ hs ∨ i ∈ ms.map (·.j) ∨ s ≤ i) ∧ (∀ x, x < i → x ∉ hs ∧ x ∉ ms.map (·.j) ∧ x < s) := by
        intro b
        induction b with
        | zero => rintro ⟨i, h, _⟩; omega
        | succ b ihb =>
          rintro ⟨i, hib, his, hin⟩
          by_cases hsm : ∃ i, i < b ∧ i < ops.size ∧ (i ∈ hs ∨ i ∈ ms.map (·.j) ∨ s ≤ i)
          · exact ihb hsm
          · have hib' : i = b := by
              by_cases h : i < b
              · exact absurd ⟨i, h, his, hin⟩ hsm
              · omega
            subst hib'
            refine ⟨i, his, hin, fun x hx => ⟨fun h => hsm ⟨x, hx, by omega, .inl h⟩, fun h => hsm ⟨x, hx, by omega, .inr (.inl h)⟩, ?_⟩⟩
            by_cases hxs : x < s
            · exact hxs
            · exact absurd ⟨x, hx, by omega, .inr (.inr (by omega))⟩ hsm
      obtain ⟨i, h1, h2⟩ := hex
      exact hdec (i + 1) ⟨i, by omega, h1, h2⟩
    refine ⟨fun hr => ?_, fun j hj => ?_⟩
    · exfalso
      obtain ⟨i, hi, hin, hlow⟩ := hleast
      have hmem : i ∈ Region.ready .any ops listed := mem_ready.2 ⟨(hun i hi).2 hin, ops[i], Array.getElem?_eq_getElem hi, fun e he hb => by
        have h1 := F.back i ops[i] (Array.getElem?_eq_getElem hi) e he hb
        exact hlisted _ (by omega) (hlow _ h1).1 (hlow _ h1).2.1 (hlow _ h1).2.2⟩
      rw [hr] at hmem
      cases hmem
    · obtain ⟨hj0, o, ho, hall⟩ := mem_ready.1 hj
      have hjs : j < ops.size := (Array.getElem?_eq_some_iff.1 ho).1
      have hnowait : ∀ i, (i ∈ hs ∨ i ∈ ms.map (·.j) ∨ s ≤ i) → i < ops.size → ∀ e ∈ o.after, Region.binds .any e = true → e.on ≠ i := by
        intro i hi his e he hb heq
        have h1 := hall e he hb
        have h2 := (hun i his).2 hi
        have his' : i < listed.size := by omega
        rw [heq] at h1
        simp [his'] at h1 h2
        rw [h1] at h2; cases h2
      have hsel := fun cs b => F.sel j o cs b ho
      have hset : ∀ i, i < ops.size → i ≠ j → ((listed.setIfInBounds j true).getD i true = false ↔ (i ∈ hs ∨ i ∈ ms.map (·.j) ∨ s ≤ i)) := fun i hi hij => by
        rw [getD_set_ne true (Ne.symm hij), hun i hi]
      have hset0 : ¬ ((listed.setIfInBounds j true).getD j true = false) := by
        have : j < listed.size := by omega
        simp only [Array.getD_eq_getD_getElem?, Array.getElem?_setIfInBounds_self_of_lt this, Option.getD_some]
        intro h; cases h
      have hdisj : ∀ i ∈ hs, i ∉ ms.map (·.j) ∧ i < s := fun i hi => by
        refine ⟨fun hm => ?_, ?_⟩
        · rw [List.mem_map] at hm
          obtain ⟨x, hx, rfl⟩ := hm
          exact (hlt x.j hi).1.2 (hmi x hx).1
        · have := (hlt i hi).1.1; omega
      have hhead : ∀ i ∈ hs, i ≠ j → (j < c → j ∉ mi → i < j) → Apart ops i j := by
        intro i hi hij hij2 oi oj hoi hoj
        have h1 := hlt i hi
        rw [ho] at hoj; cases hoj
        rcases Nat.lt_or_ge i j with h | h
        · exact F.free i j oi o h1.1.1 h1.1.2 h hoi ho (hnowait i (.inl hi) h1.2)
        · have h2 : j ∈ mi := by
            rcases Classical.em (j ∈ mi) with hh | hh
            · exact hh
            · have h3 := h1.1.1
              have := hij2 (by omega) hh; omega
          exact F.behind i j oi o h1.1.1 h1.1.2 h2 (by omega) hoi ho
      rcases (hun j hjs).1 hj0 with hjh | hjm | hjl
      · -- reads, reckons, calls
        obtain ⟨pre, post, rfl⟩ := List.append_of_mem hjh
        have hpl : pre.length < vs.length := by rw [← hlen]; simp
        obtain ⟨vpre, vj, vpost, rfl, hvl⟩ : ∃ vpre vj vpost, vs = vpre ++ vj :: vpost ∧ pre.length = vpre.length := by
          refine ⟨vs.take pre.length, vs[pre.length], vs.drop (pre.length + 1), ?_, by simp; omega⟩
          rw [← List.drop_eq_getElem_cons hpl, List.take_append_drop]
        have hpj : ∀ i ∈ pre, Apart ops i j := by
          intro i hi
          have hij : i < j := by
            rw [List.pairwise_append] at hpw
            exact hpw.2.2 i hi j (List.mem_cons_self)
          exact hhead i (List.mem_append_left _ hi) (by omega) (fun _ _ => hij)
        obtain ⟨⟨⟨_, o', hoj, hy⟩, hY3⟩, hpe0⟩ := yg_pull (blindDS F.sel) (vj := vj) pre vpre a hvl hpj hY
        rw [ho] at hoj; cases hoj
        have hpe : puts ops (pre ++ post) (vpre ++ vpost) (a.put o.dst vj) = puts ops (pre ++ j :: post) (vpre ++ vj :: vpost) a := by
          have h1 := hpe0
          simp only [puts] at h1
          rw [dstOf_some ho] at h1
          exact h1.symm
        have hY4 : YG ops (DS P ops T w Ph si) (pre ++ post) (vpre ++ vpost) (a.put o.dst vj) := by rwa [dstOf_some ho] at hY3
        have hnd : j ∉ pre ++ post := by
          intro h
          rw [List.pairwise_append] at hpw
          rcases List.mem_append.1 h with h | h
          · have := hpw.2.2 j h j (List.mem_cons_self); omega
          · have := (List.pairwise_cons.1 hpw.2.1).1 j h; omega
        have hsub : (pre ++ post).Pairwise (· < ·) := hpw.sublist (List.Sublist.append (List.Sublist.refl pre) (List.sublist_cons_self j post))
        have hlt' : ∀ i ∈ pre ++ post, (i < c ∧ i ∉ mi) ∧ i < ops.size := by
          intro i hi
          refine hlt i ?_
          rcases List.mem_append.1 hi with h | h
          · exact List.mem_append_left _ h
          · exact List.mem_append_right _ (List.mem_cons_of_mem _ h)
        have hun' : ∀ i, i < ops.size → ((listed.setIfInBounds j true).getD i true = false ↔ (i ∈ pre ++ post ∨ i ∈ ms.map (·.j) ∨ s ≤ i)) := by
          intro i hi
          by_cases hij : i = j
          · subst hij
            have h5 := hdisj i hjh
            constructor
            · intro h; exact absurd h hset0
            · rintro (h | h | h)
              · exact absurd h hnd
              · exact absurd h h5.1
              · omega
          · rw [hset i hi hij]
            simp only [List.mem_append, List.mem_cons]
            constructor
            · rintro ((h | h | h) | h)
              · exact .inl (.inl h)
              · exact absurd h hij
              · exact .inl (.inr h)
              · exact .inr h
            · rintro ((h | h) | h)
              · exact .inl (.inl h)
              · exact .inl (.inr (.inr h))
              · exact .inr h
        have hmemne : ∀ i, i ≠ j → (i ∈ pre ++ j :: post ↔ i ∈ pre ++ post) := fun i hij => by
          simp only [List.mem_append, List.mem_cons]
          constructor
          · rintro (h | h | h)
            · exact .inl h
            · exact absurd h hij
            · exact .inr h
          · rintro (h | h)
            · exact .inl h
            · exact .inr (.inr h)
        rcases hy with ⟨hjs2, hst⟩ | ⟨hjns, hy⟩
        · -- a stepper
          obtain ⟨n, hn1⟩ := List.getElem?_of_mem hjs2
          have hnl : n < si.length := (List.getElem?_eq_some_iff.1 hn1).1
          have hkn : k ≤ n := (hK n j hn1).1 (by simp)
          obtain ⟨hsc, hp, hA⟩ : s = c ∧ Ph k u ∧ ASt P ops T w Ph si.length (Q .normal) ls ms (puts ops (pre ++ j :: post) (vpre ++ vj :: vpost) a) u := by
            rcases hL with h | ⟨_, h, _⟩
            · exact h
            · omega
          have hnk : n = k := by
            rcases Nat.lt_or_ge k n with h | h
            · exfalso
              have hm1 : n - 1 < si.length := by omega
              obtain ⟨e, he, hb, hon⟩ := G.next (n - 1) si[n - 1] j o (List.getElem?_eq_getElem hm1) (by rw [show n - 1 + 1 = n by omega]; exact hn1) ho
              have hpend : si[n - 1] ∈ pre ++ j :: post := (hK (n - 1) _ (List.getElem?_eq_getElem hm1)).2 (by omega)
              exact hnowait _ (.inl hpend) (hlt _ hpend).2 e he hb hon
            · omega
          subst hnk
          have hidx : si.idxOf j = n := by
            have h1 : si[n] = j := by rw [List.getElem?_eq_getElem hnl] at hn1; exact Option.some.inj hn1
            rw [← h1]; exact G.nd.idxOf_getElem n hnl
          rw [hidx] at hst
          have hwp : o.wp P a u (wpAny P .any ops Q fuel (listed.setIfInBounds j true)) Q := by
            refine wp_of_late (K := fun v' u' => v' = vj ∧ Upd T u u' ∧ Ph (n + 1) u') (hst.2 u hu hp) (fun v' u1 hv => ?_)
            obtain ⟨rfl, hup, hp1⟩ := hv
            refine ih (pre ++ post) ms ls s (vpre ++ vpost) _ _ u1 (n + 1) (by simp at hf ⊢; omega) (by simpa using hsz) hsm hn hls hsub hlt' hmi hmn hun' (by simp at hlen ⊢; omega) hY4 (Upd.keeps hu hup) ?_ ?_ (.inl ⟨hsc, hp1, ?_⟩) (by omega)
            · intro n' i' hi'
              by_cases hij : i' = j
              · subst hij
                have hnn : n' = n := by
                  have h1 := (List.getElem?_eq_some_iff.1 hi')
                  obtain ⟨h1, h2⟩ := h1
                  have h3 : si.idxOf i' = n' := by rw [← h2]; exact G.nd.idxOf_getElem n' h1
                  omega
                constructor
                · intro h; exact absurd h hnd
                · intro h; omega
              · have h1 := hK n' i' hi'
                rw [hmemne i' hij] at h1
                rw [h1]
                constructor
                · intro h
                  rcases Nat.lt_or_ge n n' with h2 | h2
                  · omega
                  · have : n' = n := by omega
                    subst this
                    rw [hn1] at hi'; exact absurd (Option.some.inj hi').symm hij
                · intro h; omega
            · rw [hpe]; exact hR
            · rw [hpe]; exact hA.later hup
          unfold wpOp
          simp only [ho]
          rw [if_pos hst.1]
          exact .inl hwp
        have hcl : CL T w u u := ⟨⟨u, hu, Below.refl _ _⟩, rfl⟩
        have hq : qOp P ops (CL T w u) j (fun a' => a' = a.put o.dst vj) a := (hy u hu).qOp ho rfl
        refine wpOp_of_qOp hcl (fun a' u' hu'' ha' => ?_) hq
        obtain ⟨x, rfl⟩ := hu''
        subst ha'
        refine ih (pre ++ post) ms ls s (vpre ++ vpost) _ _ x.u k (by simp at hf ⊢; omega) (by simpa using hsz) hsm hn hls hsub hlt' hmi hmn hun' (by simp at hlen ⊢; omega) hY4 x.h ?_ ?_ ?_ hkm
        · intro n' i' hi'
          have hij : i' ≠ j := fun e => hjns (e ▸ List.mem_of_getElem? hi')
          rw [← hmemne i' hij]
          exact hK n' i' hi'
        · rw [hpe]; exact hR
        · rw [hpe]
          rcases hL with ⟨h1, h2, h3⟩ | ⟨h1, h2, h3⟩
          · exact .inl ⟨h1, hPB _ _ _ h2 x.g, h3.later (Upd.of_below x.g)⟩
          · exact .inr ⟨h1, h2, fun u' hu' => h3 u' (x.g.trans (hu'.mono x.g.size))⟩
      · -- makes a block
        rw [List.mem_map] at hjm
        obtain ⟨x, hx, rfl⟩ := hjm
        have hxi := hmi x hx
        have hxo : x.o = o := by have := hxi.2; rw [ho] at this; exact (Option.some.inj this).symm
        obtain ⟨pre, post, rfl⟩ := List.append_of_mem hx
        have hap : ∀ i ∈ hs, (∃ o, ops[i]? = some o) ∧ Apart ops i x.j := by
          intro i hi
          have h1 := hlt i hi
          exact ⟨⟨ops[i]'h1.2, Array.getElem?_eq_getElem h1.2⟩, hhead i hi (fun e => h1.1.2 (e ▸ hxi.1)) (fun _ h => absurd hxi.1 h)⟩
        have hnj : x.j ∉ (pre ++ post).map (·.j) := by
          rw [List.map_append, List.map_cons, List.nodup_append] at hmn
          rw [List.map_append, List.mem_append]
          rintro (h | h)
          · exact hmn.2.2 _ h _ (List.mem_cons_self) rfl
          · exact (List.nodup_cons.1 hmn.2.1).1 h
        have hmemab : ∀ y ∈ pre ++ post, y ∈ pre ++ x :: post := fun y hy => by
          rcases List.mem_append.1 hy with h | h
          · exact List.mem_append_left _ h
          · exact List.mem_append_right _ (List.mem_cons_of_mem _ h)
        have hxy : ∀ y ∈ pre ++ post, x.o.apart ops y.o = true ∧ y.o.apart ops x.o = true := fun y hy => by
          have hyi := hmi y (hmemab y hy)
          have hne : x.j ≠ y.j := fun h => hnj (by rw [List.mem_map]; exact ⟨y, hy, h.symm⟩)
          exact ⟨F.memApart x.j y.j x.o y.o hxi.1 hyi.1 hne hxi.2 hyi.2, F.memApart y.j x.j y.o x.o hyi.1 hxi.1 (Ne.symm hne) hyi.2 hxi.2⟩
        obtain ⟨hsc, hp, hL⟩ : s = c ∧ Ph k u ∧ ASt P ops T w Ph si.length (Q .normal) ls (pre ++ x :: post) (puts ops hs vs a) u := by
          rcases hL with h | ⟨h, _, _⟩
          · exact h
          · simp at h
        have hrun := (hR x hx).2 u hu
        have hwant := (hR x hx).1
        rw [hxo] at hrun hwant
        unfold lateOp at hrun
        rw [exec_puts hsel ho hs vs a hap] at hrun
        rw [wanted_puts ho hs vs a hap] at hwant
        have hwp : o.wp P a u (wpAny P .any ops Q fuel (listed.setIfInBounds x.j true)) Q := by
          refine wp_of_late (K := fun v u' => ∃ p, v = x.val p ∧ u.heap.size ≤ p.1 ∧ p.1 < u'.heap.size ∧ Below u.heap.size u u' ∧ x.R p u') hrun (fun v u1 hv => ?_)
          obtain ⟨p, rfl, hp1, hp2, hub, hxR⟩ := hv
          have hYn : YG ops (DS P ops T w Ph si) hs vs (a.put o.dst (x.val p)) := by
            have := yg_put (blindDS F.sel) ho (x := x.val p) hs vs a (fun i hi => (hap i hi).2) hY
            rwa [dstOf_some ho] at this
          have hpn : puts ops hs vs (a.put o.dst (x.val p)) = (puts ops hs vs a).put o.dst (x.val p) := by
            have := puts_put ho (x := x.val p) hs vs a hap
            rwa [dstOf_some ho] at this
          refine ih hs (pre ++ post) ls s vs _ _ u1 k (by simp at hf ⊢; omega) (by simpa using hsz) hsm hn hls hpw hlt (fun y hy => hmi y (hmemab y hy)) ?_ ?_ hlen hYn (hu.later hub) hK ?_ (.inl ⟨hsc, hPB _ _ _ hp hub, ?_⟩) hkm
          · rw [List.map_append, List.map_cons] at hmn
            rw [List.map_append]
            exact hmn.sublist (List.Sublist.append (List.Sublist.refl _) (List.sublist_cons_self _ _))
          · intro i hi
            by_cases hij : i = x.j
            · subst hij
              constructor
              · intro h; exact absurd h hset0
              · rintro (h | h | h)
                · exact absurd hxi.1 (hlt _ h).1.2
                · exact absurd h hnj
                · have := F.lt _ hxi.1; omega
            · rw [hset i hi hij]
              simp only [List.map_append, List.mem_append, List.map_cons, List.mem_cons]
              constructor
              · rintro (h | (h | h | h) | h)
                · exact .inl h
                · exact .inr (.inl (.inl h))
                · exact absurd h hij
                · exact .inr (.inl (.inr h))
                · exact .inr (.inr h)
              · rintro (h | (h | h) | h)
                · exact .inl h
                · exact .inr (.inl (.inl h))
                · exact .inr (.inl (.inr (.inr h)))
                · exact .inr (.inr h)
          · intro y hy
            rw [hpn, ← hxo]
            have hys := F.sel y.j y.o
            have hapy := (Oper.apart_spec (hxy y hy).1).1
            refine ⟨?_, fun u2 hu2 => ?_⟩
            · rw [wanted_put (ops := ops) y.o (puts ops hs vs a) x.o.dst (x.val p) hapy]
              exact (hR y (hmemab y hy)).1
            · have := execOp_put (ops := ops) y.o (fun cs b => hys cs b (hmi y (hmemab y hy)).2) (puts ops hs vs a) x.o.dst (x.val p) hapy
              unfold lateOp
              rw [this]
              exact (hR y (hmemab y hy)).2 u2 hu2
          · intro f u' hu' hpm hfm hfn
            rw [hpn]
            have key := hL (fun j => if j = x.j then p else f j) u' ((Upd.of_below hub).trans hu') hpm
              (fun y hy => ?_) ?_
            · rw [putS_pull _ pre _ (fun y hy d hd hd2 => (Oper.apart_spec (hxy y (List.mem_append_left _ hy)).2).2.1 d hd hd2)] at key
              rw [if_pos rfl] at key
              rw [putS_congr (g := f) (pre ++ post) _ (fun y hy => if_neg (fun h => hnj (by rw [List.mem_map]; exact ⟨y, hy, h⟩)))] at key
              rw [← hxo]
              exact key
            · by_cases hyx : y.j = x.j
              · rw [if_pos hyx]
                have hyx' : y = x := by
                  rcases List.mem_append.1 hy with h | h
                  · exact absurd (by rw [← hyx, List.mem_map]; exact ⟨y, List.mem_append_left _ h, rfl⟩) hnj
                  · rcases List.mem_cons.1 h with h | h
                    · exact h
                    · exact absurd (by rw [← hyx, List.mem_map]; exact ⟨y, List.mem_append_right _ h, rfl⟩) hnj
                subst hyx'
                exact ⟨hp1, Nat.lt_of_lt_of_le hp2 hu'.size, y.st _ _ _ hxR hu'⟩
              · rw [if_neg hyx]
                have hy' : y ∈ pre ++ post := by
                  rcases List.mem_append.1 hy with h | h
                  · exact List.mem_append_left _ h
                  · rcases List.mem_cons.1 h with h | h
                    · exact absurd (by rw [h]) hyx
                    · exact List.mem_append_right _ h
                have h5 := hfm y hy'
                have h6 := hub.size
                exact ⟨by omega, h5.2.1, h5.2.2⟩
            · rw [List.map_append, List.map_cons, if_pos rfl]
              have e1 : ∀ l : List (ES T), (∀ y ∈ l, y ∈ pre ++ post) → (l.map fun m => (if m.j = x.j then p else f m.j).1) = l.map fun m => (f m.j).1 := fun l hl => by
                refine List.map_congr_left (fun y hy => by rw [if_neg (fun h => hnj (by rw [List.mem_map]; exact ⟨y, hl y hy, h⟩))])
              rw [e1 pre (fun y hy => List.mem_append_left _ hy), e1 post (fun y hy => List.mem_append_right _ hy)]
              rw [List.map_append, List.nodup_append] at hfn
              have hge : ∀ z ∈ (pre ++ post), (f z.j).1 ≠ p.1 := fun z hz => by have := (hfm z hz).1; omega
              rw [List.nodup_append, List.nodup_cons]
              refine ⟨hfn.1, ⟨fun h => ?_, hfn.2.1⟩, fun p' hp r hr => ?_⟩
              · rw [List.mem_map] at h
                obtain ⟨z, hz, hz2⟩ := h
                exact hge z (List.mem_append_right _ hz) hz2
              · rcases List.mem_cons.1 hr with h | h
                · subst h
                  rw [List.mem_map] at hp
                  obtain ⟨z, hz, rfl⟩ := hp
                  exact hge z (List.mem_append_left _ hz)
                · exact hfn.2.2 p' hp r h
        unfold wpOp
        simp only [ho]
        rw [if_pos hwant]
        exact .inl hwp
      · -- the next of the chain
        have hjs' : j = s := by
          rcases Nat.lt_or_ge s j with h | h
          · exfalso
            obtain ⟨e, he, hb, hon⟩ := F.chain j o (by omega) ho
            exact hnowait (j - 1) (.inr (.inr (by omega))) (by omega) e he hb hon
          · omega
        subst hjs'
        obtain ⟨hms, hke⟩ : ms = [] ∧ k = si.length := by
          rcases hL with ⟨h, _, _⟩ | ⟨h, h2, _⟩
          · constructor
            · cases ms with
              | nil => rfl
              | cons x ms =>
                exfalso
                have hxi := hmi x List.mem_cons_self
                obtain ⟨e, he, hb, hon⟩ := F.memChain o (by rw [← h]; exact ho) x.j hxi.1
                exact hnowait x.j (.inr (.inl (by simp))) (by have := F.lt _ hxi.1; omega) e he hb hon
            · rcases Nat.lt_or_ge k si.length with h3 | h3
              · exfalso
                have hpend : si[k] ∈ hs := (hK k _ (List.getElem?_eq_getElem h3)).2 (Nat.le_refl _)
                obtain ⟨e, he, hb, hon⟩ := G.last o (by rw [← h]; exact ho) si[k] (List.getElem_mem h3)
                exact hnowait _ (.inl hpend) (hlt _ hpend).2 e he hb hon
              · omega
          · exact ⟨h, by omega⟩
        subst hms
        obtain ⟨o', ls', rfl⟩ : ∃ o' ls', ls = o' :: ls' := by
          cases ls with
          | nil => simp at hsm; omega
          | cons o' ls' => exact ⟨o', ls', rfl⟩
        have ho' : o' = o := by have := hls 0; simp [ho] at this; exact this
        subst ho'
        have hap : ∀ i ∈ hs, (∃ o, ops[i]? = some o) ∧ Apart ops i j := by
          intro i hi
          have h1 := hlt i hi
          exact ⟨⟨ops[i]'h1.2, Array.getElem?_eq_getElem h1.2⟩, hhead i hi (fun e => by have := h1.1.1; omega) (fun h _ => by omega)⟩
        have hls' : ∀ i, ls'[i]? = ops[j + 1 + i]? := fun i => by have := hls (i + 1); rw [show j + 1 + i = j + (i + 1) by omega, ← this]; rfl
        have hlate0 : effChain P ops T w (Q .normal) (o' :: ls') (puts ops hs vs a) u := by
          rcases hL with ⟨_, hp, h⟩ | ⟨_, _, h⟩
          · rw [hke] at hp
            exact h (fun _ => (0, 0)) u (Upd.refl _ _) hp (by simp) (by simp)
          · exact h u (Below.refl _ _)
        simp only [effChain] at hlate0
        obtain ⟨hwant, hlate⟩ := hlate0
        rw [wanted_puts ho hs vs a hap] at hwant
        have hex := exec_puts hsel ho hs vs a hap
        have hwp : o'.wp P a u (wpAny P .any ops Q fuel (listed.setIfInBounds j true)) Q := by
          unfold lateOp at hlate
          rw [hex] at hlate
          refine wp_of_late (K := fun v u' => Keeps T w u' ∧ ∀ u'', Below u'.heap.size u' u'' → effChain P ops T w (Q .normal) ls' ((puts ops hs vs a).put o'.dst v) u'') hlate (fun v u' hl' => ?_)
          have hpn : puts ops hs vs (a.put o'.dst v) = (puts ops hs vs a).put o'.dst v := by
            have := puts_put ho (x := v) hs vs a hap
            rwa [dstOf_some ho] at this
          have hYn : YG ops (DS P ops T w Ph si) hs vs (a.put o'.dst v) := by
            have := yg_put (blindDS F.sel) ho (x := v) hs vs a (fun i hi => (hap i hi).2) hY
            rwa [dstOf_some ho] at this
          refine ih hs [] ls' (j + 1) vs _ _ u' k (by simp at hf ⊢; omega) (by simpa using hsz) (by simp at hsm; omega) (by omega) hls' hpw hlt (by simp) (by simp) ?_ hlen hYn hl'.1 hK (by simp) (.inr ⟨rfl, by omega, fun u'' hu'' => ?_⟩) hkm
          · intro i hi
            by_cases hij : i = j
            · subst hij
              constructor
              · intro h; exact absurd h hset0
              · rintro (h | h | h)
                · have := (hlt _ h).1.1; omega
                · cases h
                · omega
            · rw [hset i hi hij]
              constructor
              · rintro (h | h | h)
                · exact .inl h
                · exact .inr (.inl h)
                · exact .inr (.inr (by omega))
              · rintro (h | h | h)
                · exact .inl h
                · exact .inr (.inl h)
                · exact .inr (.inr (by omega))
          · rw [hpn]; exact hl'.2 u'' hu''
        unfold wpOp
        simp only [ho]
        rw [if_pos hwant]
        exact .inl hwp


/-- Where the operations before the chain are cut: a maker (no value), or a stepper and its value. -/
def cutIdx (c : Nat) : Nat → List (Nat × Option Value) → List Nat
  | i, [] => List.range' i (c - i)
  | i, (m, none) :: cs => List.range' i (m - i) ++ cutIdx c (m + 1) cs
  | i, (m, some _) :: cs => List.range' i (m - i) ++ m :: cutIdx c (m + 1) cs
def cutMi : List (Nat × Option Value) → List Nat
  | [] => []
  | (m, none) :: cs => m :: cutMi cs
  | (_, some _) :: cs => cutMi cs
def cutSi : List (Nat × Option Value) → List Nat
  | [] => []
  | (_, none) :: cs => cutSi cs
  | (m, some _) :: cs => m :: cutSi cs
def sortedC (c : Nat) : Nat → List (Nat × Option Value) → Bool
  | i, [] => decide (i ≤ c)
  | i, (m, _) :: cs => decide (i ≤ m) && sortedC c (m + 1) cs
/-- Each piece between two cuts writes each place once. -/
def cutsFit (l : List Oper) (c size : Nat) : Nat → List (Nat × Option Value) → Bool
  | i, [] => placesFit ((l.drop i).take (c - i)) size
  | i, (m, _) :: cs => placesFit ((l.drop i).take (m - i)) size && cutsFit l c size (m + 1) cs

theorem cut_spec (c : Nat) : ∀ (cs : List (Nat × Option Value)) (i : Nat), sortedC c i cs = true →
    (∀ x, x ∈ cutIdx c i cs ↔ (i ≤ x ∧ x < c ∧ x ∉ cutMi cs)) ∧ (cutIdx c i cs).Pairwise (· < ·) ∧ i ≤ c ∧ (∀ m ∈ cutMi cs, i ≤ m ∧ m < c) ∧ (cutMi cs).Nodup ∧
    (∀ m ∈ cutSi cs, i ≤ m ∧ m < c ∧ m ∉ cutMi cs) ∧ (cutSi cs).Nodup ∧ (cutIdx c i cs).length + (cutMi cs).length = c - i
  | [], i, h => by
    simp only [sortedC, decide_eq_true_eq] at h
    refine ⟨fun x => ?_, List.pairwise_lt_range', h, by simp [cutMi], List.nodup_nil, by simp [cutSi], List.nodup_nil, by simp [cutIdx, cutMi]⟩
    simp only [cutIdx, cutMi, List.mem_range'_1, List.not_mem_nil, not_false_eq_true, and_true]
    omega
  | (m, none) :: cs, i, h => by
    simp only [sortedC, Bool.and_eq_true, decide_eq_true_eq] at h
    obtain ⟨h1, h2, h3, h4, h5, h6, h7, h8⟩ := cut_spec c cs (m + 1) h.2
    have him := h.1
    refine ⟨fun x => ?_, ?_, by omega, ?_, ?_, ?_, h7, ?_⟩
    · simp only [cutIdx, cutMi, List.mem_append, List.mem_range'_1, h1, List.mem_cons, not_or]
      constructor
      · rintro (hx | hx)
        · exact ⟨by omega, by omega, by omega, fun hxm => by have := h4 x hxm; omega⟩
        · exact ⟨by omega, hx.2.1, by omega, hx.2.2⟩
      · rintro ⟨ha, hb, hc', hd⟩
        rcases Nat.lt_or_ge x m with hl | hl
        · left; omega
        · right; exact ⟨by omega, hb, hd⟩
    · simp only [cutIdx]
      rw [List.pairwise_append]
      refine ⟨List.pairwise_lt_range', h2, fun x hx y hy => ?_⟩
      have := List.mem_range'_1.1 hx
      have := (h1 y).1 hy
      omega
    · intro x hx
      simp only [cutMi] at hx
      rcases List.mem_cons.1 hx with rfl | hx
      · exact ⟨him, by omega⟩
      · have := h4 x hx; omega
    · simp only [cutMi]
      rw [List.nodup_cons]
      exact ⟨fun hm => by have := h4 m hm; omega, h5⟩
    · intro x hx
      simp only [cutSi] at hx
      have := h6 x hx
      refine ⟨by omega, by omega, ?_⟩
      simp only [cutMi, List.mem_cons, not_or]
      exact ⟨by omega, this.2.2⟩
    · simp only [cutIdx, cutMi, List.length_append, List.length_range', List.length_cons]; omega
  | (m, some v) :: cs, i, h => by
    simp only [sortedC, Bool.and_eq_true, decide_eq_true_eq] at h
    obtain ⟨h1, h2, h3, h4, h5, h6, h7, h8⟩ := cut_spec c cs (m + 1) h.2
    have him := h.1
    have hmn : m ∉ cutMi cs := fun hm => by have := h4 m hm; omega
    refine ⟨fun x => ?_, ?_, by omega, ?_, by simpa [cutMi] using h5, ?_, ?_, ?_⟩
    · simp only [cutIdx, cutMi, List.mem_append, List.mem_range'_1, List.mem_cons, h1]
      constructor
      · rintro (hx | hx | hx)
        · exact ⟨by omega, by omega, fun hxm => by have := h4 x hxm; omega⟩
        · subst hx; exact ⟨by omega, by omega, hmn⟩
        · exact ⟨by omega, hx.2.1, hx.2.2⟩
      · rintro ⟨ha, hb, hd⟩
        rcases Nat.lt_trichotomy x m with hl | hl | hl
        · left; omega
        · right; left; exact hl
        · right; right; exact ⟨by omega, hb, hd⟩
    · simp only [cutIdx]
      rw [List.pairwise_append, List.pairwise_cons]
      refine ⟨List.pairwise_lt_range', ⟨fun y hy => ?_, h2⟩, fun x hx y hy => ?_⟩
      · have := (h1 y).1 hy; omega
      · have := List.mem_range'_1.1 hx
        rcases List.mem_cons.1 hy with rfl | hy
        · omega
        · have := (h1 y).1 hy; omega
    · intro x hx
      simp only [cutMi] at hx
      have := h4 x hx; omega
    · intro x hx
      simp only [cutSi] at hx
      simp only [cutMi]
      rcases List.mem_cons.1 hx with rfl | hx
      · exact ⟨him, by omega, hmn⟩
      · have := h6 x hx; exact ⟨by omega, this.2.1, this.2.2⟩
    · simp only [cutSi]
      rw [List.nodup_cons]
      exact ⟨fun hm => by have := h6 m hm; omega, h7⟩
    · simp only [cutIdx, cutMi, List.length_append, List.length_range', List.length_cons]; omega

def oneOp : List Oper → (Oper → Prop) → Prop
  | [o], K => K o
  | _, _ => False
/-- The walk of the operations before the chain, in the text's order: a quiet walk for each piece, a step at each stepper; makers are passed over. -/
def cutWalk (P : Program) (l : List Oper) (T : List Nat) (w : World) (Ph : Nat → World → Prop) (c : Nat) : Nat → Nat → List (Nat × Option Value) → Act → (Act → Prop) → Prop
  | i, _, [], a, K => ∃ A, (∀ v, Keeps T w v → Nonempty (Later T w v) → wpQuiet P l.toArray (fun w' => ∃ x : Later T w v, w' = x.u) (fun a' => a' = A) ((l.drop i).take (c - i)) a) ∧ K A
  | i, k, (m, none) :: cs, a, K => ∃ A, (∀ v, Keeps T w v → Nonempty (Later T w v) → wpQuiet P l.toArray (fun w' => ∃ x : Later T w v, w' = x.u) (fun a' => a' = A) ((l.drop i).take (m - i)) a) ∧ cutWalk P l T w Ph c (m + 1) k cs A K
  | i, k, (m, some v) :: cs, a, K => ∃ A, (∀ v, Keeps T w v → Nonempty (Later T w v) → wpQuiet P l.toArray (fun w' => ∃ x : Later T w v, w' = x.u) (fun a' => a' = A) ((l.drop i).take (m - i)) a) ∧
      oneOp ((l.drop m).take 1) (fun o => stepRun P l.toArray T w Ph k o v A ∧ cutWalk P l T w Ph c (m + 1) (k + 1) cs (A.put o.dst v) K)

theorem yg_of_all {Ph : Nat → World → Prop} {si : List Nat} : ∀ (is : List Nat) (vs : List Value) (a : Act), (∀ i ∈ is, i ∉ si) → (∀ v, Keeps T w v → YSeq P ops (CL T w v) is vs a) → YG ops (DS P ops T w Ph si) is vs a
  | [], [], _, _, _ => trivial
  | i :: is, v :: vs, a, hn, h => by
    obtain ⟨⟨o, ho, _⟩, _⟩ := h w (Keeps.refl _ _)
    refine ⟨⟨⟨o, ho⟩, o, ho, .inr ⟨hn i List.mem_cons_self, fun x hx => ?_⟩⟩, yg_of_all is vs _ (fun j hj => hn j (List.mem_cons_of_mem _ hj)) (fun x hx => (h x hx).2)⟩
    obtain ⟨⟨o', ho', hy⟩, _⟩ := h x hx
    rw [ho] at ho'; cases ho'
    exact hy
  | [], _ :: _, _, _, h => (h w (Keeps.refl _ _)).elim
  | _ :: _, [], _, _, h => (h w (Keeps.refl _ _)).elim

theorem puts_size : ∀ (is : List Nat) (vs : List Value) (a : Act), (puts ops is vs a).tmps.size = a.tmps.size
  | [], _, _ => by simp [puts]
  | _ :: _, [], _ => by simp [puts]
  | i :: is, v :: vs, a => by simp only [puts]; rw [puts_size is vs, put_size]
theorem piece {l : List Oper} {Ph : Nat → World → Prop} {si : List Nat} {i m : Nat} {a A : Act} (hml : m ≤ l.length) (hp : placesFit ((l.drop i).take (m - i)) a.tmps.size = true) (hns : ∀ x, i ≤ x → x < m → x ∉ si)
    (hq : ∀ v, Keeps T w v → Nonempty (Later T w v) → wpQuiet P l.toArray (fun w' => ∃ x : Later T w v, w' = x.u) (fun a' => a' = A) ((l.drop i).take (m - i)) a) :
    ∃ vs : List Value, (List.range' i (m - i)).length = vs.length ∧ YG l.toArray (DS P l.toArray T w Ph si) (List.range' i (m - i)) vs a ∧ puts l.toArray (List.range' i (m - i)) vs a = A := by
  simp only [placesFit, Bool.and_eq_true, decide_eq_true_eq] at hp
  have hlen : ((l.drop i).take (m - i)).length = (List.range' i (m - i)).length := by simp; omega
  have hY := fun v hv => yseq_of_quiet (P := P) (ops := l.toArray) (C := CL T w v) (A := A) ((l.drop i).take (m - i)) (List.range' i (m - i)) a hlen (fun j x hj => by rw [(seg_at hj).1]; simp) (fun o ho => by
      have := List.all_eq_true.1 hp.1 o ho
      cases hd : o.dst with
      | none => rw [hd] at this; cases this
      | some d => rw [hd] at this; exact ⟨d, rfl, by simpa using this⟩) hp.2 (hq v hv ⟨⟨v, hv, Below.refl _ _⟩⟩)
  refine ⟨_, by rw [List.length_map]; exact hlen.symm, yg_of_all _ _ a (fun x hx => ?_) (fun v hv => (hY v hv).1), (hY w (Keeps.refl _ _)).2⟩
  have := List.mem_range'_1.1 hx
  exact hns x (by omega) (by omega)

theorem cut_walk {l : List Oper} {Ph : Nat → World → Prop} {si : List Nat} {c : Nat} (hcl : c ≤ l.length) (size : Nat) : ∀ (cs : List (Nat × Option Value)) (i k : Nat) (a : Act) (K : Act → Prop), sortedC c i cs = true → cutsFit l c size i cs = true → a.tmps.size = size →
    (∀ x, i ≤ x → (x ∈ si ↔ x ∈ cutSi cs)) → (∀ n x, (cutSi cs)[n]? = some x → si.idxOf x = k + n) → cutWalk P l T w Ph c i k cs a K →
    ∃ vs : List Value, (cutIdx c i cs).length = vs.length ∧ YG l.toArray (DS P l.toArray T w Ph si) (cutIdx c i cs) vs a ∧ K (puts l.toArray (cutIdx c i cs) vs a)
  | [], i, k, a, K, hs, hf, hsz, hsi, _, h => by
    obtain ⟨A, hq, hK⟩ := h
    obtain ⟨vs, h1, h2, h3⟩ := piece (Ph := Ph) (si := si) hcl (by rw [hsz]; exact hf) (fun x hx _ hm => by have := (hsi x hx).1 hm; simp [cutSi] at this) hq
    exact ⟨vs, h1, h2, by simp only [cutIdx]; rw [h3]; exact hK⟩
  | (m, none) :: cs, i, k, a, K, hs, hf, hsz, hsi, hix, h => by
    simp only [sortedC, Bool.and_eq_true, decide_eq_true_eq] at hs
    simp only [cutsFit, Bool.and_eq_true] at hf
    obtain ⟨A, hq, hrest⟩ := h
    have hsp := cut_spec c cs (m + 1) hs.2
    have hmc : m + 1 ≤ c := hsp.2.2.1
    obtain ⟨vs, h1, h2, h3⟩ := piece (Ph := Ph) (si := si) (i := i) (m := m) (by omega) (by rw [hsz]; exact hf.1) (fun x hx hx2 hm => by
      have h4 := (hsi x hx).1 hm
      simp only [cutSi] at h4
      have := hsp.2.2.2.2.2.1 x h4; omega) hq
    have hAs : A.tmps.size = size := by rw [← h3, puts_size, hsz]
    obtain ⟨vs', h1', h2', h3'⟩ := cut_walk hcl size cs (m + 1) k A K hs.2 hf.2 hAs (fun x hx => by have := hsi x (by omega); simpa [cutSi] using this) (fun n x hx => hix n x (by simpa [cutSi] using hx)) hrest
    rw [← h3] at h2' h3'
    have hap := yg_append (List.range' i (m - i)) vs (cutIdx c (m + 1) cs) vs' a h2 h2'
    exact ⟨vs ++ vs', by simp only [cutIdx, List.length_append, h1, h1'], by simp only [cutIdx]; exact hap.1, by simp only [cutIdx]; rw [hap.2]; exact h3'⟩
  | (m, some v) :: cs, i, k, a, K, hs, hf, hsz, hsi, hix, h => by
    simp only [sortedC, Bool.and_eq_true, decide_eq_true_eq] at hs
    simp only [cutsFit, Bool.and_eq_true] at hf
    obtain ⟨A, hq, hrest⟩ := h
    have hsp := cut_spec c cs (m + 1) hs.2
    have hmc : m + 1 ≤ c := hsp.2.2.1
    have hmsi : m ∈ si := (hsi m hs.1).2 (by simp [cutSi])
    obtain ⟨vs, h1, h2, h3⟩ := piece (Ph := Ph) (si := si) (i := i) (m := m) (by omega) (by rw [hsz]; exact hf.1) (fun x hx hx2 hm => by
      have h4 := (hsi x hx).1 hm
      simp only [cutSi, List.mem_cons] at h4
      rcases h4 with h4 | h4
      · omega
      · have := hsp.2.2.2.2.2.1 x h4; omega) hq
    have hAs : A.tmps.size = size := by rw [← h3, puts_size, hsz]
    have hml : m < l.length := by omega
    have e : (l.drop m).take 1 = [l[m]] := by rw [List.drop_eq_getElem_cons hml]; rfl
    rw [e] at hrest
    obtain ⟨hst, hrest⟩ := hrest
    have hom : l.toArray[m]? = some l[m] := by simp [hml]
    have hidx : si.idxOf m = k := by have := hix 0 m (by simp [cutSi]); simpa using this
    obtain ⟨vs', h1', h2', h3'⟩ := cut_walk hcl size cs (m + 1) (k + 1) (A.put l[m].dst v) K hs.2 hf.2 (by rw [put_size]; exact hAs) (fun x hx => by
      have h4 := hsi x (by omega)
      simp only [cutSi, List.mem_cons] at h4
      rw [h4]
      constructor
      · rintro (h5 | h5)
        · omega
        · exact h5
      · exact .inr) (fun n x hx => by have := hix (n + 1) x (by simpa [cutSi] using hx); omega) hrest
    have hcons : YG l.toArray (DS P l.toArray T w Ph si) (m :: cutIdx c (m + 1) cs) (v :: vs') A := by
      refine ⟨⟨⟨_, hom⟩, _, hom, .inl ⟨hmsi, by rw [hidx]; exact hst⟩⟩, ?_⟩
      rw [dstOf_some hom]; exact h2'
    have hpc : puts l.toArray (m :: cutIdx c (m + 1) cs) (v :: vs') A = puts l.toArray (cutIdx c (m + 1) cs) vs' (A.put l[m].dst v) := by
      simp only [puts]; rw [dstOf_some hom]
    rw [← h3] at hcons hpc
    have hap := yg_append (List.range' i (m - i)) vs (m :: cutIdx c (m + 1) cs) (v :: vs') a h2 hcons
    refine ⟨vs ++ v :: vs', by simp only [cutIdx, List.length_append, List.length_cons, h1, h1'], by simp only [cutIdx]; exact hap.1, ?_⟩
    simp only [cutIdx]
    rw [hap.2, hpc, h3]
    exact h3'

/-- The Bool over a region. -/
def stepFit (l : List Oper) (cs : List (Nat × Option Value)) (c : Nat) : Bool :=
  effFit l (cutMi cs) c && sortedC c 0 cs &&
  ((List.range (cutSi cs).length).all fun k => match (cutSi cs)[k]?, (cutSi cs)[k + 1]? with
    | some i, some i' => (match l[i']? with | some o => o.after.any fun e => Region.binds .any e && e.on == i | none => true)
    | _, _ => true) &&
  (match l[c]? with | some o => (cutSi cs).all fun i => o.after.any fun e => Region.binds .any e && e.on == i | none => true)
theorem stepFit_of {cs : List (Nat × Option Value)} {c : Nat} {l : List Oper} (h : stepFit l cs c = true) : StepFit l.toArray (cutMi cs) (cutSi cs) c := by
  simp only [stepFit, Bool.and_eq_true] at h
  obtain ⟨⟨⟨_, h2⟩, h3⟩, h4⟩ := h
  obtain ⟨_, _, _, _, _, h6, h7, _⟩ := cut_spec c cs 0 h2
  refine ⟨h7, fun i hi => ⟨(h6 i hi).2.1, (h6 i hi).2.2⟩, fun k i i' o hi hi' ho => ?_, fun o ho i hi => ?_⟩
  · have hk : k < (cutSi cs).length := (List.getElem?_eq_some_iff.1 hi).1
    have h8 := List.all_eq_true.1 h3 k (List.mem_range.2 hk)
    have e1 : l[i']? = some o := by simpa using ho
    simp only [hi, hi', e1] at h8
    obtain ⟨e, he, hb⟩ := Array.any_eq_true'.1 h8
    simp only [Bool.and_eq_true, beq_iff_eq] at hb
    exact ⟨e, he, hb.1, hb.2⟩
  · have e1 : l[c]? = some o := by simpa using ho
    simp only [e1] at h4
    have h8 := List.all_eq_true.1 h4 i hi
    obtain ⟨e, he, hb⟩ := Array.any_eq_true'.1 h8
    simp only [Bool.and_eq_true, beq_iff_eq] at hb
    exact ⟨e, he, hb.1, hb.2⟩

/-- What a maker answers, and what it leaves behind. -/
structure EBS (T : List Nat) where
  val : Nat × Nat → Value
  R : Nat × Nat → World → Prop
  st : ∀ a u u', R a u → Upd T u u' → R a u'
def stRun (P : Program) (ops : Array Oper) (T : List Nat) (w : World) (A : Act) (o : Oper) (b : EBS T) : Prop :=
  Region.wanted o (yielded ops A.tmps) = true ∧ ∀ u, Keeps T w u → lateOp P o A u (fun v u' => ∃ p, v = b.val p ∧ u.heap.size ≤ p.1 ∧ p.1 < u'.heap.size ∧ Below u.heap.size u u' ∧ b.R p u')
def stRuns (P : Program) (ops : Array Oper) (T : List Nat) (w : World) (A : Act) : List Oper → List (EBS T) → Prop
  | o :: os, b :: bs => stRun P ops T w A o b ∧ stRuns P ops T w A os bs
  | [], [] => True
  | _, _ => False
/-- With whatever the makers have left. -/
def stK {T : List Nat} (u u' : World) (K : Act → Prop) : List Oper → List (EBS T) → List Nat → Act → Prop
  | o :: os, b :: bs, ps, A => ∀ p : Nat × Nat, u.heap.size ≤ p.1 → p.1 < u'.heap.size → p.1 ∉ ps → b.R p u' → stK u u' K os bs (p.1 :: ps) (A.put o.dst (b.val p))
  | _, _, _, A => K A
def essOf {T : List Nat} : List Nat → List Oper → List (EBS T) → List (ES T)
  | j :: js, o :: os, b :: bs => ⟨j, o, b.val, b.R, b.st⟩ :: essOf js os bs
  | _, _, _ => []
theorem ess_mem {A : Act} : ∀ (js : List Nat) (os : List Oper) (bs : List (EBS T)), js.length = os.length → stRuns P ops T w A os bs → (∀ (k i : Nat), js[k]? = some i → os[k]? = ops[i]?) →
    (essOf js os bs).map (·.j) = js ∧ ∀ x ∈ essOf js os bs, x.j ∈ js ∧ ops[x.j]? = some x.o ∧ stRun P ops T w A x.o ⟨x.val, x.R, x.st⟩
  | [], [], [], _, _, _ => ⟨rfl, by simp [essOf]⟩
  | j :: js, o :: os, b :: bs, hl, hr, hat => by
    obtain ⟨h1, h2⟩ := ess_mem js os bs (by simpa using hl) hr.2 (fun k i hk => by simpa using hat (k + 1) i (by simpa using hk))
    refine ⟨by simp only [essOf, List.map_cons, h1], fun x hx => ?_⟩
    simp only [essOf, List.mem_cons] at hx
    rcases hx with rfl | hx
    · exact ⟨List.mem_cons_self, by simpa using (hat 0 j rfl).symm, hr.1⟩
    · obtain ⟨h3, h4⟩ := h2 x hx
      exact ⟨List.mem_cons_of_mem _ h3, h4⟩
  | [], [], _ :: _, _, h, _ => h.elim
  | [], _ :: _, _, h, _, _ => by simp at h
  | _ :: _, [], _, h, _, _ => by simp at h
  | _ :: _, _ :: _, [], _, h, _ => h.elim
theorem stK_run {u u' : World} {K : Act → Prop} {f : Nat → Nat × Nat} : ∀ (js : List Nat) (os : List Oper) (bs : List (EBS T)) (ps : List Nat) (A : Act), js.length = os.length → os.length = bs.length → stK u u' K os bs ps A →
    (∀ m ∈ essOf js os bs, u.heap.size ≤ (f m.j).1 ∧ (f m.j).1 < u'.heap.size ∧ m.R (f m.j) u') → ((essOf js os bs).map fun m => (f m.j).1).Nodup → (∀ m ∈ essOf js os bs, (f m.j).1 ∉ ps) → K (putS (essOf js os bs) f A)
  | j :: js, o :: os, b :: bs, ps, A, hl, hl2, h, hm, hn, hp => by
    simp only [essOf, putS]
    simp only [essOf, List.map_cons, List.nodup_cons] at hn
    have h0 := hm ⟨j, o, b.val, b.R, b.st⟩ (by simp [essOf])
    refine stK_run js os bs ((f j).1 :: ps) _ (by simpa using hl) (by simpa using hl2) (h (f j) h0.1 h0.2.1 (hp ⟨j, o, b.val, b.R, b.st⟩ (by simp [essOf])) h0.2.2) (fun m hmm => hm m (by simp [essOf, hmm])) hn.2 (fun m hmm => ?_)
    rw [List.mem_cons]
    rintro (he | he)
    · exact hn.1 (he ▸ List.mem_map_of_mem (f := fun m : ES T => (f m.j).1) hmm)
    · exact hp m (by simp [essOf, hmm]) he
  | [], [], [], _, _, _, _, h, _, _, _ => h
  | [], [], _ :: _, _, _, _, h2, _, _, _, _ => by simp at h2
  | [], _ :: _, _, _, _, h, _, _, _, _, _ => by simp at h
  | _ :: _, [], _, _, _, h, _, _, _, _, _ => by simp at h
  | _ :: _, _ :: _, [], _, _, _, h2, _, _, _, _ => by simp at h2
theorem stRuns_len {A : Act} : ∀ (os : List Oper) (bs : List (EBS T)), stRuns P ops T w A os bs → os.length = bs.length
  | [], [], _ => rfl
  | _ :: os, _ :: bs, h => by simp [stRuns_len os bs h.2]
  | [], _ :: _, h => h.elim
  | _ :: _, [], h => h.elim

/-- A region that draws its order, with cuts (makers and steppers) before the chain that begins at number c. -/
theorem region_step {id : Nat} {a : Act} {l : List Oper} (cs : List (Nat × Option Value)) (c : Nat) (T : List Nat) (Ph : Nat → World → Prop) (hPB : ∀ k u u', Ph k u → Below u.heap.size u u' → Ph k u') (hP0 : Ph 0 w)
    (hm : P.follows .mixedOrders = true) (hB : stepFit l cs c = true) (hp : cutsFit l c a.tmps.size 0 cs = true) (bs : List (EBS T))
    (h : cutWalk P l T w Ph c 0 0 cs a (fun A => stRuns P l.toArray T w A (makersOf l (cutMi cs)) bs ∧
      ∀ u', Upd T w u' → Ph (cutSi cs).length u' → stK w u' (fun A' => effChain P l.toArray T w (Q .normal) (l.drop c) A' u') (makersOf l (cutMi cs)) bs [] A)) : (Code.region id l.toArray true).wp P Q a w := by
  have hB' := hB
  simp only [stepFit, Bool.and_eq_true] at hB'
  have hE := hB'.1.1.1
  have hsc := hB'.1.1.2
  have F := fit3_of hE
  have G := stepFit_of hB
  have hE' := hE
  simp only [effFit, Bool.and_eq_true, decide_eq_true_eq] at hE'
  have hcl := hE'.2
  obtain ⟨hmem, hpw, _, hrange, hnd, hsr, hsnd, hcount⟩ := cut_spec c cs 0 hsc
  obtain ⟨vs, hlen, hY, hr, hl⟩ := cut_walk (P := P) (T := T) (w := w) (Ph := Ph) (si := cutSi cs) hcl a.tmps.size cs 0 0 a _ hsc hp rfl (fun x _ => Iff.rfl) (fun n x hx => by
    obtain ⟨h1, h2⟩ := List.getElem?_eq_some_iff.1 hx
    rw [← h2, Nat.zero_add]; exact hsnd.idxOf_getElem n h1) h
  refine wp_region_any hm ?_
  have hw0 : Below w.heap.size w w.drew := (Below.refl _ _).drew
  obtain ⟨os, hos, hosl, hosat⟩ := makers_at hcl (cutMi cs) (fun m hm => (hrange m hm).2)
  rw [hos] at hr
  rw [hos] at hl
  obtain ⟨hjs, hmm⟩ := ess_mem (P := P) (ops := l.toArray) (w := w) (cutMi cs) os bs hosl.symm hr (fun k i hk => by rw [hosat k i hk]; simp)
  have hel : (essOf (cutMi cs) os bs).length = (cutMi cs).length := by rw [← List.length_map (f := fun x : ES T => x.j), hjs]
  exact step_main (P := P) (T := T) (w := w) (Q := Q) F G hPB l.toArray.size (cutIdx c 0 cs) (essOf (cutMi cs) os bs) (l.drop c) c vs (Array.replicate l.toArray.size false) a w.drew 0
    (by simp [hel]; omega) (by simp) (by simp; omega) (Nat.le_refl _) (fun i => by rw [List.getElem?_drop]; simp) hpw
    (fun i hi => by have := (hmem i).1 hi; exact ⟨⟨this.2.1, this.2.2⟩, by simp; omega⟩)
    (fun x hx => ⟨(hmm x hx).1, (hmm x hx).2.1⟩) (by rw [hjs]; exact hnd)
    (fun i hi => by
      have hi' : i < l.length := by simpa using hi
      rw [hmem, hjs]
      simp [hi']
      rcases Classical.em (i ∈ cutMi cs) with h | h
      · have := hrange i h; simp [h]
      · simp [h]; omega) hlen hY (Keeps.of_below hw0)
    (fun n i hi => by
      have hin : i ∈ cutSi cs := List.mem_of_getElem? hi
      have := hsr i hin
      exact ⟨fun _ => Nat.zero_le _, fun _ => (hmem i).2 ⟨by omega, this.2.1, this.2.2⟩⟩)
    (fun x hx => (hmm x hx).2.2)
    (.inl ⟨rfl, hPB _ _ _ hP0 hw0, fun f u' hu' hph hfm hfn => stK_run (cutMi cs) os bs [] _ hosl.symm (stRuns_len os bs hr) (hl u' ((Upd.of_below hw0).trans hu') hph) hfm hfn (by simp)⟩)
    (Nat.zero_le _)
end
end Go.Proofs.Ytccnlnkgoaelpaa
