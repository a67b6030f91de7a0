/- A region that draws its order, as in Eff, with steppers: operations that follow each other, each of which has a known value and takes memory from one phase to the next (a draw from a list of numbers, say). No condition. -/
import Derived.Test.YtflgngjocgiojaaGreatDet
import Derived.Test.YtflgngjocgiojaaGreatLate
namespace Go.Proofs.YtflgngjocgiojaaGreat

/-- The rows O 0 .. O (a - 1) and r, the columns cs 0 .. cs (a - 1) and j. -/
def minV (a : Nat) (O : Nat → Nat → Int) (cs : Nat → Nat) (r : Nat → Int) (j : Nat) : Int := det (a + 1) (fun i b => (if i < a then O i else r) (if b < a then cs b else j))
def minD (a : Nat) (O : Nat → Nat → Int) (cs : Nat → Nat) : Int := det a (fun i b => O i (cs b))
theorem minV_comb (a : Nat) (O : Nat → Nat → Int) (cs : Nat → Nat) (r : Nat → Int) : ∃ γ : Nat → Int, ∀ j, minV a O cs r j = minD a O cs * r j + sumF (fun i => γ i * O i j) a := by
 refine ⟨fun i => sg1 (i + a) * det a (fun x b => (if skip i x < a then O (skip i x) else r) (cs b)), fun j => ?_⟩
 unfold minV
 rw [det, sumF, Int.add_comm]
 congr 1
 ·simp only [if_neg (Nat.lt_irrefl a)]
  have h1 : det a (fun x b => (if skip a x < a then O (skip a x) else r) (if b < a then cs b else j)) = minD a O cs := det_eq fun x b hx hb => by
   have e : skip a x = x := by unfold skip; rw [if_pos hx]
   rw [e, if_pos hx, if_pos hb]
  rw [h1, sg1_two, Int.one_mul, Int.mul_comm]
 ·refine sumF_eq fun i hi => ?_
  simp only [if_pos hi, if_neg (Nat.lt_irrefl a)]
  have h1 : det a (fun x b => (if skip i x < a then O (skip i x) else r) (if b < a then cs b else j)) = det a (fun x b => (if skip i x < a then O (skip i x) else r) (cs b)) := det_eq fun x b _ hb => by rw [if_pos hb]
  rw [h1]
  simp only [Int.mul_assoc, Int.mul_comm]
theorem minV_zero {a : Nat} {O : Nat → Nat → Int} {cs : Nat → Nat} {r : Nat → Int} {t : Nat} (h : t < a) : minV a O cs r (cs t) = 0 := by
 unfold minV
 refine det_same' (j := t) h fun x => ?_
 rw [if_pos h, if_neg (Nat.lt_irrefl a)]
theorem minV_self (a : Nat) (O : Nat → Nat → Int) (cs : Nat → Nat) : minV a O cs (O a) (cs a) = minD (a + 1) O cs := by
 unfold minV minD
 refine det_eq fun i b hi hb => ?_
 by_cases h1 : i < a
 ·by_cases h2 : b < a
  ·rw [if_pos h1, if_pos h2]
  ·rw [if_pos h1, if_neg h2, show b = a by omega]
 ·by_cases h2 : b < a
  ·rw [if_neg h1, if_pos h2, show i = a by omega]
  ·rw [if_neg h1, if_neg h2, show i = a by omega, show b = a by omega]
/-- Rows whose leading minors are not 0 are independent on these columns. -/
theorem indep {O : Nat → Nat → Int} {cs : Nat → Nat} : ∀ {a : Nat}, (∀ t, t ≤ a → minD t O cs ≠ 0) → ∀ δ : Nat → Int, (∀ t, t < a → sumF (fun i => δ i * O i (cs t)) a = 0) → ∀ i, i < a → δ i = 0
 | 0, _, _, _, i, hi => by omega
 | a + 1, hd, δ, hz, i, hi => by
  obtain ⟨γ, hγ⟩ := minV_comb a O cs (O a)
  have key : ∀ j, sumF (fun i => (minD a O cs * δ i - δ a * γ i) * O i j) a = minD a O cs * sumF (fun i => δ i * O i j) (a + 1) - δ a * minV a O cs (O a) j := fun j => by
   have h1 : sumF (fun i => (minD a O cs * δ i - δ a * γ i) * O i j) a = minD a O cs * sumF (fun i => δ i * O i j) a - δ a * sumF (fun i => γ i * O i j) a := by
    rw [← sumF_mul, ← sumF_mul, Int.sub_eq_add_neg, ← sumF_neg, ← sumF_add]
    refine sumF_eq fun i _ => ?_
    grind
   rw [h1, hγ j, sumF]
   grind
  have ih := indep (a := a) (fun t ht => hd t (by omega)) (fun i => minD a O cs * δ i - δ a * γ i) (fun t ht => by
   rw [key, hz t (by omega), minV_zero ht]
   simp)
  have h2 := key (cs a)
  rw [hz a (by omega), minV_self, sumF_zero (fun i hi => by
   have := ih i hi
   rw [this, Int.zero_mul])] at h2
  have h3 : δ a * minD (a + 1) O cs = 0 := by omega
  have ha : δ a = 0 := by
   rcases Int.mul_eq_zero.1 h3 with h | h
   ·exact h
   ·exact absurd h (hd (a + 1) (Nat.le_refl _))
  by_cases e : i = a
  ·subst e; exact ha
  ·have h4 := ih i (by omega)
   rw [ha, Int.zero_mul, Int.sub_zero] at h4
   rcases Int.mul_eq_zero.1 h4 with h | h
   ·exact absurd h (hd a (by omega))
   ·exact h
/-- The step. -/
theorem bareiss {O : Nat → Nat → Int} {cs : Nat → Nat} {a : Nat} (hd : ∀ t, t ≤ a + 1 → minD t O cs ≠ 0) (r : Nat → Int) (j : Nat) :
  minD (a + 1) O cs * minV a O cs r j - minV a O cs r (cs a) * minV a O cs (O a) j = minD a O cs * minV (a + 1) O cs r j := by
 obtain ⟨γr, hr⟩ := minV_comb a O cs r
 obtain ⟨γk, hk⟩ := minV_comb a O cs (O a)
 obtain ⟨β, hβ⟩ := minV_comb (a + 1) O cs r
 have key : ∀ j, minD (a + 1) O cs * minV a O cs r j - minV a O cs r (cs a) * minV a O cs (O a) j - minD a O cs * minV (a + 1) O cs r j =
   sumF (fun i => (if i < a then minD (a + 1) O cs * γr i - minV a O cs r (cs a) * γk i - minD a O cs * β i else -(minV a O cs r (cs a) * minD a O cs) - minD a O cs * β a) * O i j) (a + 1) := fun j => by
  have h1 : sumF (fun i => (if i < a then minD (a + 1) O cs * γr i - minV a O cs r (cs a) * γk i - minD a O cs * β i else -(minV a O cs r (cs a) * minD a O cs) - minD a O cs * β a) * O i j) a =
    minD (a + 1) O cs * sumF (fun i => γr i * O i j) a + (-(minV a O cs r (cs a)) * sumF (fun i => γk i * O i j) a + (-(minD a O cs)) * sumF (fun i => β i * O i j) a) := by
   rw [← sumF_mul, ← sumF_mul, ← sumF_mul, ← sumF_add, ← sumF_add]
   refine sumF_eq fun i hi => ?_
   rw [if_pos hi]
   grind
  rw [sumF, h1, if_neg (Nat.lt_irrefl a), hr j, hk j, hβ j, sumF]
  grind
 have hz := indep (a := a + 1) hd _ (fun t ht => by
  rw [← key]
  by_cases e : t = a
  ·subst e
   rw [minV_self, minV_zero (a := t + 1) (t := t) (by omega)]
   grind
  ·rw [minV_zero (a := a) (t := t) (by omega), minV_zero (a := a) (t := t) (by omega), minV_zero (a := a + 1) (t := t) (by omega)]
   simp)
 have h2 := key j
 rw [sumF_zero (fun i hi => by rw [hz i hi, Int.zero_mul])] at h2
 omega
end Go.Proofs.YtflgngjocgiojaaGreat
namespace Go.Proofs.YtflgngjocgiojaaGreat

theorem dep : ∀ {r p : Nat} (C : Nat → Nat → Int), r < p → ∃ l : Nat → Int, (∃ i, i < p ∧ l i ≠ 0) ∧ ∀ t, t < r → sumF (fun i => l i * C i t) p = 0
 | 0, p, C, h => ⟨fun _ => 1, ⟨0, h, by show (1 : Int) ≠ 0; omega⟩, fun t ht => by omega⟩
 | r + 1, p, C, h => by
  by_cases hz : ∀ i, i < p → C i r = 0
  ·obtain ⟨l, h1, h2⟩ := dep (r := r) C (show r < p by omega)
   refine ⟨l, h1, fun t ht => ?_⟩
   by_cases e : t = r
   ·subst e; exact sumF_zero fun i hi => by rw [hz i hi, Int.mul_zero]
   ·exact h2 t (by omega)
  ·obtain ⟨q, hq, hne⟩ : ∃ q, q < p ∧ C q r ≠ 0 := Classical.byContradiction fun hc => hz fun i hi => Classical.byContradiction fun h2 => hc ⟨i, hi, h2⟩
   obtain ⟨n, rfl⟩ : ∃ n, p = n + 1 := ⟨p - 1, by omega⟩
   obtain ⟨l, ⟨i0, hi0, hl0⟩, h2⟩ := dep (r := r) (p := n) (fun i t => C q r * C (skip q i) t - C (skip q i) r * C q t) (by omega)
   have hsk : ∀ i, i < n → skip q i < n + 1 ∧ skip q i ≠ q := fun i hi => by unfold skip; split <;> omega
   -- the number of the row that is left out
   have hun : ∀ i, (if skip q i < q then skip q i else skip q i - 1) = i := fun i => by unfold skip; repeat' split <;> try omega
   refine ⟨fun x => if x = q then -sumF (fun i => l i * C (skip q i) r) n else C q r * l (if x < q then x else x - 1), ⟨skip q i0, (hsk i0 hi0).1, ?_⟩, fun t ht => ?_⟩
   ·simp only [if_neg (hsk i0 hi0).2, hun i0]
    exact Int.mul_ne_zero hne hl0
   ·rw [← sumF_skip (fun x => (if x = q then -sumF (fun i => l i * C (skip q i) r) n else C q r * l (if x < q then x else x - 1)) * C x t) (n := n) (i := q) (by omega)]
    simp only [if_true]
    have e1 : sumF (fun k => (if skip q k = q then -sumF (fun i => l i * C (skip q i) r) n else C q r * l (if skip q k < q then skip q k else skip q k - 1)) * C (skip q k) t) n = sumF (fun k => C q r * l k * C (skip q k) t) n := sumF_eq fun k hk => by
     rw [if_neg (hsk k hk).2, hun k]
    rw [e1]
    by_cases e : t = r
    ·subst e
     have e2 : sumF (fun k => C q t * l k * C (skip q k) t) n = C q t * sumF (fun i => l i * C (skip q i) t) n := by
      rw [← sumF_mul]
      exact sumF_eq fun k _ => by grind
     rw [e2]
     grind
    ·have h3 := h2 t (by omega)
     have e2 : sumF (fun i => l i * (C q r * C (skip q i) t - C (skip q i) r * C q t)) n = sumF (fun k => C q r * l k * C (skip q k) t) n + -sumF (fun i => l i * C (skip q i) r) n * C q t := by
      have e3 : -sumF (fun i => l i * C (skip q i) r) n * C q t = sumF (fun i => -C q t * (l i * C (skip q i) r)) n := by
       rw [sumF_mul]
       grind
      rw [e3, ← sumF_add]
      exact sumF_eq fun k _ => by grind
     rw [e2] at h3
     exact h3
/-- A multiple of the matrix is a product over r. -/
def Fact (M : Nat → Nat → Int) (m n r : Nat) : Prop := ∃ (d : Int) (C E : Nat → Nat → Int), d ≠ 0 ∧ ∀ i, i < m → ∀ j, j < n → d * M i j = sumF (fun t => C i t * E t j) r
theorem Fact.turn {M : Nat → Nat → Int} {m n r : Nat} (h : Fact M m n r) : Fact (fun i j => M j i) n m r := by
 obtain ⟨d, C, E, hd, h⟩ := h
 refine ⟨d, fun i t => E t i, fun t j => C j t, hd, fun i hi j hj => ?_⟩
 rw [h j hj i hi]
 exact sumF_eq fun t _ => Int.mul_comm _ _
/-- Rows with leading minors other than 0 need as many factors. -/
theorem Fact.least {M : Nat → Nat → Int} {m n r p : Nat} (h : Fact M m n r) {π cs : Nat → Nat} (hπ : ∀ i, i < p → π i < m) (hc : ∀ t, t < p → cs t < n) (hnz : ∀ t, t ≤ p → minD t (fun i => M (π i)) cs ≠ 0) : p ≤ r := by
 apply Classical.byContradiction
 intro hlt
 obtain ⟨d, C, E, hd, h⟩ := h
 obtain ⟨l, ⟨i, hi, hl⟩, h2⟩ := dep (r := r) (p := p) (fun i => C (π i)) (by omega)
 have h3 := indep (O := fun i => M (π i)) (cs := cs) hnz (fun i => l i * d) (fun t ht => by
  have e1 : sumF (fun i => l i * d * M (π i) (cs t)) p = sumF (fun i => sumF (fun s => E s (cs t) * (l i * C (π i) s)) r) p := sumF_eq fun i hi => by
   rw [Int.mul_assoc, h (π i) (hπ i hi) (cs t) (hc t ht), ← sumF_mul]
   exact sumF_eq fun s _ => by grind
  rw [e1, sumF_swap]
  refine sumF_zero fun s hs => ?_
  rw [sumF_mul, h2 s hs, Int.mul_zero]) i hi
 rcases Int.mul_eq_zero.1 h3 with h4 | h4
 ·exact hl h4
 ·exact hd h4
end Go.Proofs.YtflgngjocgiojaaGreat
namespace Go.Proofs.YtflgngjocgiojaaGreat
open Go.RowKit

section
variable {P : Program} {ops : Array Oper} {T : List Nat} {w : World} {Q : Exit → Act → World → Prop}

def wpChain (P : Program) (T : List Nat) (w : World) (Q : Act → World → Prop) : List Oper → Act → World → Prop
 | [], A, u => Q A u
 | o :: os, A, u => lateOp P o A u (fun v u' => Keeps T w u' ∧ ∀ u'', Below u'.heap.size u' u'' → wpChain P T w Q os (A.put o.dst v) u'')

/-- An operation that makes one block: its number, itself, the block, and its value by the block's number. -/
structure ME where
 j : Nat
 o : Oper
 obj : Obj
 val : Nat → Value
def putM : List ME → (Nat → Nat) → Act → Act
 | [], _, A => A
 | m :: ms, f, A => putM ms f (A.put m.o.dst (m.val (f m.j)))
def AMem (P : Program) (T : List Nat) (w : World) (Q : Act → World → Prop) (ls : List Oper) (ms : List ME) (A : Act) (u : World) : Prop :=
 ∀ (f : Nat → Nat) (u' : World), Below u.heap.size u u' → (∀ m ∈ ms, u.heap.size ≤ f m.j ∧ u'.heap[f m.j]? = some m.obj) → (ms.map fun m => f m.j).Nodup → wpChain P T w Q ls (putM ms f A) u'
theorem AMem.later {ls : List Oper} {ms : List ME} {A : Act} {u v : World} {Q : Act → World → Prop} (h : AMem P T w Q ls ms A u) (hv : Below u.heap.size u v) : AMem P T w Q ls ms A v :=
 fun f u' hu hm hn => h f u' (hv.trans (hu.mono hv.size)) (fun m hm' => ⟨Nat.le_trans hv.size (hm m hm').1, (hm m hm').2⟩) hn

end

end Go.Proofs.YtflgngjocgiojaaGreat
namespace Go.Proofs.YtflgngjocgiojaaGreat
open Go.RowKit

section
variable {P : Program} {ops : Array Oper} {T : List Nat} {w : World} {Q : Exit → Act → World → Prop}

def effChain (P : Program) (ops : Array Oper) (T : List Nat) (w : World) (Q : Act → World → Prop) : List Oper → Act → World → Prop
 | [], A, u => Q A u
 | o :: os, A, u => Region.wanted o (yielded ops A.tmps) = true ∧ lateOp P o A u (fun v u' => Keeps T w u' ∧ ∀ u'', Below u'.heap.size u' u'' → effChain P ops T w Q os (A.put o.dst v) u'')

/-- An operation that makes memory: its number, itself, its value by a block's number and a number, and what it leaves behind, which lasts. -/
structure EF where
 j : Nat
 o : Oper
 val : Nat × Nat → Value
 R : Nat × Nat → World → Prop
 st : ∀ a u u', R a u → Below u.heap.size u u' → R a u'
def putE : List EF → (Nat → Nat × Nat) → Act → Act
 | [], _, A => A
 | m :: ms, f, A => putE ms f (A.put m.o.dst (m.val (f m.j)))
def AEff (P : Program) (ops : Array Oper) (T : List Nat) (w : World) (Q : Act → World → Prop) (ls : List Oper) (ms : List EF) (A : Act) (u : World) : Prop :=
 ∀ (f : Nat → Nat × Nat) (u' : World), Below u.heap.size u u' → (∀ m ∈ ms, u.heap.size ≤ (f m.j).1 ∧ (f m.j).1 < u'.heap.size ∧ m.R (f m.j) u') → (ms.map fun m => (f m.j).1).Nodup → effChain P ops T w Q ls (putE ms f A) u'
theorem AEff.later {ls : List Oper} {ms : List EF} {A : Act} {u v : World} {Q : Act → World → Prop} (h : AEff P ops T w Q ls ms A u) (hv : Below u.heap.size u v) : AEff P ops T w Q ls ms A v :=
 fun f u' hu hm hn => h f u' (hv.trans (hu.mono hv.size)) (fun m hm' => ⟨Nat.le_trans hv.size (hm m hm').1, (hm m hm').2⟩) hn

theorem wanted_puts {o : Oper} {t : Nat} (ht : ops[t]? = some o) :
  ∀ (hs : List Nat) (vs : List Value) (a : Act), (∀ i ∈ hs, (∃ o, ops[i]? = some o) ∧ Apart ops i t) → Region.wanted o (yielded ops (puts ops hs vs a).tmps) = Region.wanted o (yielded ops a.tmps)
 | [], _, _, _ => by simp [puts]
 | _ :: _, [], _, _ => by simp [puts]
 | i :: hs, v :: vs, a, hap => by
  obtain ⟨⟨oi, hoi⟩, h1⟩ := hap i (List.mem_cons_self)
  simp only [puts]
  rw [wanted_puts ht hs vs _ (fun k hk => hap k (List.mem_cons_of_mem _ hk)), dstOf_some hoi]
  exact wanted_put (ops := ops) o a oi.dst v (Oper.apart_spec (h1 oi o hoi ht)).1

theorem seg_at {l : List Oper} {i k j x : Nat} (h : (List.range' i k)[j]? = some x) : ((l.drop i).take k)[j]? = l[x]? ∧ i ≤ x ∧ x < i + k := by
 rw [List.getElem?_eq_some_iff] at h
 obtain ⟨hj, h⟩ := h
 simp only [List.getElem_range'] at h
 have hjk : j < k := by simpa using hj
 have hx : x = i + j := by omega
 subst hx
 rw [List.getElem?_take_of_lt hjk, List.getElem?_drop]
 exact ⟨rfl, by omega, by omega⟩
end

theorem effc_nil {P : Program} {ops : Array Oper} {T : List Nat} {w : World} {Q : Act → World → Prop} {A : Act} {u : World} (h : Q A u) : effChain P ops T w Q [] A u := h
theorem effc_mem {P : Program} {ops : Array Oper} {T : List Nat} {w : World} {Q : Act → World → Prop} {o : Oper} {os : List Oper} {A : Act} {u : World} (hwant : Region.wanted o (yielded ops A.tmps) = true)
  (h : ∀ K : Value → World → Prop, (∀ v u', Keeps T w u' → (∀ u'', Below u'.heap.size u' u'' → effChain P ops T w Q os (A.put o.dst v) u'') → K v u') → lateOp P o A u K) : effChain P ops T w Q (o :: os) A u :=
 ⟨hwant, h _ fun _ _ h1 h2 => ⟨h1, h2⟩⟩
end Go.Proofs.YtflgngjocgiojaaGreat
namespace Go.Proofs.YtflgngjocgiojaaGreat
open Go.RowKit

section
variable {P : Program} {ops : Array Oper} {T : List Nat} {w : World} {Q : Exit → Act → World → Prop}

theorem Upd.keeps {w u v : World} (h : Keeps T w u) (k : Upd T u v) : Keeps T w v :=
 ⟨Nat.le_trans h.1 k.size, fun b hb ht => (k.block b (Nat.lt_of_lt_of_le hb h.1) ht).trans (h.2 b hb ht)⟩

/-- The operations numbered so have these values, each said by D. -/
def YG (ops : Array Oper) (D : Nat → Value → Act → Prop) : List Nat → List Value → Act → Prop
 | [], [], _ => True
 | i :: hs, v :: vs, a => ((∃ o, ops[i]? = some o) ∧ D i v a) ∧ YG ops D hs vs (a.put (dstOf ops i) v)
 | _, _, _ => False
/-- D does not see what is written elsewhere. -/
structure Blind (ops : Array Oper) (D : Nat → Value → Act → Prop) : Prop where
 l : ∀ (i j : Nat) (v u : Value) (a : Act), (∃ o, ops[i]? = some o) → (∃ o, ops[j]? = some o) → Apart ops i j → (D j v (a.put (dstOf ops i) u) ↔ D j v a)
 r : ∀ (i j : Nat) (v u : Value) (a : Act), (∃ o, ops[i]? = some o) → (∃ o, ops[j]? = some o) → Apart ops i j → (D i v (a.put (dstOf ops j) u) ↔ D i v a)

theorem yg_pull {D : Nat → Value → Act → Prop} (hD : Blind ops D) {j : Nat} {post : List Nat} {vj : Value} {vpost : List Value} :
  ∀ (pre : List Nat) (vpre : List Value) (a : Act), pre.length = vpre.length → (∀ i ∈ pre, Apart ops i j) →
   YG ops D (pre ++ j :: post) (vpre ++ vj :: vpost) a →
   YG ops D (j :: (pre ++ post)) (vj :: (vpre ++ vpost)) a ∧ puts ops (pre ++ j :: post) (vpre ++ vj :: vpost) a = puts ops (j :: (pre ++ post)) (vj :: (vpre ++ vpost)) a
 | [], [], a, _, _, h => ⟨h, rfl⟩
 | i :: pre, v :: vpre, a, hl, hap, h => by
  obtain ⟨⟨⟨oi, hoi⟩, hyi⟩, h2⟩ := h
  obtain ⟨h3, h4⟩ := yg_pull hD pre vpre _ (by simpa using hl) (fun k hk => hap k (List.mem_cons_of_mem _ hk)) h2
  obtain ⟨⟨⟨oj, hoj⟩, hyj⟩, h5⟩ := h3
  have hij := hap i (List.mem_cons_self)
  have ha := hij oi oj hoi hoj
  have hsw := put_swap hoi hoj ha a v vj
  refine ⟨⟨⟨⟨oj, hoj⟩, ?_⟩, ⟨⟨oi, hoi⟩, ?_⟩, ?_⟩, ?_⟩
  ·exact (hD.l i j vj v a ⟨oi, hoi⟩ ⟨oj, hoj⟩ hij).1 hyj
  ·exact (hD.r i j v vj a ⟨oi, hoi⟩ ⟨oj, hoj⟩ hij).2 hyi
  ·rw [← hsw]; exact h5
  ·simp only [List.cons_append, puts] at h4 ⊢
   rw [h4, hsw]
theorem yg_put {D : Nat → Value → Act → Prop} (hD : Blind ops D) {t : Nat} {ot : Oper} (ht : ops[t]? = some ot) {x : Value} :
  ∀ (hs : List Nat) (vs : List Value) (a : Act), (∀ i ∈ hs, Apart ops i t) → YG ops D hs vs a →
   YG ops D hs vs (a.put (dstOf ops t) x)
 | [], [], _, _, _ => trivial
 | i :: hs, v :: vs, a, hap, h => by
  obtain ⟨⟨⟨oi, hoi⟩, hyi⟩, h2⟩ := h
  have hit := hap i (List.mem_cons_self)
  have ha := hit oi ot hoi ht
  refine ⟨⟨⟨oi, hoi⟩, (hD.r i t v x a ⟨oi, hoi⟩ ⟨ot, ht⟩ hit).2 hyi⟩, ?_⟩
  rw [← put_swap hoi ht ha]
  exact yg_put hD ht hs vs _ (fun k hk => hap k (List.mem_cons_of_mem _ hk)) h2
theorem yg_append {D : Nat → Value → Act → Prop} : ∀ (hs : List Nat) (vs : List Value) (hs' : List Nat) (vs' : List Value) (a : Act), YG ops D hs vs a → YG ops D hs' vs' (puts ops hs vs a) →
  YG ops D (hs ++ hs') (vs ++ vs') a ∧ puts ops (hs ++ hs') (vs ++ vs') a = puts ops hs' vs' (puts ops hs vs a)
 | [], [], _, _, _, _, h2 => ⟨by simpa [puts] using h2, by simp [puts]⟩
 | i :: hs, v :: vs, hs', vs', a, h1, h2 => by
  have h3 := yg_append hs vs hs' vs' (a.put (dstOf ops i) v) h1.2 (by simpa [puts] using h2)
  exact ⟨⟨h1.1, h3.1⟩, by simpa [puts] using h3.2⟩

/-- A step from phase k to the next. -/
def stepRun (P : Program) (ops : Array Oper) (T : List Nat) (w : World) (Ph : Nat → World → Prop) (k : Nat) (o : Oper) (v : Value) (a : Act) : Prop :=
 Region.wanted o (yielded ops a.tmps) = true ∧ ∀ u, Keeps T w u → Ph k u → lateOp P o a u (fun v' u' => v' = v ∧ Upd T u u' ∧ Ph (k + 1) u')
/-- What an operation before the chain, no maker, answers: a stepper, or one that only reads, reckons or calls. -/
def DS (P : Program) (ops : Array Oper) (T : List Nat) (w : World) (Ph : Nat → World → Prop) (si : List Nat) (i : Nat) (v : Value) (a : Act) : Prop :=
 ∃ o, ops[i]? = some o ∧ ((i ∈ si ∧ stepRun P ops T w Ph (si.idxOf i) o v a) ∨ (i ∉ si ∧ ∀ x, Keeps T w x → YieldsIn P ops (CL T w x) o v a))
theorem stepRun_l {Ph : Nat → World → Prop} {k : Nat} {oi oj : Oper} {v u : Value} {a : Act} (hs : ∀ cs b, oj.op ≠ .select cs b) (hap : oi.apart ops oj = true) :
  stepRun P ops T w Ph k oj v (a.put oi.dst u) ↔ stepRun P ops T w Ph k oj v a := by
 obtain ⟨h1, _, _⟩ := Oper.apart_spec hap
 unfold stepRun lateOp
 rw [execOp_put (ops := ops) oj hs a oi.dst u h1, wanted_put (ops := ops) oj a oi.dst u h1]
theorem stepRun_r {Ph : Nat → World → Prop} {k : Nat} {oi oj : Oper} {v u : Value} {a : Act} (hs : ∀ cs b, oi.op ≠ .select cs b) (hap : oi.apart ops oj = true) :
  stepRun P ops T w Ph k oi v (a.put oj.dst u) ↔ stepRun P ops T w Ph k oi v a := by
 obtain ⟨_, _, h1⟩ := Oper.apart_spec hap
 unfold stepRun lateOp
 rw [execOp_put (ops := ops) oi hs a oj.dst u h1, wanted_put (ops := ops) oi a oj.dst u h1]
/-- A maker; what it leaves behind lasts, whatever happens to T. -/
structure ES (T : List Nat) where
 j : Nat
 o : Oper
 val : Nat × Nat → Value
 R : Nat × Nat → World → Prop
 st : ∀ a u u', R a u → Upd T u u' → R a u'
def putS {T : List Nat} : List (ES T) → (Nat → Nat × Nat) → Act → Act
 | [], _, A => A
 | m :: ms, f, A => putS ms f (A.put m.o.dst (m.val (f m.j)))
def ASt (P : Program) (ops : Array Oper) (T : List Nat) (w : World) (Ph : Nat → World → Prop) (n : Nat) (Q : Act → World → Prop) (ls : List Oper) (ms : List (ES T)) (A : Act) (u : World) : Prop :=
 ∀ (f : Nat → Nat × Nat) (u' : World), Upd T u u' → Ph n u' → (∀ m ∈ ms, u.heap.size ≤ (f m.j).1 ∧ (f m.j).1 < u'.heap.size ∧ m.R (f m.j) u') → (ms.map fun m => (f m.j).1).Nodup → effChain P ops T w Q ls (putS ms f A) u'
theorem ASt.later {Ph : Nat → World → Prop} {n : Nat} {ls : List Oper} {ms : List (ES T)} {A : Act} {u v : World} {Q : Act → World → Prop} (h : ASt P ops T w Ph n Q ls ms A u) (hv : Upd T u v) : ASt P ops T w Ph n Q ls ms A v :=
 fun f u' hu hp hm hn => h f u' (hv.trans hu) hp (fun m hm' => ⟨Nat.le_trans hv.size (hm m hm').1, (hm m hm').2⟩) hn

def oneOp : List Oper → (Oper → Prop) → Prop
 | [o], K => K o
 | _, _ => False
theorem yg_of_all {Ph : Nat → World → Prop} {si : List Nat} : ∀ (is : List Nat) (vs : List Value) (a : Act), (∀ i ∈ is, i ∉ si) → (∀ v, Keeps T w v → YSeq P ops (CL T w v) is vs a) → YG ops (DS P ops T w Ph si) is vs a
 | [], [], _, _, _ => trivial
 | i :: is, v :: vs, a, hn, h => by
  obtain ⟨⟨o, ho, _⟩, _⟩ := h w (Keeps.refl _ _)
  refine ⟨⟨⟨o, ho⟩, o, ho, .inr ⟨hn i List.mem_cons_self, fun x hx => ?_⟩⟩, yg_of_all is vs _ (fun j hj => hn j (List.mem_cons_of_mem _ hj)) (fun x hx => (h x hx).2)⟩
  obtain ⟨⟨o', ho', hy⟩, _⟩ := h x hx
  rw [ho] at ho'; cases ho'
  exact hy
 | [], _ :: _, _, _, h => (h w (Keeps.refl _ _)).elim
 | _ :: _, [], _, _, h => (h w (Keeps.refl _ _)).elim

theorem piece {l : List Oper} {Ph : Nat → World → Prop} {si : List Nat} {i m : Nat} {a A : Act} (hml : m ≤ l.length) (hp : placesFit ((l.drop i).take (m - i)) a.tmps.size = true) (hns : ∀ x, i ≤ x → x < m → x ∉ si)
  (hq : ∀ v, Keeps T w v → Nonempty (Later T w v) → wpQuiet P l.toArray (fun w' => ∃ x : Later T w v, w' = x.u) (fun a' => a' = A) ((l.drop i).take (m - i)) a) :
  ∃ vs : List Value, (List.range' i (m - i)).length = vs.length ∧ YG l.toArray (DS P l.toArray T w Ph si) (List.range' i (m - i)) vs a ∧ puts l.toArray (List.range' i (m - i)) vs a = A := by
 simp only [placesFit, Bool.and_eq_true, decide_eq_true_eq] at hp
 have hlen : ((l.drop i).take (m - i)).length = (List.range' i (m - i)).length := by simp; omega
 have hY := fun v hv => yseq_of_quiet (P := P) (ops := l.toArray) (C := CL T w v) (A := A) ((l.drop i).take (m - i)) (List.range' i (m - i)) a hlen (fun j x hj => by rw [(seg_at hj).1]; simp) (fun o ho => by
   have := List.all_eq_true.1 hp.1 o ho
   cases hd : o.dst with
   | none => rw [hd] at this; cases this
   | some d => rw [hd] at this; exact ⟨d, rfl, by simpa using this⟩) hp.2 (hq v hv ⟨⟨v, hv, Below.refl _ _⟩⟩)
 refine ⟨_, by rw [List.length_map]; exact hlen.symm, yg_of_all _ _ a (fun x hx => ?_) (fun v hv => (hY v hv).1), (hY w (Keeps.refl _ _)).2⟩
 have := List.mem_range'_1.1 hx
 exact hns x (by omega) (by omega)

/-- What a maker answers, and what it leaves behind. -/
structure EBS (T : List Nat) where
 val : Nat × Nat → Value
 R : Nat × Nat → World → Prop
 st : ∀ a u u', R a u → Upd T u u' → R a u'
end
end Go.Proofs.YtflgngjocgiojaaGreat
