/- Plain: what leaves the rank as it is. -/
import Derived.Test.YtflgngjocgiojaaGreatMatG
import Derived.Test.YtflgngjocgiojaaGreatMatP
import Derived.Test.YtflgngjocgiojaaGreatStep
namespace Go.Proofs.YtflgngjocgiojaaGreat
open Go.RowKit
attribute [local go_sem] Oper.semAt_some

set_option maxRecDepth 100000 in
set_option maxHeartbeats 400000 in
theorem matrix_leads (S : Nat) (w : World) :
  Calls Tryz.prog 57 #[.pointer (some ⟨S, 0, none⟩)] w fun r w' => r = .returned (.func (.func 97) #[] #[.pointer (some ⟨w.heap.size, 0, none⟩)]) ∧ Own w' w.heap.size #[.pointer (some ⟨S, 0, none⟩)] ∧ Below w.heap.size w w' := by
 go_enter Tryz.func57, Tryz.ntmps57
 have hW := (Below.refl w.heap.size w).alloc (Nat.le_refl _) (.cells #[.pointer (some ⟨S, 0, none⟩)] 88)
 have o := Own.new (w := w) (b := w.heap.size) (cs := #[.pointer (some ⟨S, 0, none⟩)]) (T := 88) rfl
 go_wp2
 go_ret
 exact ⟨rfl, o, hW⟩
theorem KI.grown {B : Nat} {W W' : World} {row : Option Nat} (hg : W.grownBy W' row) (hr : ∀ r, row = some r → B ≤ r ∧ ∃ o : Obj, W.heap[r]? = some o ∧ o.isCells = false) : KI W W' :=
 ⟨hg.size, fun b cs T r h _ => (hg.block b (Array.getElem?_eq_some_iff.1 h).1 (fun e => by
  obtain ⟨_, o, ho, hc⟩ := hr b e.symm
  rw [h] at ho; cases ho; simp [Obj.isCells] at hc)).trans h⟩
theorem SysAt.ki {B0 : Nat} {w w' : World} {S k : Nat} {L : List (List Int)} (h : SysAt B0 w S L k) (hk : KI w w') : SysAt B0 w' S L k := by
 obtain ⟨h0, h1, A, c, h2, h3, h4, h5⟩ := h
 refine ⟨h0, Nat.lt_of_lt_of_le h1 hk.size, A, c, h2.ki hk (fun i e => by simp at e), h3, h4, fun h0 => ?_⟩
 obtain ⟨g, e, hg, hB, hm⟩ := h5 h0
 exact ⟨g, e, hg, hB, hm.ki hk h0⟩
theorem SysAt.below {B0 : Nat} {w w' : World} {S k : Nat} {L : List (List Int)} (h : SysAt B0 w S L k) (hk : Below w.heap.size w w') : SysAt B0 w' S L k := h.ki (KI.below hk)
theorem sysAt_own {B0 S k B : Nat} {L : List (List Int)} : OwnFrom B (fun (_ : Unit) W => SysAt B0 W S L k) := fun _ X Y row hs hg hr => hs.ki (KI.grown hg hr)
/-- What the columns' elimination needs: all numbers stay small. -/
def FineL (L : List (List Int)) (k wd : Nat) : Prop := ∀ c, c ≤ k → SmL (runB ⟨L, 1, 0⟩ c).L wd
set_option maxRecDepth 100000 in
set_option maxHeartbeats 2000000 in
theorem leads1_nil (n l Bx S : Nat) (hn : 1 ≤ n) (A : Option Addr) (cap N : Nat) (J : List (Nat × Nat) → World → Prop) (W : World) (g : Nat)
  (hJ : ∀ s X Y, J s X → ItW g W.heap.size X Y → J s Y) (hbox : Own W Bx #[.pointer (some ⟨S, 0, none⟩)]) (hsys : Own W S #[.slice A N cap, .int .i64 (0 : Nat)]) (hJ0 : J [] W) :
  CallsIn Fence.wide n Tryz.prog 97 #[.func (.yield l) #[] #[], .pointer (some ⟨Bx, 0, none⟩)] W fun e W' => (∃ v, e = .returned v) ∧ J [] W' ∧ KI W W' := by
 refine callsIn_of_wp Tryz.func97 rfl trivial ?_ rfl
 simp only [Tryz.ntmps97, List.size_toArray, List.length_cons, List.length_nil, Nat.reduceAdd, Nat.reduceSub, Array.replicate_succ, Array.replicate_zero, List.push_toArray, List.append_toArray, List.nil_append, List.cons_append]
 have HJ := Lib.hid hJ
 have HB := Lib.hid hbox
 have HO := Lib.hid hsys
 have H0 := Lib.hid hJ0
 clear hJ hbox hsys hJ0
 refine wpIn_scope ?_
 gi_wp2_with fail
 refine ⟨trivial, (callsIn_wide.2 (of_val (w := W) 1 (by omega) (by omega))).mono ?_⟩
 rintro e w1 ⟨⟨b1, rfl, g1, g2, g3⟩, hb1⟩
 obtain ⟨A8, n8, c8, hs8⟩ := slN_form 1 b1
 simp only [numV]
 rw [hs8]
 have hW2 : Below W.heap.size W (w1.alloc (.cells #[.bool (sgnN 1), .slice A8 n8 c8] 35)) := hb1.alloc hb1.size _
 have HJ1 := Lib.hid (HJ.out _ _ _ H0.out (ItW.below hW2))
 have oB := HB.out.below hW2
 have oS := HO.out.below hW2
 have HK := Lib.hid (KI.below hW2)
 clear g1 g2 g3 hs8 hb1 hW2
 gi_wp2
 refine wpIn_label ?_
 generalize (w1.alloc (.cells #[.bool (sgnN 1), .slice A8 n8 c8] 35)) = W2 at *
 have oBc := oB.cell
 have oSc := oS.cell
 gi_wp2
 gi_loopw [4, 14] (fun a i wr => i = .int .i64 (0 : Nat) ∧ J [] wr ∧ KI W wr) (fun _ _ _ => 0)
 case atStart => exact ⟨rfl, HJ1.out, HK.out⟩
 case round =>
  clear HJ1 HK
  obtain ⟨rfl, hJ1, hK⟩ := hrel
  have HJ1 := Lib.hid hJ1
  have HK := Lib.hid hK
  clear hJ1 hK
  gi_wp2
  simp only [Exit.noGoto_normal]
  go_end0
  exact ⟨⟨_, rfl⟩, HJ1.out, HK.out⟩
/-- The iterator over the columns in which rows lead. -/
theorem leads_seq (n : Nat) (hn : 1 ≤ n) {w : World} {B0 Bx S k wd : Nat} {L : List (List Int)} (hbox : Own w Bx #[.pointer (some ⟨S, 0, none⟩)]) (hsys : SysAt B0 w S L k) (hN : L.length ≤ 900) (hw : Wide L wd) (hk : k ≤ wd) (hwd : wd ≤ 900) (h0 : L = [] → k = 0) (hf : FineL L k wd) :
  ∃ g, B0 ≤ g ∧ g < w.heap.size ∧ (∀ b i, Own w b #[.int .i64 i] → b ≠ g) ∧
   SeqItW n Tryz.prog 97 #[.pointer (some ⟨Bx, 0, none⟩)] (fun x : Nat × Nat => #[.int .i64 (x.1 : Nat), .int .i64 (x.2 : Nat)]) KI g (fun xs => xs = leadsB ⟨L, 1, 0⟩ k) 1000 (fun W => SysAt B0 W S (runB ⟨L, 1, 0⟩ k).L k) w := by
 obtain ⟨hS0, hSl, A, cap, ho, hc1, hc2, hrow⟩ := hsys
 have hdis : ∀ b cs i, Own w b cs → Own w b #[.int .i64 i] → cs = #[.int .i64 i] := fun b cs i h1 h2 => by
  obtain ⟨T1, h1⟩ := h1
  obtain ⟨T2, h2⟩ := h2
  rw [h1] at h2
  cases h2; rfl
 rcases Nat.eq_zero_or_pos L.length with hL | hL
 ·obtain rfl : L = [] := List.eq_nil_of_length_eq_zero hL
  obtain rfl := h0 rfl
  refine ⟨S, hS0, hSl, fun b i h e => ?_, fun l J W hW hJ hY hJ0 => ?_⟩
  ·subst e
   have := hdis _ _ _ ho h
   simp at this
  ·refine (leads1_nil n l Bx S hn A cap 0 J W S hJ (hbox.below hW) (ho.below hW) hJ0).mono ?_
   rintro e W' ⟨h1, h2, h3⟩
   refine ⟨h1, [], rfl, h2, ?_⟩
   have : SysAt B0 W S [] 0 := ⟨hS0, Nat.lt_of_lt_of_le hSl hW.size, A, cap, ho.below hW, hc1, hc2, fun h => by simp at h⟩
   exact this.ki h3
 ·obtain ⟨g, rfl, hgS, hgB, hm⟩ := hrow hL
  have hBg : Bx ≠ g := fun e => by
   subst e
   obtain ⟨cs, hcs, hrows⟩ := hm
   obtain ⟨B, c, h1, _⟩ := hrows 0 hL
   obtain ⟨T1, h5⟩ := hbox
   obtain ⟨T2, h6⟩ := hcs
   rw [h5] at h6
   cases h6
   simp at h1
  refine ⟨g, hgB, by obtain ⟨cs, hcs, _⟩ := hm; exact hcs.lt, fun b i h e => ?_, fun l J W hW hJ hY hJ0 => ?_⟩
  ·subst e
   obtain ⟨cs, hcs, hrows⟩ := hm
   obtain ⟨B, c, h1, _⟩ := hrows 0 hL
   have := hdis _ _ _ hcs h
   rw [this] at h1
   simp at h1
  ·have hmX := hm.below hW
   refine (leads1_in n l Bx S g cap k wd hn L ⟨L, 1, 0⟩ rfl J W hJ hY (hbox.below hW) (ho.below hW) hmX hBg (fun e => hgS e.symm) hL hN hw hk hwd hc1 hc2 hf hJ0).mono ?_
   rintro e W' ⟨h1, h2, h3, h4⟩
   have hl : (runB ⟨L, 1, 0⟩ k).L.length = L.length := runB_len _ k
   exact ⟨h1, _, rfl, h2, hS0, h3.lt, _, cap, by rw [hl]; exact h3, by rw [hl]; exact hc1, hc2, fun _ => ⟨g, rfl, hgS, hgB, h4⟩⟩
theorem matCheck_ok {M : List (List Int)} (h : matCheck M = 0) : M.length ≤ 48 ∧ cols M ≤ 8 ∧ (∀ i, i < M.length → (rAt M i).length = cols M) ∧ ∀ i, i < M.length → ∀ k, k < cols M → largeI (iAt (rAt M i) k) = false := by
 unfold matCheck at h
 split at h
 ·cases h
 ·rename_i h1
  split at h
  ·cases h
  ·rename_i h2
   split at h
   ·cases h
   ·rename_i h3
    have h2' : anyF (fun i => decide ((rAt M i).length ≠ cols M)) M.length = false := by simpa using h2
    have h3' : anyF (fun i => anyF (fun k => largeI (iAt (rAt M i) k)) (rAt M i).length) M.length = false := by simpa using h3
    have hw : ∀ i, i < M.length → (rAt M i).length = cols M := fun i hi => by
     have := anyF_none h2' hi
     simpa using this
    refine ⟨by omega, by omega, hw, fun i hi k hk => ?_⟩
    have h4 := anyF_none h3' hi
    exact anyF_none h4 (by rw [hw i hi]; exact hk)
theorem rAt_sysL (M : List (List Int)) (lb : List Int) : ∀ {n i : Nat}, i < n → rAt (sysL M lb n) i = sysR M lb i
 | n + 1, i, h => by
  rcases rAt_snoc (L := sysL M lb n) (Z := sysR M lb n) (i := i) (by simp [sysL_len]; exact h) with ⟨h1, h2⟩ | ⟨h1, h2⟩
  ·rw [sysL, h2]
   exact rAt_sysL M lb (by rw [sysL_len] at h1; exact h1)
  ·rw [sysL, h2]
   rw [sysL_len] at h1
   rw [h1]
end Go.Proofs.YtflgngjocgiojaaGreat
namespace Go.Proofs.YtflgngjocgiojaaGreat

def rowF (L : List (List Int)) (i : Nat) : Nat → Int := fun j => zAt (rAt L i) j
theorem minV_eq {a : Nat} {O O' : Nat → Nat → Int} {cs cs' : Nat → Nat} {r : Nat → Int} {j : Nat} (h1 : ∀ i, i < a → O i = O' i) (h2 : ∀ b, b < a → cs b = cs' b) : minV a O cs r j = minV a O' cs' r j := by
 unfold minV
 refine det_eq fun i b _ _ => ?_
 by_cases h3 : i < a
 ·by_cases h4 : b < a
  ·rw [if_pos h3, if_pos h4, if_pos h3, if_pos h4, h1 i h3, h2 b h4]
  ·rw [if_pos h3, if_neg h4, if_pos h3, if_neg h4, h1 i h3]
 ·by_cases h4 : b < a
  ·rw [if_neg h3, if_pos h4, if_neg h3, if_pos h4, h2 b h4]
  ·rw [if_neg h3, if_neg h4, if_neg h3, if_neg h4]
theorem minD_eq {a : Nat} {O O' : Nat → Nat → Int} {cs cs' : Nat → Nat} (h1 : ∀ i, i < a → O i = O' i) (h2 : ∀ b, b < a → cs b = cs' b) : minD a O cs = minD a O' cs' := by
 unfold minD
 exact det_eq fun i b hi hb => by rw [h1 i hi, h2 b hb]
theorem zAt_comb (R O : List Int) (c : Nat) (p : Int) : ∀ {n j : Nat}, j < n → zAt (combZ R O c p n) j = (zAt O c * zAt R j - zAt R c * zAt O j) / p
 | n + 1, j, h => by
  rw [combZ]
  unfold zAt
  rw [List.getD_eq_getElem?_getD]
  rcases Nat.lt_or_ge j n with h1 | h1
  ·rw [List.getElem?_append_left (by rw [combZ_len]; exact h1), ← List.getD_eq_getElem?_getD]
   exact zAt_comb R O c p h1
  ·obtain rfl : j = n := by omega
   rw [List.getElem?_append_right (by rw [combZ_len]; exact Nat.le_refl _), combZ_len, Nat.sub_self]
   rfl
/-- What holds when the first c columns are done: row i is the row π i of the beginning, the columns cs lead. -/
structure InvB (L0 : List (List Int)) (wd : Nat) (s : BS) (c : Nat) (π cs : Nat → Nat) : Prop where
 perm : ∀ i, i < L0.length → π i < L0.length
 inj : ∀ i j, i < L0.length → j < L0.length → π i = π j → i = j
 sur : ∀ y, y < L0.length → ∃ i, i < L0.length ∧ π i = y
 len : s.L.length = L0.length
 a_le : s.a ≤ L0.length
 col : ∀ t, t < s.a → cs t < c
 inc : ∀ t u, t < u → u < s.a → cs t < cs u
 low : ∀ i, s.a ≤ i → i < L0.length → ∀ j, j < wd → zAt (rAt s.L i) j = minV s.a (fun i => rowF L0 (π i)) cs (rowF L0 (π i)) j
 high : ∀ i, i < s.a → ∀ j, j < wd → zAt (rAt s.L i) j = minV i (fun i => rowF L0 (π i)) cs (rowF L0 (π i)) j
 b_eq : s.b = minD s.a (fun i => rowF L0 (π i)) cs
 nz : ∀ t, t ≤ s.a → minD t (fun i => rowF L0 (π i)) cs ≠ 0
 zero : ∀ i, s.a ≤ i → i < L0.length → ∀ c', c' < c → zAt (rAt s.L i) c' = 0
theorem InvB.start (L0 : List (List Int)) (wd : Nat) : InvB L0 wd ⟨L0, 1, 0⟩ 0 id id where
 perm _ h := h
 inj _ _ _ _ h := h
 sur y h := ⟨y, h, rfl⟩
 len := rfl
 a_le := Nat.zero_le _
 col _ h := by simp at h
 inc _ _ _ h := by simp at h
 low i _ _ j _ := by
  show zAt (rAt L0 i) j = minV 0 _ _ _ j
  unfold minV
  simp only [det, sumF, Nat.not_lt_zero, if_false, sg1, rowF]
  simp
 high i h := by simp at h
 b_eq := rfl
 nz t h := by
  obtain rfl : t = 0 := by simpa using h
  show (1 : Int) ≠ 0
  omega
 zero _ _ _ _ h := by omega
def swpN (a p i : Nat) : Nat := if i = a then p else if i = p then a else i
theorem InvB.step {L0 : List (List Int)} {wd : Nat} {s : BS} {c : Nat} {π cs : Nat → Nat} (hw : Wide L0 wd) (hws : Wide s.L wd) (h : InvB L0 wd s c π cs) (hc : c < wd) : ∃ π' cs', InvB L0 wd (stepB s c) (c + 1) π' cs' ∧ (∀ t, t < s.a → cs' t = cs t) ∧ (∀ p, findP s.L c (s.L.length - s.a) s.a = some p → cs' s.a = c) := by
 cases hf : findP s.L c (s.L.length - s.a) s.a with
 | none =>
  rw [stepB_none hf]
  have hz := findP_zero _ _ hf
  refine ⟨π, cs, ?_, fun _ _ => rfl, fun p hp => by cases hp⟩
  refine ⟨h.perm, h.inj, h.sur, h.len, h.a_le, fun t ht => Nat.lt_succ_of_lt (h.col t ht), h.inc, h.low, h.high, h.b_eq, h.nz, fun i h1 h2 c' h3 => ?_⟩
  by_cases e : c' = c
  ·subst e; exact hz i h1 (by rw [h.len]; omega)
  ·exact h.zero i h1 h2 c' (by omega)
 | some p =>
  obtain ⟨hp1, hp2, hp3⟩ := findP_spec _ _ _ hf
  rw [stepB_some hf]
  obtain ⟨L, b, a⟩ := s
  have hlen := h.len
  have hale := h.a_le
  simp only at hlen hale hp1 hp2 hp3 hws hf ⊢
  have haN : a < L0.length := by omega
  have hpN : p < L0.length := by omega
  have haL : a < L.length := by omega
  have hpL : p < L.length := by omega
  have hπ' : ∀ i, i < a → π (swpN a p i) = π i := fun i hi => by unfold swpN; rw [if_neg (by omega), if_neg (by omega)]
  have hcs' : ∀ t, t < a → (if t = a then c else cs t) = cs t := fun t ht => if_neg (by omega)
  -- the rows behind the swap
  have hsw : ∀ i, a ≤ i → i < L0.length → ∀ j, j < wd → zAt (rAt (swapL L a p) i) j = minV a (fun i => rowF L0 (π (swpN a p i))) (fun t => if t = a then c else cs t) (rowF L0 (π (swpN a p i))) j := fun i h1 h2 j hj => by
   have e0 : ∀ r, minV a (fun i => rowF L0 (π (swpN a p i))) (fun t => if t = a then c else cs t) r j = minV a (fun i => rowF L0 (π i)) cs r j := fun r => minV_eq (fun i hi => by simp only [hπ' i hi]) hcs'
   rw [rAt_swap haL hpL, e0]
   unfold swpN
   by_cases e1 : i = p
   ·rw [if_pos e1]
    by_cases e2 : i = a
    ·rw [if_pos e2, ← e1, e2]
     exact h.low a (Nat.le_refl _) haN j hj
    ·rw [if_neg e2, if_pos e1]
     exact h.low a (Nat.le_refl _) haN j hj
   ·rw [if_neg e1]
    by_cases e2 : i = a
    ·rw [if_pos e2, if_pos e2]
     exact h.low p hp1 hpN j hj
    ·rw [if_neg e2, if_neg e2, if_neg e1]
     exact h.low i h1 h2 j hj
  have hD : ∀ t, t ≤ a → minD t (fun i => rowF L0 (π (swpN a p i))) (fun t => if t = a then c else cs t) = minD t (fun i => rowF L0 (π i)) cs := fun t ht => minD_eq (fun i hi => by simp only [hπ' i (by omega)]) (fun b hb => hcs' b (by omega))
  have hpiv : minD (a + 1) (fun i => rowF L0 (π (swpN a p i))) (fun t => if t = a then c else cs t) = zAt (rAt (swapL L a p) a) c := by
   rw [hsw a (Nat.le_refl _) haN c hc, ← minV_self]
   simp only [if_true]
  have hpne : zAt (rAt (swapL L a p) a) c ≠ 0 := by
   rw [rAt_swap haL hpL]
   by_cases e : a = p
   ·rw [if_pos e, e]; exact hp3
   ·rw [if_neg e, if_pos rfl]; exact hp3
  have hnz : ∀ t, t ≤ a + 1 → minD t (fun i => rowF L0 (π (swpN a p i))) (fun t => if t = a then c else cs t) ≠ 0 := fun t ht => by
   by_cases e : t = a + 1
   ·subst e; rw [hpiv]; exact hpne
   ·rw [hD t (by omega)]; exact h.nz t (by show t ≤ a; omega)
  have hbD : b = minD a (fun i => rowF L0 (π (swpN a p i))) (fun t => if t = a then c else cs t) := by rw [hD a (Nat.le_refl _)]; exact h.b_eq
  have hw1 : Wide (swapL L a p) wd := hws.swap haL hpL
  have hsz : ∀ i, a ≤ i → i < L0.length → ∀ c', c' < c → zAt (rAt (swapL L a p) i) c' = 0 := fun i h1 h2 c' h3 => by
   rw [rAt_swap haL hpL]
   split
   ·exact h.zero a (Nat.le_refl _) haN c' h3
   ·split
    ·exact h.zero p hp1 hpN c' h3
    ·exact h.zero i h1 h2 c' h3
  have hel : ∀ i, i < L0.length → rAt (elimL (swapL L a p) a c b (L.length - (a + 1))) i = if a < i then combZ (rAt (swapL L a p) i) (rAt (swapL L a p) a) c b wd else rAt (swapL L a p) i := fun i hi => by
   rw [rAt_elim (by rw [swapL_len]; omega), hw1 i (by rw [swapL_len]; omega)]
   by_cases e : a < i
   ·rw [if_pos ⟨e, by omega⟩, if_pos e]
   ·rw [if_neg (fun h => e h.1), if_neg e]
  refine ⟨fun i => π (swpN a p i), fun t => if t = a then c else cs t, ?_, fun t ht => if_neg (by omega), fun _ _ => if_pos rfl⟩
  refine ⟨fun i hi => h.perm _ (by unfold swpN; split <;> (try split) <;> omega), fun i j hi hj e => ?_, fun y hy => ?_, by simp only [elimL_len, swapL_len]; exact hlen, haN, fun t ht => ?_, fun t u htu hu => ?_, fun i h1 h2 j hj => ?_, fun i h1 j hj => ?_, hpiv.symm, hnz, fun i h1 h2 c' h3 => ?_⟩
  ·have := h.inj _ _ (by unfold swpN; split <;> (try split) <;> omega) (by unfold swpN; split <;> (try split) <;> omega) e
   unfold swpN at this
   repeat' split at this
   all_goals omega
  ·obtain ⟨i, hi, e⟩ := h.sur y hy
   refine ⟨swpN a p i, by unfold swpN; split <;> (try split) <;> omega, ?_⟩
   have e2 : swpN a p (swpN a p i) = i := by
    unfold swpN
    repeat' split
    all_goals omega
   simp only [e2]
   exact e
  ·simp only at ht
   by_cases e : t = a
   ·simp only [if_pos e]; omega
   ·simp only [if_neg e]; have := h.col t (by show t < a; omega); omega
  ·simp only at hu
   by_cases e : u = a
   ·simp only [if_pos e, if_neg (show t ≠ a by omega)]
    exact h.col t (by show t < a; omega)
   ·simp only [if_neg e, if_neg (show t ≠ a by omega)]
    exact h.inc t u htu (by show u < a; omega)
  ·simp only at h1
   rw [hel i h2, if_pos (by omega), zAt_comb _ _ _ _ hj, hsw a (Nat.le_refl _) haN c hc, hsw i (by omega) h2 j hj, hsw i (by omega) h2 c hc, hsw a (Nat.le_refl _) haN j hj]
   have hb := bareiss (O := fun i => rowF L0 (π (swpN a p i))) (cs := fun t => if t = a then c else cs t) (a := a) hnz (rowF L0 (π (swpN a p i))) j
   rw [← minV_self] at hb
   simp only [if_true] at hb
   rw [hb, hbD]
   exact Int.mul_ediv_cancel_left _ (hnz a (by omega))
  ·simp only at h1
   rw [hel i (by omega), if_neg (by omega)]
   by_cases e : i = a
   ·subst e; exact hsw i (Nat.le_refl _) haN j hj
   ·rw [rAt_swap haL hpL, if_neg (by omega), if_neg e]
    have h4 := h.high i (by show i < a; omega) j hj
    rw [h4, hπ' i (by omega)]
    exact (minV_eq (fun x hx => by simp only [hπ' x (by omega)]) (fun b hb => hcs' b (by omega))).symm
  ·simp only at h1
   rw [hel i h2, if_pos (by omega), zAt_comb _ _ _ _ (by omega)]
   by_cases e : c' = c
   ·subst e
    rw [Int.mul_comm, Int.sub_self]
    exact Int.zero_ediv _
   ·rw [hsz i (by omega) h2 c' (by omega), hsz a (Nat.le_refl _) haN c' (by omega)]
    simp
theorem InvB.run2 {L0 : List (List Int)} {wd : Nat} (hw : Wide L0 wd) : ∀ c, c ≤ wd → ∃ π cs, InvB L0 wd (runB ⟨L0, 1, 0⟩ c) c π cs ∧ leadsB ⟨L0, 1, 0⟩ c = (List.range (runB ⟨L0, 1, 0⟩ c).a).map (fun t => (cs t, t))
 | 0, _ => ⟨id, id, InvB.start L0 wd, rfl⟩
 | c + 1, h => by
  obtain ⟨π, cs, hi, hl⟩ := InvB.run2 hw c (by omega)
  obtain ⟨π', cs', h1, h2, h3⟩ := hi.step hw (runB_wide hw c) (by omega)
  refine ⟨π', cs', h1, ?_⟩
  rw [leadsB, runB]
  have e : ∀ n, n ≤ (runB ⟨L0, 1, 0⟩ c).a → (List.range n).map (fun t => (cs t, t)) = (List.range n).map (fun t => (cs' t, t)) := fun n hn => List.map_congr_left fun t ht => by rw [h2 t (by have := List.mem_range.1 ht; omega)]
  cases hf : findP (runB ⟨L0, 1, 0⟩ c).L c ((runB ⟨L0, 1, 0⟩ c).L.length - (runB ⟨L0, 1, 0⟩ c).a) (runB ⟨L0, 1, 0⟩ c).a with
  | none =>
   rw [stepB_none hf, List.append_nil, hl]
   exact e _ (Nat.le_refl _)
  | some p =>
   rw [stepB_some hf, List.range_succ, List.map_append, hl, e _ (Nat.le_refl _)]
   simp only [List.map_cons, List.map_nil]
   rw [h3 p hf]
theorem InvB.run {L0 : List (List Int)} {wd : Nat} (hw : Wide L0 wd) (c : Nat) (hc : c ≤ wd) : ∃ π cs, InvB L0 wd (runB ⟨L0, 1, 0⟩ c) c π cs := by
 obtain ⟨π, cs, h, _⟩ := InvB.run2 hw c hc
 exact ⟨π, cs, h⟩
end Go.Proofs.YtflgngjocgiojaaGreat
namespace Go.Proofs.YtflgngjocgiojaaGreat
open Go.RowKit
attribute [local go_sem] Oper.semAt_some

def rankZ (M : List (List Int)) : Nat := if matCheck M = 0 then (leadsB ⟨sysL M [] M.length, 1, 0⟩ (cols M)).length else 0
theorem ItW.boxed {g B : Nat} {W W' : World} {b : Nat} {t : TypeId} {v : Value} (h : ItW g B W W') (hb : Boxed W b t v) (hg : b ≠ g) (hB : b < B) : Boxed W' b t v := (h.block b hb.lt hg hB).trans hb
theorem ItW.below_ {g B : Nat} {w W W' : World} (h : ItW g B W W') (hb : Below w.heap.size w W) (hg : w.heap.size ≤ g) (hB : w.heap.size ≤ B) : Below w.heap.size w W' :=
 hb.trans ⟨h.os, h.tape, h.output, h.size, fun k hk => h.block k (Nat.lt_of_lt_of_le hk hb.size) (by omega) (by omega)⟩
theorem sysR_nil (M : List (List Int)) (i : Nat) : sysR M [] i = rAt M i := by unfold sysR; rw [if_neg (by simp), List.append_nil]
theorem wide_sys {M : List (List Int)} {n k : Nat} (h : ∀ i, i < n → (rAt M i).length = k) : Wide (sysL M [] n) k := fun i hi => by
 rw [sysL_len] at hi
 rw [rAt_sysL M [] hi, sysR_nil]
 exact h i hi
theorem foldl_two (t : Array Value) (p q : Tmp) (a b : Value) : (#[p, q].zip #[a, b]).foldl (fun t (p, v) => t.setIfInBounds p v) t = (t.setIfInBounds p a).setIfInBounds q b := by simp
theorem KI.box {W : World} {B : Nat} {t : TypeId} {i : Int} (h : Boxed W B t (.int .i64 i)) (u : Value) : KI W (W.setCell ⟨B, 0, none⟩ u) :=
 ⟨by simp [World.setCell], fun b cs T r h1 h2 => by
  by_cases e : b = B
  ·subst e
   have : W.heap[b]? = some (.cells #[.int .i64 i] t (0, 0)) := h
   rw [this] at h1; cases h1
   exact absurd rfl (h2 i)
  ·exact (Below.heap_setCell _ _ _ b e).trans h1⟩
theorem intsNil (w : World) : IntsAt w none 0 [] := ⟨rfl, fun i hi => by simp at hi, fun h => by omega⟩
set_option maxRecDepth 100000 in
set_option maxHeartbeats 4000000 in
theorem matrix_Rank {w : World} {A : Option Addr} {n : Nat} {M : List (List Int)} (c : Nat) (h : RowsAt w A n M) (hf : matCheck M = 0 → FineL (sysL M [] M.length) (cols M) (cols M)) :
  Calls Tryz.prog 19 #[.slice A n c] w fun e w' => e = .returned (.tuple #[.int .i64 (rankZ M : Nat), .int .i64 (matCheck M)]) ∧ Below w.heap.size w w' := by
 have H := Lib.hid h
 have hl := h.len
 have q := matrix_check c h
 obtain ⟨e, he⟩ : ∃ e, matCheck M = e := ⟨_, rfl⟩
 rw [he] at q ⊢
 obtain ⟨rk, hrk⟩ : ∃ r, rankZ M = r := ⟨_, rfl⟩
 rw [hrk]
 have HK := Lib.hid (And.intro he hrk)
 have Q := Lib.hid q
 have HF := Lib.hid hf
 have HL := Lib.hid hl
 clear h q he hrk hf hl
 refine (callsIn_wide (n := 5)).1 ?_
 refine callsIn_of_wp_marks Tryz.func19 rfl trivial ?_ rfl
 simp only [Tryz.ntmps19, List.size_toArray, List.length_cons, List.length_nil, Nat.reduceAdd, Nat.reduceSub, Array.replicate_succ, Array.replicate_zero, List.push_toArray, List.append_toArray, List.nil_append, List.cons_append]
 gi_wp2_with fail
 refine ⟨trivial, (callsIn_wide.2 Q.out).mono ?_⟩
 rintro e2 w1 ⟨rfl, hb1⟩
 have hz1 := hb1.size
 by_cases he0 : e = 0
 ·subst he0
  have hok := matCheck_ok HK.out.1
  rw [HL.out] at hok
  have HO := Lib.hid hok
  have hn48 := hok.1
  have hc8 := hok.2.1
  have hB1 := hb1.alloc hz1 (.cells #[.int .i64 0] 3)
  have bN := Boxed.new w1 3 (.int .i64 0)
  have hWz := hB1.size
  gi_wp2_with fail
  obtain ⟨Bn, hBn⟩ : ∃ b, w1.heap.size = b := ⟨_, rfl⟩
  rw [hBn] at bN ⊢
  generalize (w1.alloc (.cells #[.int .i64 0] 3)) = w2 at *
  have qo := matrix_of c 0 (H.out.below hB1) (intsNil w2) (by omega) (fun i hi => by rw [HO.out.2.2.1 i hi]; omega) (by omega)
  refine ⟨trivial, (callsIn_wide.2 qo).mono ?_⟩
  clear qo
  rintro e3 w3 ⟨⟨S, rfl, hS⟩, hb3⟩
  have HS := Lib.hid hS
  have bN3 := boxB bN hb3
  have hB3 := hB1.trans (hb3.mono hWz)
  have hz3 := hb3.size
  have hBn3 : Bn < w3.heap.size := bN3.lt
  clear hS hb3 bN hok
  gi_wp2_with fail
  refine ⟨trivial, (callsIn_wide.2 (matrix_leads S w3)).mono ?_⟩
  rintro e4 w4 ⟨rfl, hbx, hb4⟩
  have HS4 := Lib.hid (HS.out.below hb4)
  have bN4 := boxB bN3 hb4
  have hB4 := hB3.trans (hb4.mono (Nat.le_trans hWz hz3))
  have hz4 := hb4.size
  clear hb4 bN3 HS
  obtain ⟨g, hg1, hg2, hg3, hseq⟩ := leads_seq (5 - 1) (by omega) (wd := cols M) hbx HS4.out (by rw [sysL_len]; omega) (wide_sys HO.out.2.2.1) (Nat.le_refl _) (by omega) (fun h => by
   have h1 := congrArg List.length h
   rw [sysL_len] at h1
   have h2 := HL.out
   have h3 : n = 0 := h1
   rw [h3] at h2
   rw [List.eq_nil_of_length_eq_zero h2]; rfl) (by have := HF.out HK.out.1; rw [HL.out] at this; exact this)
  gi_wp2
  refine wpIn_range_itW (by omega) (gf := 97) (lb := #[.pointer (some ⟨w3.heap.size, 0, none⟩)]) rfl (enters_of Tryz.func97 (by kernel_rfl) rfl)
   hseq hg2 KI.trans (KI.putObj (w := w4)) (fun _ => rfl) sysAt_own
   (fun pre W => Boxed W Bn 3 (.int .i64 (pre.length : Nat)) ∧ Below w.heap.size w W)
   (fun _ _ _ _ ⟨h1, h2⟩ hg hr => ⟨boxed_own' () _ _ _ h1 hg hr, ownFrom_below (Nat.le_refl _) (by omega) () _ _ _ h2 hg hr⟩)
   (fun s X Y ⟨h1, h2⟩ hI => ⟨hI.boxed h1 (hg3 _ _ (box_own bN4)) (by omega), hI.below_ h2 (by omega) (by omega)⟩)
   ⟨bN4, hB4⟩
   (fun x => { tmps := #[.slice A n c, undef, .int .i64 0, .int .i64 0, .int .i64 0, .pointer (some ⟨Bn, 0, none⟩), .slice A n c, .int .i64 0, .int .i64 0, .bool false, undef, .slice A n c, .pointer (some ⟨S, 0, none⟩), .func (.func 97) #[] #[.pointer (some ⟨w3.heap.size, 0, none⟩)], .int .i64 (x.1 : Nat), .int .i64 (x.2 : Nat), undef, undef, undef], defers := [] })
   ?assign ?body ?done
  case assign =>
   intro l x W K hK
   rw [foldl_two]
   (try simp only [List.setIfInBounds_toArray, List.set_cons_zero, List.set_cons_succ])
   refine wpIn_skip ?_
   exact hK
  case body =>
   rintro l pre x W hl ⟨h1, h2⟩ hlen
   have c1 := (box_own h1).cell 0
   have f1 := h1.frozen
   have hz := h1.lt
   simp only [List.getElem?_toArray, List.getElem?_cons_zero] at c1
   have hl2 : (pre.length : Int) < 1000 := by omega
   gi_wp2
   exact ⟨(KeepsOthers.setCell _ _ _).from _, KI.box h1 _, box_set h1 _, h2.setCell (by simp; omega) _⟩
  case done =>
   rintro D xs W hD rfl ⟨h1, h2⟩ hF hK
   have hrk : (leadsB ⟨sysL M [] n, 1, 0⟩ (cols M)).length = rk := by
    rw [← HK.out.2]; unfold rankZ; rw [if_pos HK.out.1, HL.out]
   rw [hrk] at h1
   have c1 := (box_own h1).cell 0
   simp only [List.getElem?_toArray, List.getElem?_cons_zero] at c1
   clear hrk hF
   gi_wp2
   refine ⟨by simp, .inl ⟨_, _, rfl, run_takeDeferred hK, ?_⟩⟩
   refine ⟨_, by simp [results, Tryz.results19, go_sem]; exact rfl, ?_⟩
   exact ⟨rfl, h2.trans (belowK_b (w := w) (Nat.le_refl _) _ D _ _ (by omega) hK rfl rfl)⟩
 ·obtain rfl : rk = 0 := by rw [← HK.out.2]; unfold rankZ; rw [if_neg (by rw [HK.out.1]; exact he0)]
  have hne : (e != 0) = true := bne_iff_ne.2 he0
  have HW := Lib.hid hb1
  clear he0 hb1
  gi_wp2
  refine ⟨_, by simp [results, Tryz.results19, go_sem]; exact rfl, ?_⟩
  exact ⟨rfl, HW.out⟩
end Go.Proofs.YtflgngjocgiojaaGreat
namespace Go.Proofs.YtflgngjocgiojaaGreat

theorem sumF_one (x : Nat → Int) {i : Nat} : ∀ {a : Nat}, i < a → sumF (fun t => (if t = i then x t else 0)) a = x i
 | a + 1, h => by
  rw [sumF]
  by_cases e : i = a
  ·subst e
   rw [if_pos rfl, sumF_zero (fun t ht => if_neg (by omega)), Int.zero_add]
  ·rw [if_neg (fun h => e h.symm), Int.add_zero]
   exact sumF_one x (by omega)
theorem rank_fact {L0 : List (List Int)} {wd : Nat} (hw : Wide L0 wd) : Fact (rowF L0) L0.length wd (leadsB ⟨L0, 1, 0⟩ wd).length ∧ ∀ r, Fact (rowF L0) L0.length wd r → (leadsB ⟨L0, 1, 0⟩ wd).length ≤ r := by
 obtain ⟨π, cs, hI⟩ := InvB.run hw wd (Nat.le_refl _)
 have hla : (leadsB ⟨L0, 1, 0⟩ wd).length = (runB ⟨L0, 1, 0⟩ wd).a := by simpa using leadsB_len ⟨L0, 1, 0⟩ wd
 rw [hla]
 obtain ⟨a, ha⟩ : ∃ a, (runB ⟨L0, 1, 0⟩ wd).a = a := ⟨_, rfl⟩
 have hale := hI.a_le
 have hnz := hI.nz
 have hcol := hI.col
 have hlow := hI.low
 rw [ha] at hale hnz hcol hlow
 rw [ha]
 refine ⟨?_, fun r hr => hr.least (π := π) (cs := cs) (fun i hi => hI.perm i (by omega)) hcol hnz⟩
 have key : ∀ y, ∃ cf : Nat → Int, y < L0.length → ∀ j, j < wd → minD a (fun i => rowF L0 (π i)) cs * rowF L0 y j = sumF (fun t => cf t * rowF L0 (π t) j) a := fun y => by
  by_cases hy : y < L0.length
  ·obtain ⟨i, hi, rfl⟩ := hI.sur y hy
   by_cases h1 : i < a
   ·refine ⟨fun t => if t = i then minD a (fun i => rowF L0 (π i)) cs else 0, fun _ j _ => ?_⟩
    have e : sumF (fun t => (if t = i then minD a (fun i => rowF L0 (π i)) cs else 0) * rowF L0 (π t) j) a = sumF (fun t => if t = i then minD a (fun i => rowF L0 (π i)) cs * rowF L0 (π t) j else 0) a := sumF_eq fun t _ => by
     by_cases e2 : t = i
     ·rw [if_pos e2, if_pos e2]
     ·rw [if_neg e2, if_neg e2, Int.zero_mul]
    rw [e, sumF_one (fun t => minD a (fun i => rowF L0 (π i)) cs * rowF L0 (π t) j) h1]
   ·obtain ⟨γ, hγ⟩ := minV_comb a (fun i => rowF L0 (π i)) cs (rowF L0 (π i))
    refine ⟨fun t => -γ t, fun _ j hj => ?_⟩
    have h2 := hlow i (by omega) hi j hj
    have h3 := hI.zero i (by rw [ha]; omega) hi j hj
    rw [h3, hγ j] at h2
    have h4 : sumF (fun t => -γ t * rowF L0 (π t) j) a = -sumF (fun t => γ t * rowF L0 (π t) j) a := by
     rw [← sumF_neg]
     exact sumF_eq fun t _ => by grind
    rw [h4]
    omega
  ·exact ⟨fun _ => 0, fun h => absurd h hy⟩
 exact ⟨minD a (fun i => rowF L0 (π i)) cs, fun y => Classical.choose (key y), fun t => rowF L0 (π t), hnz a (Nat.le_refl _), fun y hy j hj => Classical.choose_spec (key y) hy j hj⟩
/-- The rank of a matrix without error is the least number of factors. -/
theorem rankZ_fact {M : List (List Int)} (h : matCheck M = 0) : Fact (fun i j => iAt (rAt M i) j) M.length (cols M) (rankZ M) ∧ ∀ r, Fact (fun i j => iAt (rAt M i) j) M.length (cols M) r → rankZ M ≤ r := by
 obtain ⟨_, _, h3, _⟩ := matCheck_ok h
 have hr : rankZ M = (leadsB ⟨sysL M [] M.length, 1, 0⟩ (cols M)).length := by unfold rankZ; rw [if_pos h]
 have q := rank_fact (wide_sys h3)
 rw [sysL_len, ← hr] at q
 have e : ∀ i, i < M.length → ∀ j, rowF (sysL M [] M.length) i j = iAt (rAt M i) j := fun i hi j => by
  unfold rowF
  rw [rAt_sysL M [] hi, sysR_nil]
  rfl
 refine ⟨?_, fun r hr2 => q.2 r ?_⟩
 ·obtain ⟨d, C, E, hd, hF⟩ := q.1
  exact ⟨d, C, E, hd, fun i hi j hj => by show d * iAt (rAt M i) j = _; rw [← e i hi j]; exact hF i hi j hj⟩
 ·obtain ⟨d, C, E, hd, hF⟩ := hr2
  exact ⟨d, C, E, hd, fun i hi j hj => by rw [e i hi j]; exact hF i hi j hj⟩
end Go.Proofs.YtflgngjocgiojaaGreat
namespace Go.Proofs.YtflgngjocgiojaaGreat

theorem Fact.map {M : Nat → Nat → Int} {m n r m' : Nat} (h : Fact M m n r) (σ : Nat → Nat) (hσ : ∀ i, i < m' → σ i < m) : Fact (fun i => M (σ i)) m' n r := by
 obtain ⟨d, C, E, hd, h⟩ := h
 exact ⟨d, fun i => C (σ i), E, hd, fun i hi j hj => h (σ i) (hσ i hi) j hj⟩
theorem Fact.congr {M M' : Nat → Nat → Int} {m n r : Nat} (h : Fact M m n r) (e : ∀ i, i < m → ∀ j, j < n → M' i j = M i j) : Fact M' m n r := by
 obtain ⟨d, C, E, hd, h⟩ := h
 exact ⟨d, C, E, hd, fun i hi j hj => by rw [e i hi j hj]; exact h i hi j hj⟩
/-- A multiple of row k is added to row i. -/
theorem Fact.plus {M : Nat → Nat → Int} {m n r : Nat} (h : Fact M m n r) (i k : Nat) (t : Int) (hk : k < m) : Fact (fun x j => if x = i then M x j + t * M k j else M x j) m n r := by
 obtain ⟨d, C, E, hd, h⟩ := h
 refine ⟨d, fun x s => if x = i then C x s + t * C k s else C x s, E, hd, fun x hx j hj => ?_⟩
 by_cases e : x = i
 ·have e1 : sumF (fun s => (if x = i then C x s + t * C k s else C x s) * E s j) r = sumF (fun s => C x s * E s j) r + t * sumF (fun s => C k s * E s j) r := by
   rw [← sumF_mul, ← sumF_add]
   exact sumF_eq fun s _ => by rw [if_pos e]; grind
  show d * (if x = i then M x j + t * M k j else M x j) = _
  rw [e1, if_pos e, ← h x hx j hj, ← h k hk j hj]
  grind
 ·have e1 : sumF (fun s => (if x = i then C x s + t * C k s else C x s) * E s j) r = sumF (fun s => C x s * E s j) r := sumF_eq fun s _ => by rw [if_neg e]
  show d * (if x = i then M x j + t * M k j else M x j) = _
  rw [e1, if_neg e]
  exact h x hx j hj
/-- With another row one factor more is enough. -/
theorem Fact.more {M : Nat → Nat → Int} {m n r : Nat} (h : Fact M m n r) (w : Nat → Int) : Fact (fun i j => if i < m then M i j else w j) (m + 1) n (r + 1) := by
 obtain ⟨d, C, E, hd, h⟩ := h
 refine ⟨d, fun i t => if i < m then (if t < r then C i t else 0) else (if t < r then 0 else d), fun t j => if t < r then E t j else w j, hd, fun i hi j hj => ?_⟩
 rw [sumF]
 simp only [if_neg (Nat.lt_irrefl r)]
 by_cases e : i < m
 ·have e1 : sumF (fun t => (if i < m then (if t < r then C i t else 0) else (if t < r then 0 else d)) * (if t < r then E t j else w j)) r = sumF (fun t => C i t * E t j) r := sumF_eq fun t ht => by rw [if_pos e, if_pos ht, if_pos ht]
  rw [e1, if_pos e, if_pos e, Int.zero_mul, Int.add_zero]
  exact h i e j hj
 ·have e1 : sumF (fun t => (if i < m then (if t < r then C i t else 0) else (if t < r then 0 else d)) * (if t < r then E t j else w j)) r = 0 := sumF_zero fun t ht => by rw [if_neg e, if_pos ht, Int.zero_mul]
  rw [e1, if_neg e, if_neg e, Int.zero_add]
/-- Two matrices with the same factors have the same rank. -/
theorem rank_same {M M' : List (List Int)} (h : matCheck M = 0) (h' : matCheck M' = 0)
  (e1 : ∀ r, Fact (fun i j => iAt (rAt M i) j) M.length (cols M) r → Fact (fun i j => iAt (rAt M' i) j) M'.length (cols M') r)
  (e2 : ∀ r, Fact (fun i j => iAt (rAt M' i) j) M'.length (cols M') r → Fact (fun i j => iAt (rAt M i) j) M.length (cols M) r) : rankZ M' = rankZ M := by
 obtain ⟨a1, a2⟩ := rankZ_fact h
 obtain ⟨b1, b2⟩ := rankZ_fact h'
 exact Nat.le_antisymm (b2 _ (e1 _ a1)) (a2 _ (e2 _ b1))
/-- The transposed matrix. -/
theorem rank_turn {M T : List (List Int)} (h : matCheck M = 0) (h' : matCheck T = 0) (hl : T.length = cols M) (hc : cols T = M.length) (e : ∀ i, i < M.length → ∀ j, j < cols M → iAt (rAt T j) i = iAt (rAt M i) j) : rankZ T = rankZ M := by
 refine rank_same h h' (fun r hr => ?_) (fun r hr => ?_)
 ·rw [hl, hc]
  exact hr.turn.congr fun j hj i hi => e i hi j hj
 ·rw [hl, hc] at hr
  exact hr.turn.congr fun i hi j hj => (e i hi j hj).symm
/-- Rows taken from the matrix, so that each of its own is among them. -/
theorem rank_map {M T : List (List Int)} (h : matCheck M = 0) (h' : matCheck T = 0) (hc : cols T = cols M) (σ τ : Nat → Nat) (h1 : ∀ i, i < T.length → σ i < M.length ∧ ∀ j, j < cols M → iAt (rAt T i) j = iAt (rAt M (σ i)) j)
  (h2 : ∀ i, i < M.length → τ i < T.length ∧ ∀ j, j < cols M → iAt (rAt M i) j = iAt (rAt T (τ i)) j) : rankZ T = rankZ M := by
 refine rank_same h h' (fun r hr => ?_) (fun r hr => ?_)
 ·rw [hc]
  exact (hr.map (m' := T.length) σ fun i hi => (h1 i hi).1).congr fun i hi j hj => (h1 i hi).2 j hj
 ·rw [hc] at hr
  exact (hr.map (m' := M.length) τ fun i hi => (h2 i hi).1).congr fun i hi j hj => (h2 i hi).2 j hj
/-- Another row. -/
theorem rank_more {M T : List (List Int)} (h : matCheck M = 0) (h' : matCheck T = 0) (hc : cols T = cols M) (hl : T.length = M.length + 1) (e : ∀ i, i < M.length → ∀ j, j < cols M → iAt (rAt T i) j = iAt (rAt M i) j) : rankZ T = rankZ M ∨ rankZ T = rankZ M + 1 := by
 obtain ⟨a1, a2⟩ := rankZ_fact h
 obtain ⟨b1, b2⟩ := rankZ_fact h'
 have h1 : rankZ T ≤ rankZ M + 1 := b2 _ (by
  rw [hl, hc]
  refine (a1.more (fun j => iAt (rAt T M.length) j)).congr fun i hi j hj => ?_
  by_cases e2 : i < M.length
  ·rw [if_pos e2]; exact e i e2 j hj
  ·rw [if_neg e2, show i = M.length by omega])
 have h2 : rankZ M ≤ rankZ T := a2 _ (by
  rw [hl, hc] at b1
  exact (b1.map (m' := M.length) id fun i hi => by show i < _; omega).congr fun i hi j hj => (e i hi j hj).symm)
 omega
end Go.Proofs.YtflgngjocgiojaaGreat
