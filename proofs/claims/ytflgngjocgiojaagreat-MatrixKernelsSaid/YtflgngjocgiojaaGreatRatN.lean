/- Ratio: Of, over, Div, the divisor being other than 0. -/
import Derived.Test.YtflgngjocgiojaaGreatMatG
import Derived.Test.YtflgngjocgiojaaGreatMatB
import Derived.Test.YtflgngjocgiojaaGreatRatI
import Derived.Test.YtflgngjocgiojaaGreatSinkp
namespace Go.Proofs.YtflgngjocgiojaaGreat
open Go.RowKit
attribute [local go_sem] Oper.semAt_some

set_option maxRecDepth 100000 in
set_option maxHeartbeats 400000 in
theorem matrix_leads (S : Nat) (w : World) :
  Calls Tryz.prog 57 #[.pointer (some ⟨S, 0, none⟩)] w fun r w' => r = .returned (.func (.func 97) #[] #[.pointer (some ⟨w.heap.size, 0, none⟩)]) ∧ Own w' w.heap.size #[.pointer (some ⟨S, 0, none⟩)] ∧ Below w.heap.size w w' := by
 go_enter Tryz.func57, Tryz.ntmps57
 have hW := (Below.refl w.heap.size w).alloc (Nat.le_refl _) (.cells #[.pointer (some ⟨S, 0, none⟩)] 88)
 have o := Own.new (w := w) (b := w.heap.size) (cs := #[.pointer (some ⟨S, 0, none⟩)]) (T := 88) rfl
 go_wp2
 go_ret
 exact ⟨rfl, o, hW⟩
theorem KI.grown {B : Nat} {W W' : World} {row : Option Nat} (hg : W.grownBy W' row) (hr : ∀ r, row = some r → B ≤ r ∧ ∃ o : Obj, W.heap[r]? = some o ∧ o.isCells = false) : KI W W' :=
 ⟨hg.size, fun b cs T r h _ => (hg.block b (Array.getElem?_eq_some_iff.1 h).1 (fun e => by
  obtain ⟨_, o, ho, hc⟩ := hr b e.symm
  rw [h] at ho; cases ho; simp [Obj.isCells] at hc)).trans h⟩
theorem SysAt.ki {B0 : Nat} {w w' : World} {S k : Nat} {L : List (List Int)} (h : SysAt B0 w S L k) (hk : KI w w') : SysAt B0 w' S L k := by
 obtain ⟨h0, h1, A, c, h2, h3, h4, h5⟩ := h
 refine ⟨h0, Nat.lt_of_lt_of_le h1 hk.size, A, c, h2.ki hk (fun i e => by simp at e), h3, h4, fun h0 => ?_⟩
 obtain ⟨g, e, hg, hB, hm⟩ := h5 h0
 exact ⟨g, e, hg, hB, hm.ki hk h0⟩
theorem SysAt.below {B0 : Nat} {w w' : World} {S k : Nat} {L : List (List Int)} (h : SysAt B0 w S L k) (hk : Below w.heap.size w w') : SysAt B0 w' S L k := h.ki (KI.below hk)
theorem sysAt_own {B0 S k B : Nat} {L : List (List Int)} : OwnFrom B (fun (_ : Unit) W => SysAt B0 W S L k) := fun _ _X _Y _row hs hg hr => hs.ki (KI.grown hg hr)
/-- What the columns' elimination needs: all numbers stay small. -/
def FineL (L : List (List Int)) (k wd : Nat) : Prop := ∀ c, c ≤ k → SmL (runB ⟨L, 1, 0⟩ c).L wd
set_option maxRecDepth 100000 in
set_option maxHeartbeats 2000000 in
theorem leads1_nil (n l Bx S : Nat) (hn : 1 ≤ n) (A : Option Addr) (cap N : Nat) (J : List (Nat × Nat) → World → Prop) (W : World) (g : Nat)
  (hJ : ∀ s X Y, J s X → ItW g W.heap.size X Y → J s Y) (hbox : Own W Bx #[.pointer (some ⟨S, 0, none⟩)]) (hsys : Own W S #[.slice A N cap, .int .i64 (0 : Nat)]) (hJ0 : J [] W) :
  CallsIn Fence.wide n Tryz.prog 97 #[.func (.yield l) #[] #[], .pointer (some ⟨Bx, 0, none⟩)] W fun e W' => (∃ v, e = .returned v) ∧ J [] W' ∧ KI W W' := by
 refine callsIn_of_wp Tryz.func97 rfl trivial ?_ rfl
 simp only [Tryz.ntmps97, List.size_toArray, List.length_cons, List.length_nil, Nat.reduceAdd, Nat.reduceSub, Array.replicate_succ, Array.replicate_zero, List.push_toArray, List.append_toArray, List.nil_append, List.cons_append]
 have HJ := Lib.hid hJ
 have HB := Lib.hid hbox
 have HO := Lib.hid hsys
 have H0 := Lib.hid hJ0
 clear hJ hbox hsys hJ0
 refine wpIn_scope ?_
 gi_wp2_with fail
 refine ⟨trivial, (callsIn_wide.2 (of_val (w := W) 1 (by omega) (by omega))).mono ?_⟩
 rintro e w1 ⟨⟨b1, rfl, g1, g2, g3⟩, hb1⟩
 obtain ⟨A8, n8, c8, hs8⟩ := slN_form 1 b1
 simp only [numV]
 rw [hs8]
 have hW2 : Below W.heap.size W (w1.alloc (.cells #[.bool (sgnN 1), .slice A8 n8 c8] 35)) := hb1.alloc hb1.size _
 have HJ1 := Lib.hid (HJ.out _ _ _ H0.out (ItW.below hW2))
 have oB := HB.out.below hW2
 have oS := HO.out.below hW2
 have HK := Lib.hid (KI.below hW2)
 clear g1 g2 g3 hs8 hb1 hW2
 gi_wp2
 refine wpIn_label ?_
 generalize (w1.alloc (.cells #[.bool (sgnN 1), .slice A8 n8 c8] 35)) = W2 at *
 have oBc := oB.cell
 have oSc := oS.cell
 gi_wp2
 gi_loopw [4, 14] (fun a i wr => i = .int .i64 (0 : Nat) ∧ J [] wr ∧ KI W wr) (fun _ _ _ => 0)
 case atStart => exact ⟨rfl, HJ1.out, HK.out⟩
 case round =>
  clear HJ1 HK
  obtain ⟨rfl, hJ1, hK⟩ := hrel
  have HJ1 := Lib.hid hJ1
  have HK := Lib.hid hK
  clear hJ1 hK
  gi_wp2
  simp only [Exit.noGoto_normal]
  go_end0
  exact ⟨⟨_, rfl⟩, HJ1.out, HK.out⟩
/-- The iterator over the columns in which rows lead. -/
theorem leads_seq (n : Nat) (hn : 1 ≤ n) {w : World} {B0 Bx S k wd : Nat} {L : List (List Int)} (hbox : Own w Bx #[.pointer (some ⟨S, 0, none⟩)]) (hsys : SysAt B0 w S L k) (hN : L.length ≤ 900) (hw : Wide L wd) (hk : k ≤ wd) (hwd : wd ≤ 900) (h0 : L = [] → k = 0) (hf : FineL L k wd) :
  ∃ g, B0 ≤ g ∧ g < w.heap.size ∧ (∀ b i, Own w b #[.int .i64 i] → b ≠ g) ∧
   SeqItW n Tryz.prog 97 #[.pointer (some ⟨Bx, 0, none⟩)] (fun x : Nat × Nat => #[.int .i64 (x.1 : Nat), .int .i64 (x.2 : Nat)]) KI g (fun xs => xs = leadsB ⟨L, 1, 0⟩ k) 1000 (fun W => SysAt B0 W S (runB ⟨L, 1, 0⟩ k).L k) w := by
 obtain ⟨hS0, hSl, A, cap, ho, hc1, hc2, hrow⟩ := hsys
 have hdis : ∀ b cs i, Own w b cs → Own w b #[.int .i64 i] → cs = #[.int .i64 i] := fun b cs i h1 h2 => by
  obtain ⟨T1, h1⟩ := h1
  obtain ⟨T2, h2⟩ := h2
  rw [h1] at h2
  cases h2; rfl
 rcases Nat.eq_zero_or_pos L.length with hL | hL
 ·obtain rfl : L = [] := List.eq_nil_of_length_eq_zero hL
  obtain rfl := h0 rfl
  refine ⟨S, hS0, hSl, fun b i h e => ?_, fun l J W hW hJ hY hJ0 => ?_⟩
  ·subst e
   have := hdis _ _ _ ho h
   simp at this
  ·refine (leads1_nil n l Bx S hn A cap 0 J W S hJ (hbox.below hW) (ho.below hW) hJ0).mono ?_
   rintro e W' ⟨h1, h2, h3⟩
   refine ⟨h1, [], rfl, h2, ?_⟩
   have : SysAt B0 W S [] 0 := ⟨hS0, Nat.lt_of_lt_of_le hSl hW.size, A, cap, ho.below hW, hc1, hc2, fun h => by simp at h⟩
   exact this.ki h3
 ·obtain ⟨g, rfl, hgS, hgB, hm⟩ := hrow hL
  have hBg : Bx ≠ g := fun e => by
   subst e
   obtain ⟨cs, hcs, hrows⟩ := hm
   obtain ⟨B, c, h1, _⟩ := hrows 0 hL
   obtain ⟨T1, h5⟩ := hbox
   obtain ⟨T2, h6⟩ := hcs
   rw [h5] at h6
   cases h6
   simp at h1
  refine ⟨g, hgB, by obtain ⟨cs, hcs, _⟩ := hm; exact hcs.lt, fun b i h e => ?_, fun l J W hW hJ hY hJ0 => ?_⟩
  ·subst e
   obtain ⟨cs, hcs, hrows⟩ := hm
   obtain ⟨B, c, h1, _⟩ := hrows 0 hL
   have := hdis _ _ _ hcs h
   rw [this] at h1
   simp at h1
  ·have hmX := hm.below hW
   refine (leads1_in n l Bx S g cap k wd hn L ⟨L, 1, 0⟩ rfl J W hJ hY (hbox.below hW) (ho.below hW) hmX hBg (fun e => hgS e.symm) hL hN hw hk hwd hc1 hc2 hf hJ0).mono ?_
   rintro e W' ⟨h1, h2, h3, h4⟩
   have hl : (runB ⟨L, 1, 0⟩ k).L.length = L.length := runB_len _ k
   exact ⟨h1, _, rfl, h2, hS0, h3.lt, _, cap, by rw [hl]; exact h3, by rw [hl]; exact hc1, hc2, fun _ => ⟨g, rfl, hgS, hgB, h4⟩⟩
theorem matCheck_ok {M : List (List Int)} (h : matCheck M = 0) : M.length ≤ 48 ∧ cols M ≤ 8 ∧ (∀ i, i < M.length → (rAt M i).length = cols M) ∧ ∀ i, i < M.length → ∀ k, k < cols M → largeI (iAt (rAt M i) k) = false := by
 unfold matCheck at h
 split at h
 ·cases h
 ·rename_i h1
  split at h
  ·cases h
  ·rename_i h2
   split at h
   ·cases h
   ·rename_i h3
    have h2' : anyF (fun i => decide ((rAt M i).length ≠ cols M)) M.length = false := by simpa using h2
    have h3' : anyF (fun i => anyF (fun k => largeI (iAt (rAt M i) k)) (rAt M i).length) M.length = false := by simpa using h3
    have hw : ∀ i, i < M.length → (rAt M i).length = cols M := fun i hi => by
     have := anyF_none h2' hi
     simpa using this
    refine ⟨by omega, by omega, hw, fun i hi k hk => ?_⟩
    have h4 := anyF_none h3' hi
    exact anyF_none h4 (by rw [hw i hi]; exact hk)
theorem rAt_sysL (M : List (List Int)) (lb : List Int) : ∀ {n i : Nat}, i < n → rAt (sysL M lb n) i = sysR M lb i
 | n + 1, i, h => by
  rcases rAt_snoc (L := sysL M lb n) (Z := sysR M lb n) (i := i) (by simp [sysL_len]; exact h) with ⟨h1, h2⟩ | ⟨h1, h2⟩
  ·rw [sysL, h2]
   exact rAt_sysL M lb (by rw [sysL_len] at h1; exact h1)
  ·rw [sysL, h2]
   rw [sysL_len] at h1
   rw [h1]
end Go.Proofs.YtflgngjocgiojaaGreat
namespace Go.Proofs.YtflgngjocgiojaaGreat
open Go.RowKit
attribute [local go_sem] Oper.semAt_some

def rankZ (M : List (List Int)) : Nat := if matCheck M = 0 then (leadsB ⟨sysL M [] M.length, 1, 0⟩ (cols M)).length else 0
theorem ItW.boxed {g B : Nat} {W W' : World} {b : Nat} {t : TypeId} {v : Value} (h : ItW g B W W') (hb : Boxed W b t v) (hg : b ≠ g) (hB : b < B) : Boxed W' b t v := (h.block b hb.lt hg hB).trans hb
theorem ItW.below_ {g B : Nat} {w W W' : World} (h : ItW g B W W') (hb : Below w.heap.size w W) (hg : w.heap.size ≤ g) (hB : w.heap.size ≤ B) : Below w.heap.size w W' :=
 hb.trans ⟨h.os, h.tape, h.output, h.size, fun k hk => h.block k (Nat.lt_of_lt_of_le hk hb.size) (by omega) (by omega)⟩
theorem sysR_nil (M : List (List Int)) (i : Nat) : sysR M [] i = rAt M i := by unfold sysR; rw [if_neg (by simp), List.append_nil]
theorem wide_sys {M : List (List Int)} {n k : Nat} (h : ∀ i, i < n → (rAt M i).length = k) : Wide (sysL M [] n) k := fun i hi => by
 rw [sysL_len] at hi
 rw [rAt_sysL M [] hi, sysR_nil]
 exact h i hi
theorem foldl_two (t : Array Value) (p q : Tmp) (a b : Value) : (#[p, q].zip #[a, b]).foldl (fun t (p, v) => t.setIfInBounds p v) t = (t.setIfInBounds p a).setIfInBounds q b := by simp
theorem KI.box {W : World} {B : Nat} {t : TypeId} {i : Int} (h : Boxed W B t (.int .i64 i)) (u : Value) : KI W (W.setCell ⟨B, 0, none⟩ u) :=
 ⟨by simp [World.setCell], fun b cs T r h1 h2 => by
  by_cases e : b = B
  ·subst e
   have : W.heap[b]? = some (.cells #[.int .i64 i] t (0, 0)) := h
   rw [this] at h1; cases h1
   exact absurd rfl (h2 i)
  ·exact (Below.heap_setCell _ _ _ b e).trans h1⟩
theorem intsNil (w : World) : IntsAt w none 0 [] := ⟨rfl, fun i hi => by simp at hi, fun h => by omega⟩
set_option maxRecDepth 100000 in
set_option maxHeartbeats 4000000 in
theorem matrix_Rank {w : World} {A : Option Addr} {n : Nat} {M : List (List Int)} (c : Nat) (h : RowsAt w A n M) (hf : matCheck M = 0 → FineL (sysL M [] M.length) (cols M) (cols M)) :
  Calls Tryz.prog 19 #[.slice A n c] w fun e w' => e = .returned (.tuple #[.int .i64 (rankZ M : Nat), .int .i64 (matCheck M)]) ∧ Below w.heap.size w w' := by
 have H := Lib.hid h
 have hl := h.len
 have q := matrix_check c h
 obtain ⟨e, he⟩ : ∃ e, matCheck M = e := ⟨_, rfl⟩
 rw [he] at q ⊢
 obtain ⟨rk, hrk⟩ : ∃ r, rankZ M = r := ⟨_, rfl⟩
 rw [hrk]
 have HK := Lib.hid (And.intro he hrk)
 have Q := Lib.hid q
 have HF := Lib.hid hf
 have HL := Lib.hid hl
 clear h q he hrk hf hl
 refine (callsIn_wide (n := 5)).1 ?_
 refine callsIn_of_wp_marks Tryz.func19 rfl trivial ?_ rfl
 simp only [Tryz.ntmps19, List.size_toArray, List.length_cons, List.length_nil, Nat.reduceAdd, Nat.reduceSub, Array.replicate_succ, Array.replicate_zero, List.push_toArray, List.append_toArray, List.nil_append, List.cons_append]
 gi_wp2_with fail
 refine ⟨trivial, (callsIn_wide.2 Q.out).mono ?_⟩
 rintro e2 w1 ⟨rfl, hb1⟩
 have hz1 := hb1.size
 by_cases he0 : e = 0
 ·subst he0
  have hok := matCheck_ok HK.out.1
  rw [HL.out] at hok
  have HO := Lib.hid hok
  have hn48 := hok.1
  have hc8 := hok.2.1
  have hB1 := hb1.alloc hz1 (.cells #[.int .i64 0] 3)
  have bN := Boxed.new w1 3 (.int .i64 0)
  have hWz := hB1.size
  gi_wp2_with fail
  obtain ⟨Bn, hBn⟩ : ∃ b, w1.heap.size = b := ⟨_, rfl⟩
  rw [hBn] at bN ⊢
  generalize (w1.alloc (.cells #[.int .i64 0] 3)) = w2 at *
  have qo := matrix_of c 0 (H.out.below hB1) (intsNil w2) (by omega) (fun i hi => by rw [HO.out.2.2.1 i hi]; omega) (by omega)
  refine ⟨trivial, (callsIn_wide.2 qo).mono ?_⟩
  clear qo
  rintro e3 w3 ⟨⟨S, rfl, hS⟩, hb3⟩
  have HS := Lib.hid hS
  have bN3 := boxB bN hb3
  have hB3 := hB1.trans (hb3.mono hWz)
  have hz3 := hb3.size
  have hBn3 : Bn < w3.heap.size := bN3.lt
  clear hS hb3 bN hok
  gi_wp2_with fail
  refine ⟨trivial, (callsIn_wide.2 (matrix_leads S w3)).mono ?_⟩
  rintro e4 w4 ⟨rfl, hbx, hb4⟩
  have HS4 := Lib.hid (HS.out.below hb4)
  have bN4 := boxB bN3 hb4
  have hB4 := hB3.trans (hb4.mono (Nat.le_trans hWz hz3))
  have hz4 := hb4.size
  clear hb4 bN3 HS
  obtain ⟨g, hg1, hg2, hg3, hseq⟩ := leads_seq (5 - 1) (by omega) (wd := cols M) hbx HS4.out (by rw [sysL_len]; omega) (wide_sys HO.out.2.2.1) (Nat.le_refl _) (by omega) (fun h => by
   have h1 := congrArg List.length h
   rw [sysL_len] at h1
   have h2 := HL.out
   have h3 : n = 0 := h1
   rw [h3] at h2
   rw [List.eq_nil_of_length_eq_zero h2]; rfl) (by have := HF.out HK.out.1; rw [HL.out] at this; exact this)
  gi_wp2
  refine wpIn_range_itW (by omega) (gf := 97) (lb := #[.pointer (some ⟨w3.heap.size, 0, none⟩)]) rfl (enters_of Tryz.func97 (by kernel_rfl) rfl)
   hseq hg2 KI.trans (KI.putObj (w := w4)) (fun _ => rfl) sysAt_own
   (fun pre W => Boxed W Bn 3 (.int .i64 (pre.length : Nat)) ∧ Below w.heap.size w W)
   (fun _ _ _ _ ⟨h1, h2⟩ hg hr => ⟨boxed_own' () _ _ _ h1 hg hr, ownFrom_below (Nat.le_refl _) (by omega) () _ _ _ h2 hg hr⟩)
   (fun s X Y ⟨h1, h2⟩ hI => ⟨hI.boxed h1 (hg3 _ _ (box_own bN4)) (by omega), hI.below_ h2 (by omega) (by omega)⟩)
   ⟨bN4, hB4⟩
   (fun x => { tmps := #[.slice A n c, undef, .int .i64 0, .int .i64 0, .int .i64 0, .pointer (some ⟨Bn, 0, none⟩), .slice A n c, .int .i64 0, .int .i64 0, .bool false, undef, .slice A n c, .pointer (some ⟨S, 0, none⟩), .func (.func 97) #[] #[.pointer (some ⟨w3.heap.size, 0, none⟩)], .int .i64 (x.1 : Nat), .int .i64 (x.2 : Nat), undef, undef, undef], defers := [] })
   ?assign ?body ?done
  case assign =>
   intro l x W K hK
   rw [foldl_two]
   (try simp only [List.setIfInBounds_toArray, List.set_cons_zero, List.set_cons_succ])
   refine wpIn_skip ?_
   exact hK
  case body =>
   rintro l pre x W hl ⟨h1, h2⟩ hlen
   have c1 := (box_own h1).cell 0
   have f1 := h1.frozen
   have hz := h1.lt
   simp only [List.getElem?_toArray, List.getElem?_cons_zero] at c1
   have hl2 : (pre.length : Int) < 1000 := by omega
   gi_wp2
   exact ⟨(KeepsOthers.setCell _ _ _).from _, KI.box h1 _, box_set h1 _, h2.setCell (by simp; omega) _⟩
  case done =>
   rintro D xs W hD rfl ⟨h1, h2⟩ hF hK
   have hrk : (leadsB ⟨sysL M [] n, 1, 0⟩ (cols M)).length = rk := by
    rw [← HK.out.2]; unfold rankZ; rw [if_pos HK.out.1, HL.out]
   rw [hrk] at h1
   have c1 := (box_own h1).cell 0
   simp only [List.getElem?_toArray, List.getElem?_cons_zero] at c1
   clear hrk hF
   gi_wp2
   refine ⟨by simp, .inl ⟨_, _, rfl, run_takeDeferred hK, ?_⟩⟩
   refine ⟨_, by simp [results, Tryz.results19, go_sem]; exact rfl, ?_⟩
   exact ⟨rfl, h2.trans (belowK_b (w := w) (Nat.le_refl _) _ D _ _ (by omega) hK rfl rfl)⟩
 ·obtain rfl : rk = 0 := by rw [← HK.out.2]; unfold rankZ; rw [if_neg (by rw [HK.out.1]; exact he0)]
  have hne : (e != 0) = true := bne_iff_ne.2 he0
  have HW := Lib.hid hb1
  clear he0 hb1
  gi_wp2
  refine ⟨_, by simp [results, Tryz.results19, go_sem]; exact rfl, ?_⟩
  exact ⟨rfl, HW.out⟩
end Go.Proofs.YtflgngjocgiojaaGreat
namespace Go.Proofs.YtflgngjocgiojaaGreat
open Go.RowKit

theorem ratio_Of {w : World} {v1 v2 : Value} {z1 z2 : Int} (h1 : NumAt w v1 z1) (h2 : NumAt w v2 z2) (h0 : z2 ≠ 0) : Calls Tryz.prog 22 #[v1, v2] w (RetR w (ofN z1 z2) (ofD z1 z2)) := by
 by_cases h : 0 < z2
 ·exact ratio_Of_pos h1 h2 h
 ·exact ratio_Of_neg h1 h2 (by omega)
set_option maxRecDepth 100000 in
set_option maxHeartbeats 2000000 in
theorem ratio_over_ne {w : World} {v1 v2 : Value} {z1 z2 : Int} (h1 : ProdAt w v1 z1) (h2 : ProdAt w v2 z2) (h0 : z2 ≠ 0) : Calls Tryz.prog 75 #[v1, v2] w (RetR w (ofN z1 z2) (ofD z1 z2)) := by
 obtain ⟨z, hz⟩ : ∃ z, ofN z1 z2 = z := ⟨_, rfl⟩
 obtain ⟨y, hy⟩ : ∃ z, ofD z1 z2 = z := ⟨_, rfl⟩
 rw [hz, hy]
 obtain ⟨s1, A1, n1, c1, rfl, g1⟩ := h1
 obtain ⟨s2, A2, n2, c2, rfl, g2⟩ := h2
 have G1 := Lib.hid g1
 have G2 := Lib.hid g2
 have H := Lib.hid (And.intro hz (And.intro hy h0))
 clear g1 g2 hz hy h0
 have hW := ((((Below.refl w.heap.size w).alloc (Nat.le_refl _) (.cells #[.bool s1, .slice A1 n1 c1, .bool true] 113)).alloc (by simp) (.cells #[.bool s2, .slice A2 n2 c2, .bool true] 113)).alloc (by simp; omega) (.cells #[.bool false, .slice none 0 0, .bool false, .slice none 0 0] 37))
 have o4 : Own (((w.alloc (.cells #[.bool s1, .slice A1 n1 c1, .bool true] 113)).alloc (.cells #[.bool s2, .slice A2 n2 c2, .bool true] 113)).alloc (.cells #[.bool false, .slice none 0 0, .bool false, .slice none 0 0] 37)) (w.heap.size + 1 + 1) #[.bool false, .slice none 0 0, .bool false, .slice none 0 0] := (by repeat' (first | ((refine Own.new ?_); (focus (first | rfl | omega | (simp; done) | (simp; omega)))) | assumption | refine Own.alloc ?_ _ | refine Own.drew ?_ | (refine Own.far ?_ ?_ _; rotate_left; (focus (first | rfl | omega | (simp; done) | (simp; omega))))))
 go_enter Tryz.func75, Tryz.ntmps75
 go_wp2_with fail
 generalize (((w.alloc (.cells #[.bool s1, .slice A1 n1 c1, .bool true] 113)).alloc (.cells #[.bool s2, .slice A2 n2 c2, .bool true] 113)).alloc (.cells #[.bool false, .slice none 0 0, .bool false, .slice none 0 0] 37)) = W0 at *
 have hz0 := hW.size
 have q := ratio_Of (G1.out.below hW) (G2.out.below hW) H.out.2.2
 rw [H.out.1, H.out.2.1] at q
 refine Calls.mono q ?_
 clear q
 rintro e u1 ⟨⟨b1, b2, rfl, oN, oM, loN, hiN, loM, hiM⟩, hb⟩
 have q4 := o4.below hb
 have hwu := hW.trans (hb.mono hz0)
 have q4c := q4.cell
 have q4f := q4.thaw
 have q4z := q4.lt
 have o4l := o4.lt
 have HN := Lib.hid (And.intro oN oM)
 obtain ⟨A7, n7, c7, hs7⟩ := slN_form z b1
 obtain ⟨A8, n8, c8, hs8⟩ := slN_form y b2
 simp only [ratV]
 rw [hs7, hs8]
 have HSL := Lib.hid (And.intro hs7 hs8)
 clear hs7 hs8 oN oM hb o4
 go_wp2
 refine retC (b := w.heap.size + 1 + 1) (v := .tuple #[.agg #[.bool (sgnN z), .slice A7 n7 c7, .bool (sgnN y), .slice A8 n8 c8], .bool true]) (((((q4.set 0 (.bool (sgnN z))).set 1 (.slice A7 n7 c7)).set 2 (.bool (sgnN y))).set 3 (.slice A8 n8 c8))) (fun w' hw' => by simp [results, Tryz.results75, go_sem, hw']) rfl ⟨⟨b1, b2, by rw [ratV, HSL.out.1, HSL.out.2], ((((HN.out.1).far (p := ⟨w.heap.size + 1 + 1, 0, none⟩) (by simp; omega) (.bool (sgnN z))).far (p := ⟨w.heap.size + 1 + 1, 1, none⟩) (by simp; omega) (.slice A7 n7 c7)).far (p := ⟨w.heap.size + 1 + 1, 2, none⟩) (by simp; omega) (.bool (sgnN y))).far (p := ⟨w.heap.size + 1 + 1, 3, none⟩) (by simp; omega) (.slice A8 n8 c8), ((((HN.out.2).far (p := ⟨w.heap.size + 1 + 1, 0, none⟩) (by simp; omega) (.bool (sgnN z))).far (p := ⟨w.heap.size + 1 + 1, 1, none⟩) (by simp; omega) (.slice A7 n7 c7)).far (p := ⟨w.heap.size + 1 + 1, 2, none⟩) (by simp; omega) (.bool (sgnN y))).far (p := ⟨w.heap.size + 1 + 1, 3, none⟩) (by simp; omega) (.slice A8 n8 c8), by omega, by simp; omega, by omega, by simp; omega⟩, ((((hwu.setCell (p := ⟨w.heap.size + 1 + 1, 0, none⟩) (by simp; omega) (.bool (sgnN z))).setCell (p := ⟨w.heap.size + 1 + 1, 1, none⟩) (by simp; omega) (.slice A7 n7 c7)).setCell (p := ⟨w.heap.size + 1 + 1, 2, none⟩) (by simp; omega) (.bool (sgnN y))).setCell (p := ⟨w.heap.size + 1 + 1, 3, none⟩) (by simp; omega) (.slice A8 n8 c8))⟩
set_option maxRecDepth 100000 in
set_option maxHeartbeats 2000000 in
theorem ratio_Div {w : World} {v1 v2 : Value} {a b c d : Int} (h1 : RatAt w v1 a b) (h2 : RatAt w v2 c d) (k1 : goodQ a b = true) (k2 : goodQ c d = true) (h0 : c ≠ 0) (f1 : fits (a * d) = true) (f2 : fits (b * c) = true) :
  Calls Tryz.prog 100 #[v1, v2] w (RetR w (ofN (a * d) (b * c)) (ofD (a * d) (b * c))) := by
 obtain ⟨z, hz⟩ : ∃ z, ofN (a * d) (b * c) = z := ⟨_, rfl⟩
 obtain ⟨y, hy⟩ : ∃ z, ofD (a * d) (b * c) = z := ⟨_, rfl⟩
 rw [hz, hy]
 obtain ⟨ac, hac⟩ : ∃ z, a * d = z := ⟨_, rfl⟩
 obtain ⟨bd, hbd⟩ : ∃ z, b * c = z := ⟨_, rfl⟩
 have hb0 : 0 < b := by unfold goodQ at k1; simp at k1; exact k1.1
 have hd0 : 0 < d := by unfold goodQ at k2; simp at k2; exact k2.1
 have hbd0 : bd ≠ 0 := by rw [← hbd]; exact Int.mul_ne_zero (by omega) h0
 obtain ⟨o, ho⟩ : ∃ o, ordI c 0 = o := ⟨_, rfl⟩
 have ho0 : (o == 0) = false := by
  rw [← ho]; unfold ordI
  apply beq_eq_false_iff_ne.2
  split
  ·omega
  ·split <;> omega
 have HSG := Lib.hid ho
 clear ho
 rw [hac] at f1 hz hy
 rw [hbd] at f2 hz hy
 have R1 := Lib.hid (And.intro h1 k1)
 have R2 := Lib.hid (And.intro h2 k2)
 have H := Lib.hid (And.intro hz (And.intro hy (And.intro hac (And.intro hbd (And.intro hbd0 (And.intro f1 f2))))))
 obtain ⟨s1, A1, n1, c1, t1, E1, m1, d1, rfl, g1, g2⟩ := h1
 obtain ⟨s2, A2, n2, c2, t2, E2, m2, d2, rfl, g3, g4⟩ := h2
 have G1 := Lib.hid g1
 have G2 := Lib.hid g2
 have G3 := Lib.hid g3
 have G4 := Lib.hid g4
 clear hz hy hac hbd hb0 hd0 hbd0 f1 f2 k1 k2 g1 g2 g3 g4
 have hW := ((((Below.refl w.heap.size w).alloc (Nat.le_refl _) (.cells #[.bool s1, .slice A1 n1 c1, .bool t1, .slice E1 m1 d1] 37)).alloc (by simp) (.cells #[.bool s2, .slice A2 n2 c2, .bool t2, .slice E2 m2 d2] 37)).alloc (by simp; omega) (.cells #[.bool false, .slice none 0 0, .bool false, .slice none 0 0] 37))
 have o2 : Own (((w.alloc (.cells #[.bool s1, .slice A1 n1 c1, .bool t1, .slice E1 m1 d1] 37)).alloc (.cells #[.bool s2, .slice A2 n2 c2, .bool t2, .slice E2 m2 d2] 37)).alloc (.cells #[.bool false, .slice none 0 0, .bool false, .slice none 0 0] 37)) w.heap.size #[.bool s1, .slice A1 n1 c1, .bool t1, .slice E1 m1 d1] := (by repeat' (first | ((refine Own.new ?_); (focus (first | rfl | omega | (simp; done) | (simp; omega)))) | assumption | refine Own.alloc ?_ _ | refine Own.drew ?_ | (refine Own.far ?_ ?_ _; rotate_left; (focus (first | rfl | omega | (simp; done) | (simp; omega))))))
 have o3 : Own (((w.alloc (.cells #[.bool s1, .slice A1 n1 c1, .bool t1, .slice E1 m1 d1] 37)).alloc (.cells #[.bool s2, .slice A2 n2 c2, .bool t2, .slice E2 m2 d2] 37)).alloc (.cells #[.bool false, .slice none 0 0, .bool false, .slice none 0 0] 37)) (w.heap.size + 1) #[.bool s2, .slice A2 n2 c2, .bool t2, .slice E2 m2 d2] := (by repeat' (first | ((refine Own.new ?_); (focus (first | rfl | omega | (simp; done) | (simp; omega)))) | assumption | refine Own.alloc ?_ _ | refine Own.drew ?_ | (refine Own.far ?_ ?_ _; rotate_left; (focus (first | rfl | omega | (simp; done) | (simp; omega))))))
 have o4 : Own (((w.alloc (.cells #[.bool s1, .slice A1 n1 c1, .bool t1, .slice E1 m1 d1] 37)).alloc (.cells #[.bool s2, .slice A2 n2 c2, .bool t2, .slice E2 m2 d2] 37)).alloc (.cells #[.bool false, .slice none 0 0, .bool false, .slice none 0 0] 37)) (w.heap.size + 1 + 1) #[.bool false, .slice none 0 0, .bool false, .slice none 0 0] := (by repeat' (first | ((refine Own.new ?_); (focus (first | rfl | omega | (simp; done) | (simp; omega)))) | assumption | refine Own.alloc ?_ _ | refine Own.drew ?_ | (refine Own.far ?_ ?_ _; rotate_left; (focus (first | rfl | omega | (simp; done) | (simp; omega))))))
 go_enter Tryz.func100, Tryz.ntmps100
 go_wp2_with fail
 generalize (((w.alloc (.cells #[.bool s1, .slice A1 n1 c1, .bool t1, .slice E1 m1 d1] 37)).alloc (.cells #[.bool s2, .slice A2 n2 c2, .bool t2, .slice E2 m2 d2] 37)).alloc (.cells #[.bool false, .slice none 0 0, .bool false, .slice none 0 0] 37)) = W0 at *
 have q := ratio_Right (R1.out.1.below hW)
 rw [R1.out.2] at q
 refine Calls.mono q ?_
 clear q
 rintro e u1 ⟨rfl, hb⟩
 have hW1 := hW.trans (hb.mono hW.size)
 replace o2 := o2.below hb
 replace o3 := o3.below hb
 replace o4 := o4.below hb
 have o3c := o3.cell
 clear hb hW
 go_wp2_with fail
 have q := ratio_Sign (R2.out.1.below hW1) R2.out.2
 rw [HSG.out] at q
 refine Calls.mono q ?_
 clear q
 rintro e u2 ⟨rfl, hb⟩
 have hWW := hW1.trans (hb.mono hW1.size)
 have p2 := o2.below hb
 have p3 := o3.below hb
 have p4 := o4.below hb
 have p4z := p4.lt
 have X1 := Lib.hid (G1.out.below hWW)
 have X2 := Lib.hid (G2.out.below hWW)
 have X3 := Lib.hid (G3.out.below hWW)
 have X4 := Lib.hid (G4.out.below hWW)
 have hzW := hWW.size
 clear hb hW1 o2 o3 o4 o3c
 go_wp2
 have hTb : ∀ b, b ∈ [w.heap.size + 1 + 1] → b < u2.heap.size := fun b hm => by
  have h1 := List.mem_singleton.1 hm
  omega
 have hTn : ∀ b ∈ [w.heap.size + 1 + 1], ∃ cs, Own u2 b cs ∧ noU cs := fun b hm => by
  have h1 := List.mem_singleton.1 hm
  subst h1
  exact ⟨_, p4, noU_rat⟩
 have hwT : ∀ u, Upd [w.heap.size + 1 + 1] u2 u → Below w.heap.size w u := fun u hu => Upd.below hWW hu (by simp; omega)
 refine region_gen (T := [w.heap.size + 1 + 1]) [.make 4 [] (prodB _ ac), .make 9 [] (prodB _ bd), .make 10 [4, 9] (ratB _ w.heap.size z y), .need 11 [10]] 13 0 40 (fun _ u => Own u (w.heap.size + 1 + 1) #[.bool false, .slice none 0 0, .bool false, .slice none 0 0]) (fun _ _ _ h k => h.below k) p4 (by kernel_rfl) (by kernel_rfl) (by rfl) ?_
 unfold genWalk
 apply Exists.intro
 apply And.intro
 ·apply Piece.mk
  ·intro f v hv hr hne
   simp only [List.take_succ_cons, List.take_zero, List.drop_zero, Nat.reduceSub]
   have d2 := fun y => (p2.later (v := v) (T := [w.heap.size + 1 + 1]) (by simp; omega) y).cell
   have d3 := fun y => (p3.later (v := v) (T := [w.heap.size + 1 + 1]) (by simp) y).cell
   repeat (go_big_quiet_step (fail))
   refine wpQuiet_nil ?_
   exact rfl
  ·intro f; kernel_rfl
  ·intro f f' hf; kernel_rfl
 simp only [List.take_succ_cons, List.take_zero, List.drop_succ_cons, List.drop_zero, Nat.reduceAdd, oneOp]
 refine ⟨fun f => ⟨rfl, fun u hu _ => ?_⟩, ?_⟩
 ·refine make_call (f := 73) (args := #[.agg #[.bool s1, .slice A1 n1 c1], .agg #[.bool t2, .slice E2 m2 d2]]) (by (try simp only [Act.put, List.setIfInBounds_toArray, List.set_cons_zero, List.set_cons_succ]); (try simp only [newB_val, numB_val, ownB_val, valB_val, prodB_val, ratB_val]); go_simp) ?_
  have q := ratio_times (w := u) (NumAt.keepU X1.out hu hTn) (NumAt.keepU X4.out hu hTn)
  rw [H.out.2.2.1] at q
  refine q.mono ?_
  rintro e wx ⟨⟨b, rfl, q1, q2, q3⟩, hbx⟩
  exact ⟨(b, 0), rfl, q2, q3, hbx, fun hm => absurd (hTb b hm) (by have := hu.1; omega), q1⟩
 unfold genWalk
 apply Exists.intro
 apply And.intro
 ·apply Piece.mk
  ·intro f v hv hr hne
   simp only [List.take_succ_cons, List.take_zero, List.drop_succ_cons, List.drop_zero, Nat.reduceSub]
   (try simp only [Act.put, List.setIfInBounds_toArray, List.set_cons_zero, List.set_cons_succ])
   (try simp only [prodB_val])
   have d2 := fun y => (p2.later (v := v) (T := [w.heap.size + 1 + 1]) (by simp; omega) y).cell
   have d3 := fun y => (p3.later (v := v) (T := [w.heap.size + 1 + 1]) (by simp) y).cell
   repeat (go_big_quiet_step (fail))
   refine wpQuiet_nil ?_
   exact rfl
  ·intro f; kernel_rfl
  ·intro f f' hf; simp
 simp only [List.take_succ_cons, List.take_zero, List.drop_succ_cons, List.drop_zero, Nat.reduceAdd, oneOp]
 refine ⟨fun f => ⟨rfl, fun u hu _ => ?_⟩, ?_⟩
 ·refine make_call (f := 73) (args := #[.agg #[.bool t1, .slice E1 m1 d1], .agg #[.bool s2, .slice A2 n2 c2]]) (by (try simp only [Act.put, List.setIfInBounds_toArray, List.set_cons_zero, List.set_cons_succ]); (try simp only [newB_val, numB_val, ownB_val, valB_val, prodB_val, ratB_val]); go_simp) ?_
  have q := ratio_times (w := u) (NumAt.keepU X2.out hu hTn) (NumAt.keepU X3.out hu hTn)
  rw [H.out.2.2.2.1] at q
  refine q.mono ?_
  rintro e wx ⟨⟨b, rfl, q1, q2, q3⟩, hbx⟩
  exact ⟨(b, 0), rfl, q2, q3, hbx, fun hm => absurd (hTb b hm) (by have := hu.1; omega), q1⟩
 unfold genWalk
 apply Exists.intro
 apply And.intro
 ·apply Piece.mk
  ·intro f v hv hr hne
   simp only [List.take_zero, List.drop_succ_cons, List.drop_zero, Nat.reduceSub]
   (try simp only [Act.put, List.setIfInBounds_toArray, List.set_cons_zero, List.set_cons_succ])
   (try simp only [prodB_val])
   repeat (go_big_quiet_step (fail))
   refine wpQuiet_nil ?_
   exact rfl
  ·intro f; kernel_rfl
  ·intro f f' hf; simp
 simp only [List.take_succ_cons, List.take_zero, List.drop_succ_cons, List.drop_zero, Nat.reduceAdd, oneOp]
 refine ⟨fun f => ⟨rfl, fun u hu hm => ?_⟩, ?_⟩
 ·refine make_call (f := 75) (args := #[prodV ac (f 4).1, prodV bd (f 9).1]) (by (try simp only [Act.put, List.setIfInBounds_toArray, List.set_cons_zero, List.set_cons_succ]); (try simp only [newB_val, numB_val, ownB_val, valB_val, prodB_val, ratB_val]); go_simp) ?_
  have e1 : NumO u (f 4).1 ac := (show (prodB [w.heap.size + 1 + 1] ac).R (f 4) u from hm 4 (by simp)).2
  have e2 : NumO u (f 9).1 bd := (show (prodB [w.heap.size + 1 + 1] bd).R (f 9) u from hm 9 (by simp)).2
  have q := ratio_over_ne (w := u) (RetP.prod e1 H.out.2.2.2.2.2.1) (RetP.prod e2 H.out.2.2.2.2.2.2) H.out.2.2.2.2.1
  rw [H.out.1, H.out.2.1] at q
  refine q.mono ?_
  rintro e wx ⟨⟨b1, b2, rfl, q1, q2, q3, q4, q5, q6⟩, hbx⟩
  have hus := hu.1
  exact ⟨(b1, b2), rfl, q3, q4, hbx, fun hm => absurd (hTb b1 hm) (by omega), fun hm => absurd (hTb b2 hm) (by omega), q1, q2, by show w.heap.size ≤ b2; omega, q6⟩
 unfold genWalk
 apply Exists.intro
 apply And.intro
 ·apply Piece.mk
  ·intro f v hv hr hne
   simp only [List.take_zero, List.drop_succ_cons, List.drop_zero, Nat.reduceSub]
   (try simp only [Act.put, List.setIfInBounds_toArray, List.set_cons_zero, List.set_cons_succ])
   (try simp only [ratB_val])
   repeat (go_big_quiet_step (fail))
   refine wpQuiet_nil ?_
   exact rfl
  ·intro f; kernel_rfl
  ·intro f f' hf; simp
 unfold genWalk
 apply Exists.intro
 apply And.intro
 ·apply Piece.mk
  ·intro f v hv hr hne
   simp only [List.take_succ_cons, List.take_zero, List.drop_succ_cons, List.drop_zero, Nat.reduceSub]
   (try simp only [Act.put, List.setIfInBounds_toArray, List.set_cons_zero, List.set_cons_succ])
   (try simp only [newB_val, numB_val, ownB_val, valB_val, prodB_val, ratB_val])
   repeat (go_big_quiet_step (fail))
   refine wpQuiet_nil ?_
   exact rfl
  ·intro f; kernel_rfl
  ·intro f f' hf; first | (simp; done) | (simp [hf 10 (by simp)])
 intro f u' hup hph hmade hdist
 obtain ⟨⟨hT1, hT2, oN, oM, loM, hiM⟩, loN, hiN⟩ := hmade 10 (by omega) rfl
 replace oN : NumO u' (f 10).1 z := oN
 replace oM : NumO u' (f 10).2 y := oM
 replace loM : w.heap.size ≤ (f 10).2 := loM
 replace hiM : (f 10).2 < u'.heap.size := hiM
 have hT2b : (f 10).2 ≠ w.heap.size + 1 + 1 := fun h => hT2 (by rw [h]; exact List.mem_singleton_self _)
 clear hT1 hT2
 have q4 : Own u' (w.heap.size + 1 + 1) #[.bool false, .slice none 0 0, .bool false, .slice none 0 0] := hph
 have hwu : Below w.heap.size w u' := hwT u' hup
 clear hmade hdist hph
 simp only
 (try simp only [Act.put, List.setIfInBounds_toArray, List.set_cons_zero, List.set_cons_succ])
 (try simp only [newB_val, numB_val, ownB_val, valB_val, prodB_val, ratB_val])
 simp only [ratV]
 generalize (f 10).1 = b1 at *
 generalize (f 10).2 = b2 at *
 generalize (f 4).1 = b8 at *
 generalize (f 9).1 = b9 at *
 clear f
 obtain ⟨A7, n7, c7, hs7⟩ := slN_form z b1
 obtain ⟨A8, n8, c8, hs8⟩ := slN_form y b2
 rw [hs7, hs8]
 have HSL := Lib.hid (And.intro hs7 hs8)
 clear hs7 hs8
 have q4c := q4.cell
 have q4f := q4.thaw
 have q4z := q4.lt
 have hkT := Upd.keeps (Keeps.refl _ _) hup
 refine effc_mem (by rfl) (fun K hK => ?_)
 go_simp
 refine hK _ _ (((((hkT).set (p := ⟨w.heap.size + 1 + 1, 0, none⟩) (by simp) (.bool (sgnN z))).set (p := ⟨w.heap.size + 1 + 1, 1, none⟩) (by simp) (.slice A7 n7 c7)).set (p := ⟨w.heap.size + 1 + 1, 2, none⟩) (by simp) (.bool (sgnN y))).set (p := ⟨w.heap.size + 1 + 1, 3, none⟩) (by simp) (.slice A8 n8 c8)) (fun u3 hu3 => ?_)
 clear hK K
 have hs3 := hu3.size
 simp [World.setCell] at hs3
 have hwu1 := ((((hwu.setCell (p := ⟨w.heap.size + 1 + 1, 0, none⟩) (by simp; omega) (.bool (sgnN z))).setCell (p := ⟨w.heap.size + 1 + 1, 1, none⟩) (by simp; omega) (.slice A7 n7 c7)).setCell (p := ⟨w.heap.size + 1 + 1, 2, none⟩) (by simp; omega) (.bool (sgnN y))).setCell (p := ⟨w.heap.size + 1 + 1, 3, none⟩) (by simp; omega) (.slice A8 n8 c8)).trans (hu3.mono (by simp [World.setCell]; exact hwu.size))
 have q5 := ((((q4.set 0 (.bool (sgnN z))).set 1 (.slice A7 n7 c7)).set 2 (.bool (sgnN y))).set 3 (.slice A8 n8 c8)).below hu3
 have oN1 := NumO.below (((((oN).far (p := ⟨w.heap.size + 1 + 1, 0, none⟩) (by simp; omega) (.bool (sgnN z))).far (p := ⟨w.heap.size + 1 + 1, 1, none⟩) (by simp; omega) (.slice A7 n7 c7)).far (p := ⟨w.heap.size + 1 + 1, 2, none⟩) (by simp; omega) (.bool (sgnN y))).far (p := ⟨w.heap.size + 1 + 1, 3, none⟩) (by simp; omega) (.slice A8 n8 c8)) hu3
 have oM1 := NumO.below (((((oM).far (p := ⟨w.heap.size + 1 + 1, 0, none⟩) (by simp; omega) (.bool (sgnN z))).far (p := ⟨w.heap.size + 1 + 1, 1, none⟩) (by simp; omega) (.slice A7 n7 c7)).far (p := ⟨w.heap.size + 1 + 1, 2, none⟩) (by simp; omega) (.bool (sgnN y))).far (p := ⟨w.heap.size + 1 + 1, 3, none⟩) (by simp; omega) (.slice A8 n8 c8)) hu3
 have hk1 := (((((hkT).set (p := ⟨w.heap.size + 1 + 1, 0, none⟩) (by simp) (.bool (sgnN z))).set (p := ⟨w.heap.size + 1 + 1, 1, none⟩) (by simp) (.slice A7 n7 c7)).set (p := ⟨w.heap.size + 1 + 1, 2, none⟩) (by simp) (.bool (sgnN y))).set (p := ⟨w.heap.size + 1 + 1, 3, none⟩) (by simp) (.slice A8 n8 c8)).later hu3
 clear q4 q4c q4f q4z oN oM hu3
 refine effc_mem (by rfl) (fun K hK => ?_)
 go_simp
 refine hK _ _ hk1 (fun u4 hu4 => ?_)
 clear hK K
 have q6 := q5.below hu4
 have oN2 := oN1.below hu4
 have oM2 := oM1.below hu4
 have hwu2 := hwu1.trans (hu4.mono hwu1.size)
 have hs4 := hu4.size
 refine effc_nil ?_
 (try simp only [Act.put, List.setIfInBounds_toArray, List.set_cons_zero, List.set_cons_succ])
 go_wp2
 refine retC (b := w.heap.size + 1 + 1) (v := .tuple #[.agg #[.bool (sgnN z), .slice A7 n7 c7, .bool (sgnN y), .slice A8 n8 c8], .bool true]) q6 (fun w' hw' => by simp [results, Tryz.results100, go_sem, hw']) rfl ⟨⟨b1, b2, by rw [ratV, HSL.out.1, HSL.out.2], oN2, oM2, by omega, by omega, by omega, by omega⟩, hwu2⟩
end Go.Proofs.YtflgngjocgiojaaGreat
