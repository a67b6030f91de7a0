/- Package hull: flat and Check return what the plain functions say, for every list of vectors that the slice reads as. -/
import Derived.Test.YtccnlnkgoaelpaaHullC
namespace Go.Proofs.Ytccnlnkgoaelpaa
open Go.RowKit Go.Shelf
attribute [local go_sem] Oper.semAt_some

theorem box_own {w : World} {b : Nat} {t : TypeId} {v : Value} (h : Boxed w b t v) : Own w b #[v] := ⟨t, h⟩
/-- Block b is just the cells cs, of type T. -/
def OwnT (w : World) (b : Nat) (cs : Array Value) (T : TypeId) : Prop := w.heap[b]? = some (.cells cs T (0, 0))
theorem OwnT.own {w : World} {b : Nat} {cs : Array Value} {T : TypeId} (h : OwnT w b cs T) : Own w b cs := ⟨T, h⟩
theorem OwnT.new {w : World} {cs : Array Value} {T : TypeId} : OwnT (w.alloc (.cells cs T)) w.heap.size cs T := heap_alloc_new w _
theorem OwnT.below {w w' : World} {b : Nat} {cs : Array Value} {T : TypeId} (h : OwnT w b cs T) (hb : Below w.heap.size w w') : OwnT w' b cs T :=
  (hb.block b h.own.lt).trans h
theorem ownT_own {b : Nat} {cs : Array Value} {T : TypeId} {B : Nat} : OwnFrom B (fun (_ : Unit) W => OwnT W b cs T) := fun _ X Y row hs hg hr =>
  (hg.block b hs.own.lt (fun e => by obtain ⟨_, o, ho, hc⟩ := hr b e.symm; rw [show X.heap[b]? = _ from hs] at ho; cases ho; cases hc)).trans hs
theorem boxed_own' {b : Nat} {t : TypeId} {v : Value} {B : Nat} : OwnFrom B (fun (_ : Unit) W => Boxed W b t v) := fun _ X Y row hs hg hr =>
  (hg.block b hs.lt (fun e => by obtain ⟨_, o, ho, hc⟩ := hr b e.symm; rw [show X.heap[b]? = _ from hs] at ho; cases ho; cases hc)).trans hs
theorem box_set {W : World} {b : Nat} {t : TypeId} {v : Value} (h : Boxed W b t v) (u : Value) : Boxed (W.setCell ⟨b, 0, none⟩ u) b t u := by
  have h1 : W.heap[b]? = some (.cells #[v] t (0, 0)) := h
  show (W.setCell ⟨b, 0, none⟩ u).heap[b]? = _
  simp [World.setCell, Array.getElem?_modify, h1]
theorem box_put {W : World} {D b : Nat} {t : TypeId} {v : Value} {o : Obj} (h : Boxed W b t v) (hd : b < D) : Boxed (W.putObj D o) b t v := (World.putObj_heap_other (by omega)).trans h
theorem cell_cells {w : World} {b i : Nat} {v : Value} (h : w.cell? ⟨b, i, none⟩ = some v) : ∃ cs T r, w.heap[b]? = some (.cells cs T r) := by
  unfold World.cell? at h
  split at h
  · rename_i c T r e; exact ⟨c, T, r, e⟩
  · cases h
theorem vecs_own {A : Option Addr} {n : Nat} {L : List V3} {B : Nat} : OwnFrom B (fun (_ : Unit) W => VecsAt W A n L) := fun _ X Y row hs hg hr =>
  ⟨hs.len, hs.max, fun h1 => by
    obtain ⟨b, off, rfl, hlt, hc⟩ := hs.row h1
    obtain ⟨cs, T, r, hbl⟩ := cell_cells (hc 0 h1).1
    exact ⟨b, off, rfl, Nat.lt_of_lt_of_le hlt hg.size, RowV.same (w := X) hc (hg.block b hlt (fun e => by obtain ⟨_, o, ho, hcl⟩ := hr b e.symm; rw [hbl] at ho; cases ho; cases hcl))⟩⟩

set_option maxRecDepth 100000 in
set_option maxHeartbeats 1000000 in
theorem triples0_in (n l Bn c : Nat) (_hn : 1 ≤ n) (A : Option Addr) (J Jx : List Pl → World → Prop) (W : World) (hB : Boxed W Bn 24 (.slice A 0 c)) (h0 : J [] W) :
    CallsIn Fence.wide n Try.prog 50 #[.func (.yield l) #[] #[], .pointer (some ⟨Bn, 0, none⟩)] W fun e W' => (∃ v, e = .returned v) ∧
      ((∃ ys, ys = triL [] ∧ J ys W') ∨ (∃ pre, pre <+: triL [] ∧ Jx pre W')) := by
  refine callsIn_of_wp Try.func50 rfl trivial ?_ rfl
  simp only [Try.ntmps50, List.size_toArray, List.length_cons, List.length_nil, Nat.reduceAdd, Nat.reduceSub, Array.replicate_succ, Array.replicate_zero, List.push_toArray, List.append_toArray, List.nil_append, List.cons_append]
  have H0 := Lib.hid h0
  have hBc := (box_own hB).cell
  clear h0
  gi_wp2
  clear hBc hB
  gi_loopw [10] (fun i wr => i = .int .i64 0 ∧ J [] wr) (fun _ _ => 0)
  case atStart => exact ⟨rfl, H0.out⟩
  case round =>
    obtain ⟨rfl, hJ1⟩ := hrel
    have HJ1 := Lib.hid hJ1
    clear hJ1
    gi_wp2
    go_end0
    have e : triL [] = [] := rfl
    exact ⟨⟨_, rfl⟩, .inl ⟨_, e.symm, HJ1.out⟩⟩
/-- The iterator of triples over a slice. -/
theorem triples_seq (n Bn Bf N c : Nat) (hn : 1 ≤ n) (A : Option Addr) (L : List V3) (w : World)
    (hB : Boxed w Bn 24 (.slice A N c)) (hv : VecsAt w A N L) (hBf : Bf < w.heap.size) (hBn : Bn ≠ Bf) (hAf : ∀ b off, A = some ⟨b, off, none⟩ → b ≠ Bf) (hnp : ∀ x, ¬ Pts w Bf x) (hN48 : N ≤ 48) (hNc : N ≤ c) (hc : c ≤ 9223372036854775807) :
    SeqStopsK Fence.wide n Try.prog 50 #[.pointer (some ⟨Bn, 0, none⟩)] (fun x : Pl => #[Pl.v (cl x)]) (KeepR Bf) (fun ys => ys = triL L) (fun pre => pre <+: triL L) 230000 w := by
  rcases Nat.eq_zero_or_pos N with h0 | h0
  · subst h0
    obtain rfl : L = [] := List.eq_nil_of_length_eq_zero hv.len
    have l1 : Bn < w.heap.size := hB.lt
    exact fun l J Jx W hW _ _ _ h0 => triples0_in n l Bn c hn A J Jx W ((hW.block Bn l1).trans hB) h0
  · obtain ⟨b, off, rfl, hlt, hcell⟩ := hv.row h0
    exact triples_stops n Bn Bf b off N c hn L w hB (cell_cells (hcell 0 h0).1) hBf hBn (hAf b off rfl) hnp hcell hv.len hN48 hNc hc
theorem flatB_nil {L : List V3} (h : triL L = []) : flatB L = true := by unfold flatB; rw [h]
theorem flatB_cons {L : List V3} {x : Pl} (h : [x] <+: triL L) : flatB L = allOn L (cl x) := by
  obtain ⟨t, ht⟩ := h
  have hm : x ∈ triL L := by rw [← ht]; simp
  unfold flatB
  rw [triL_cl hm, ← ht]
  rfl

set_option maxRecDepth 100000 in
set_option maxHeartbeats 4000000 in
theorem hull_flat {w : World} {A : Option Addr} {n : Nat} {L : List V3} (c : Nat) (hv : VecsAt w A n L) (h48 : n ≤ 48) (hnc : n ≤ c) (hc : c ≤ 9223372036854775807) :
    Calls Try.prog 41 #[.slice A n c] w fun r w' => r = .returned (.bool (flatB L)) ∧ Below w.heap.size w w' := by
  refine (callsIn_wide (n := 5)).1 ?_
  refine callsIn_of_wp_marks Try.func41 rfl trivial ?_ rfl
  simp only [Try.ntmps41, List.size_toArray, List.length_cons, List.length_nil, Nat.reduceAdd, Nat.reduceSub, Array.replicate_succ, Array.replicate_zero, List.push_toArray, List.append_toArray, List.nil_append, List.cons_append]
  have HV := Lib.hid hv
  have hA : ∀ b off, A = some ⟨b, off, none⟩ → 0 < n → b < w.heap.size := fun b off e h1 => by
    obtain ⟨b', off', e', hlt, _⟩ := HV.out.row h1
    rw [e] at e'; cases e'; exact hlt
  have HA := Lib.hid hA
  clear hv hA
  gi_wp2_with fail
  refine ⟨trivial, (callsIn_wide.2 (hull_triples A n c _)).mono ?_⟩
  rintro e w2 ⟨rfl, rfl⟩
  gi_wp2
  have bL := ((Boxed.new w 24 (.slice A n c)).alloc (.cells #[.bool false] 4)).alloc (.cells #[.slice A n c] 24)
  have bR := (Boxed.new (w.alloc (.cells #[.slice A n c] 24)) 4 (.bool false)).alloc (.cells #[.slice A n c] 24)
  have bN := Boxed.new ((w.alloc (.cells #[.slice A n c] 24)).alloc (.cells #[.bool false] 4)) 24 (.slice A n c)
  simp only [World.size_alloc] at bR bN
  have hB0 : Below w.heap.size w (((w.alloc (.cells #[.slice A n c] 24)).alloc (.cells #[.bool false] 4)).alloc (.cells #[.slice A n c] 24)) := (((Below.refl _ _).alloc (Nat.le_refl _) _).alloc (by simp) _).alloc (by simp; omega) _
  have hsz : (((w.alloc (.cells #[.slice A n c] 24)).alloc (.cells #[.bool false] 4)).alloc (.cells #[.slice A n c] 24)).heap.size = w.heap.size + 1 + 1 + 1 := by simp
  have hv0 := HV.out.below hB0
  generalize (((w.alloc (.cells #[.slice A n c] 24)).alloc (.cells #[.bool false] 4)).alloc (.cells #[.slice A n c] 24)) = W0 at *
  have hBf : w.heap.size + 1 < W0.heap.size := by omega
  have hnp : ∀ x, ¬ Pts W0 (w.heap.size + 1) x := fun x ⟨off, n', c', h⟩ => by
    have := bR.cell
    rw [this] at h; cases h
  have hvA : (∀ b off, A = some ⟨b, off, none⟩ → b ≠ w.heap.size + 1) ∨ n = 0 := by
    rcases Nat.eq_zero_or_pos n with h1 | h1
    · exact .inr h1
    · exact .inl fun b off e => by have := HA.out b off e h1; omega
  have hseq : SeqStopsK Fence.wide (5 - 1) Try.prog 50 #[.pointer (some ⟨w.heap.size + 1 + 1, 0, none⟩)] (fun x : Pl => #[Pl.v (cl x)]) (KeepR (w.heap.size + 1)) (fun ys => ys = triL L) (fun pre => pre <+: triL L) 230000 W0 := by
    rcases hvA with h1 | h1
    · exact triples_seq (5 - 1) (w.heap.size + 1 + 1) (w.heap.size + 1) n c (by omega) A L W0 bN hv0 hBf (by omega) h1 hnp h48 hnc hc
    · subst h1
      obtain rfl : L = [] := List.eq_nil_of_length_eq_zero hv0.len
      exact fun l J Jx W hW _ _ _ h0 => triples0_in (5 - 1) l (w.heap.size + 1 + 1) c (by omega) A J Jx W ((hW.block _ bN.lt).trans bN) h0
  have eg : ∀ args w, (callFunc 59 args).run Try.prog w = .ok (.enter 59 args) w := enters_of Try.func59 (by kernel_rfl) rfl
  clear hvA HV HA
  refine wpIn_rangeFunc_ownH rfl (by omega) (gf := 50) (lb := #[.pointer (some ⟨w.heap.size + 1 + 1, 0, none⟩)]) rfl trivial (enters_of Try.func50 (by kernel_rfl) rfl)
    hseq KeepR.trans (KeepR.putObj (w := W0) hBf) (Below.refl _ _) (fun _ => rfl)
    (fun pre W => pre = [] ∧ Boxed W w.heap.size 24 (.slice A n c) ∧ Boxed W (w.heap.size + 1) 4 (.bool false) ∧ VecsAt W A n L ∧ Below w.heap.size w W)
    (fun cd pre W => cd = .ret ∧ ∃ x, pre = [x] ∧ Boxed W (w.heap.size + 1) 4 (.bool (allOn L (cl x))) ∧ Below w.heap.size w W)
    (fun _ _ _ _ ⟨h1, h2, h3, h4, h5⟩ hg hr => ⟨h1, boxed_own' () _ _ _ h2 hg hr, boxed_own' () _ _ _ h3 hg hr, vecs_own () _ _ _ h4 hg hr, ownFrom_below (Nat.le_refl _) (by omega) () _ _ _ h5 hg hr⟩)
    (fun _ _ _ _ _ ⟨h1, x, h2, h3, h4⟩ hg hr => ⟨h1, x, h2, boxed_own' () _ _ _ h3 hg hr, ownFrom_below (Nat.le_refl _) (by omega) () _ _ _ h4 hg hr⟩)
    ⟨rfl, bL, bR, hv0, hB0⟩
    (fun x a' W => ∃ Bx, OwnT W Bx #[.int .i64 (cl x).n.x, .int .i64 (cl x).n.y, .int .i64 (cl x).n.z, .int .i64 (cl x).b] 33 ∧ a' = { tmps := #[.slice A n c, .pointer (some ⟨w.heap.size, 0, none⟩), .pointer (some ⟨w.heap.size + 1, 0, none⟩), .pointer (some ⟨Bx, 0, none⟩), .slice A n c, .func (.func 50) #[] #[.pointer (some ⟨w.heap.size + 1 + 1, 0, none⟩)], Pl.v (cl x), undef, undef, undef, undef], defers := [] })
    (fun x a' _ X Y row hs hg hr => by obtain ⟨Bx, h2, h3⟩ := hs; exact ⟨Bx, ownT_own () X Y row h2 hg hr, h3⟩)
    ?assign ?body ?done ?stop
  case assign =>
    rintro l pre x W K ⟨h1, h2, h3, h4, h5⟩ hK
    have hz := h3.lt
    gi_wp2
    exact hK _ _ ((KeepsOthers.alloc _ _).from _) (KeepR.below ((Below.refl _ W).alloc (Nat.le_refl _) _) hz) ⟨h1, h2.alloc _, h3.alloc _, h4.below ((Below.refl _ W).alloc (Nat.le_refl _) _), h5.alloc h5.size _⟩ ⟨W.heap.size, OwnT.new, rfl⟩
  case body =>
    rintro l pre x a' W hl ⟨r, hr⟩ ⟨rfl, h2, h3, h4, h5⟩ ⟨Bx, bX, rfl⟩ hlt
    have hx := cl_i64 x
    obtain ⟨X, hX⟩ : ∃ X, cl x = X := ⟨_, rfl⟩
    rw [hX] at hx bX ⊢
    have hcon := contV c 59 #[.pointer (some ⟨Bx, 0, none⟩)] _ eg h4 (pred_flat X Bx W hx.1 hx.2.1 hx.2.2.1 bX.own)
    rw [any_on] at hcon
    have HCON := Lib.hid hcon
    have HX := Lib.hid hX
    clear hcon hX hseq h4
    obtain ⟨⟨x0, x1, x2⟩, x3⟩ := X
    have hc2 := (box_own h2).cell
    have hc3 := (box_own h3).cell
    have hc4 := (box_own h3).thaw
    gi_wp2_with fail
    refine ⟨trivial, (CallsIn.inRound l (callsIn_wide.2 HCON.out)).mono ?_⟩
    rintro e W3 ⟨rfl, hb3⟩
    clear hc2 hc3 hc4 HCON
    have q3 : Boxed W3 (w.heap.size + 1) 4 (.bool false) := (hb3.block _ h3.lt).trans h3
    have hc3 := (box_own q3).cell
    have hc4 := (box_own q3).thaw
    have hq5 := Below.hop h5 hb3
    gi_wp2
    refine ⟨((KeepsOthers.of_grownBy (below_grown hb3) (fun _ _ e => by cases e)).trans (KeepsOthers.setCell _ _ _)).from _, rfl, x, rfl, ?_, hq5.setCell (by simp) _⟩
    rw [HX.out]
    exact box_set q3 _
  case done =>
    rintro D ys W hD rfl ⟨h1, h2, h3, h4, h5⟩ hK
    have e := flatB_nil h1
    have hc3 := (box_own h3).cell
    have hc4 := (box_own h3).thaw
    gi_wp2
    have hK2 := (KeepsOthers.setCell W ⟨w.heap.size + 1, 0, none⟩ (.bool true)).same D _ hK rfl
    have hbx := (box_own (box_put (D := D) (o := .deferred none) (box_set h3 (.bool true)) (by omega))).cell
    refine ⟨by simp, .inl ⟨_, _, rfl, run_takeDeferred hK2, ?_⟩⟩
    exact ⟨.bool true, by simp [results, Try.results41, go_sem, hbx], by rw [e], (h5.setCell (p := ⟨w.heap.size + 1, 0, none⟩) (by simp) _).trans (belowK_b (w := w) (Nat.le_refl _) _ D _ _ (by omega) hK2 rfl rfl)⟩
  case stop =>
    rintro D cd pre W hD hpre ⟨rfl, x, rfl, h3, h4⟩ hK
    have e := flatB_cons hpre
    have hc3 := (box_own h3).cell
    have hc4 := (box_own h3).thaw
    gi_wp2
    have hbx := (box_own (box_put (D := D) (o := .deferred none) h3 (by omega))).cell
    refine ⟨by simp, .inl ⟨_, _, rfl, run_takeDeferred hK, ?_⟩⟩
    exact ⟨.bool (allOn L (cl x)), by simp [results, Try.results41, go_sem, hbx], by rw [e], h4.trans (belowK_b (w := w) (Nat.le_refl _) W D _ _ (by omega) hK rfl rfl)⟩

set_option maxRecDepth 100000 in
set_option maxHeartbeats 1000000 in
theorem hull_Check {w : World} {A : Option Addr} {n : Nat} {L : List V3} (c : Nat) (hv : VecsAt w A n L) (hnc : n ≤ c) (hc : c ≤ 9223372036854775807) :
    Calls Try.prog 18 #[.slice A n c] w fun r w' => r = .returned (.int .i64 (hCheck L)) ∧ Below w.heap.size w w' := by
  have eg : ∀ args w, (callFunc 39 args).run Try.prog w = .ok (.enter 39 args) w := enters_of Try.func39 (by kernel_rfl) rfl
  have hl := hv.len
  obtain ⟨r, hr⟩ : ∃ r, hCheck L = r := ⟨_, rfl⟩
  rw [hr]
  unfold hCheck at hr
  by_cases h48 : 48 < n
  · rw [if_pos (by omega)] at hr
    subst hr
    have h1 : (48 : Int) < (n : Int) := by omega
    go_enter Try.func18, Try.ntmps18
    go_wp2
    go_ret
    exact ⟨rfl, Below.refl _ _⟩
  · rw [if_neg (by omega)] at hr
    have h1 : ¬ (48 : Int) < (n : Int) := by omega
    have hcon := fun W (h : Below w.heap.size w W) => contV c 39 #[] _ eg (hv.below h) (pred_check W)
    cases ha : L.all vIn with
    | false =>
      rw [if_neg (by rw [ha]; simp)] at hr
      subst hr
      have e : (L.any fun v => !vIn v) = true := by rw [← List.not_all_eq_any_not, ha]; rfl
      rw [e] at hcon
      have HCON := Lib.hid hcon
      clear hcon hv e ha
      go_enter Try.func18, Try.ntmps18
      go_wp2_with fail
      refine (HCON.out _ (Below.refl _ _)).mono ?_
      rintro e w1 ⟨rfl, hb1⟩
      clear HCON
      go_wp2
      go_ret
      exact ⟨rfl, hb1⟩
    | true =>
      rw [if_pos ha] at hr
      have e : (L.any fun v => !vIn v) = false := by rw [← List.not_all_eq_any_not, ha]; rfl
      rw [e] at hcon
      have hfl := fun W (h : Below w.heap.size w W) => hull_flat c (hv.below h) (by omega) hnc hc
      have HCON := Lib.hid hcon
      have HFL := Lib.hid hfl
      clear hcon hv e ha hfl
      cases hf : flatB L <;> rw [hf] at hr HFL <;> simp only [Bool.false_eq_true, if_false, if_true] at hr <;> subst hr
      · clear hf
        go_enter Try.func18, Try.ntmps18
        go_wp2_with fail
        refine (HCON.out _ (Below.refl _ _)).mono ?_
        rintro e w1 ⟨rfl, hb1⟩
        go_wp2_with fail
        refine (HFL.out _ hb1).mono ?_
        rintro e w2 ⟨rfl, hb2⟩
        have hw := Below.hop hb1 hb2
        clear HCON HFL hb1 hb2
        go_wp2
        go_ret
        exact ⟨rfl, hw⟩
      · clear hf
        go_enter Try.func18, Try.ntmps18
        go_wp2_with fail
        refine (HCON.out _ (Below.refl _ _)).mono ?_
        rintro e w1 ⟨rfl, hb1⟩
        go_wp2_with fail
        refine (HFL.out _ hb1).mono ?_
        rintro e w2 ⟨rfl, hb2⟩
        have hw := Below.hop hb1 hb2
        clear HCON HFL hb1 hb2
        go_wp2
        go_ret
        exact ⟨rfl, hw⟩
end Go.Proofs.Ytccnlnkgoaelpaa
