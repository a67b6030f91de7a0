/- Matrix: Solve. -/
import Derived.Test.YtflgngjocgiojaaGreatMatK
namespace Go.Proofs.YtflgngjocgiojaaGreat
open Go.RowKit
attribute [local go_sem] Oper.semAt_some

def rankS (M : List (List Int)) (b : List Int) : Nat := (leadsB ⟨sysL M b M.length, 1, 0⟩ (cols M)).length
/-- The error that Solve returns. -/
def solveE (M : List (List Int)) (b : List Int) : Int :=
 if matCheck M ≠ 0 then matCheck M
 else if cols M ≠ M.length ∨ b.length ≠ M.length then 4
 else if anyF (fun k => largeI (iAt b k)) b.length = true then 3
 else if rankS M b < M.length then 8
 else 0
/-- What the walk of Solve asks of the elimination. -/
def FineS (M : List (List Int)) (b : List Int) (x : Nat → QI) : Prop :=
 matCheck M = 0 → cols M = M.length → b.length = M.length → anyF (fun k => largeI (iAt b k)) b.length = false →
  FineL (sysL M b M.length) (cols M) (M.length + 1) ∧ (¬ rankS M b < M.length → BackQ (runB ⟨sysL M b M.length, 1, 0⟩ (cols M)).L x M.length M.length)
theorem wide_sys1 {M : List (List Int)} {b : List Int} {n k : Nat} (h : ∀ i, i < n → (rAt M i).length = k) (hb : b.length = n) : Wide (sysL M b n) (k + 1) := fun i hi => by
 rw [sysL_len] at hi
 rw [rAt_sysL M b hi]
 unfold sysR
 rw [if_pos (by omega), List.length_append, h i hi]
 rfl
theorem RatX.ki {X : Nat → Prop} {W u : World} {s1 s2 : Bool} {A1 A2 : Option Addr} {n1 c1 n2 c2 : Nat} {p q : Int} (h : RatX X W s1 A1 n1 c1 s2 A2 n2 c2 p q) (hk : KI W u) : RatX X u s1 A1 n1 c1 s2 A2 n2 c2 p q :=
 ⟨fun b off e => ⟨Nat.lt_of_lt_of_le (h.1 b off e).1 hk.size, (h.1 b off e).2⟩, fun b off e => ⟨Nat.lt_of_lt_of_le (h.2.1 b off e).1 hk.size, (h.2.1 b off e).2⟩, h.2.2.1.ki hk, h.2.2.2.ki hk⟩
theorem ownT_put {W : World} {b : Nat} {cs : Array Value} {T : TypeId} {l : Nat} {o o' : Obj} (h : OwnT W b cs T) (ho : W.heap[l]? = some o) (hc : o.isCells = false) : OwnT (W.putObj l o') b cs T := by
 have h1 : W.heap[b]? = some (.cells cs T (0, 0)) := h
 have hne : b ≠ l := fun e => by
  subst e; rw [ho] at h1; cases h1; simp [Obj.isCells] at hc
 exact (World.putObj_heap_other (by omega)).trans h
theorem RatsO.put_ {W : World} {b : Nat} {x : Nat → QI} {lo n l : Nat} {o o' : Obj} (h : RatsO W b x lo n) (ho : W.heap[l]? = some o) (hc : o.isCells = false) : RatsO (W.putObj l o') b x lo n := by
 obtain ⟨cs, hq, hz, hcc⟩ := h
 refine ⟨cs, ownT_put hq ho hc, hz, fun i h1 h2 => ?_⟩
 obtain ⟨s1, A1, n1, c1, s2, A2, n2, c2, e1, e2, e3, e4, hr⟩ := hcc i h1 h2
 refine ⟨s1, A1, n1, c1, s2, A2, n2, c2, e1, e2, e3, e4, hr.ki ⟨by simp [World.putObj], fun b cs T r h3 _ => ?_⟩⟩
 by_cases e : b = l
 ·subst e; rw [ho] at h3; cases h3; simp [Obj.isCells] at hc
 ·exact (World.putObj_heap_other (by omega)).trans h3
set_option maxRecDepth 100000 in
set_option maxHeartbeats 4000000 in
theorem matrix_Solve {w : World} {A Ab : Option Addr} {n nb : Nat} {M : List (List Int)} {b : List Int} {x : Nat → QI} (c cb : Nat) (h : RowsAt w A n M) (hbI : IntsAt w Ab nb b) (hf : FineS M b x) :
  Calls Tryz.prog 27 #[.slice A n c, .slice Ab nb cb] w fun e w' => (∃ v, e = .returned (.tuple #[v, .int .i64 (solveE M b)]) ∧ ((solveE M b ≠ 0 ∧ v = .slice none 0 0) ∨ (solveE M b = 0 ∧ ∃ bk, v = .slice (some ⟨bk, 0, none⟩) n n ∧ w.heap.size ≤ bk ∧ RatsO w' bk x 0 n))) ∧ Below w.heap.size w w' := by
 have H := Lib.hid h
 have HBI := Lib.hid hbI
 have hl := h.len
 have hlb := hbI.len
 have q := matrix_check c h
 obtain ⟨e, he⟩ : ∃ e, matCheck M = e := ⟨_, rfl⟩
 rw [he] at q
 obtain ⟨se, hse⟩ : ∃ r, solveE M b = r := ⟨_, rfl⟩
 rw [hse]
 have HK := Lib.hid (And.intro he hse)
 have Q := Lib.hid q
 have HF := Lib.hid hf
 have HL := Lib.hid (And.intro hl hlb)
 clear h hbI q he hse hf hl hlb
 refine (callsIn_wide (n := 5)).1 ?_
 refine callsIn_of_wp_marks Tryz.func27 rfl trivial ?_ rfl
 simp only [Tryz.ntmps27, List.size_toArray, List.length_cons, List.length_nil, Nat.reduceAdd, Nat.reduceSub, Array.replicate_succ, Array.replicate_zero, List.push_toArray, List.append_toArray, List.nil_append, List.cons_append]
 gi_wp2_with fail
 refine ⟨trivial, (callsIn_wide.2 Q.out).mono ?_⟩
 rintro e2 w1 ⟨rfl, hb1⟩
 have hz1 := hb1.size
 have HB1 := Lib.hid hb1
 by_cases he0 : e = 0
 ·subst he0
  have hok := matCheck_ok HK.out.1
  rw [HL.out.1] at hok
  have HO := Lib.hid hok
  have hn48 := hok.1
  have hc8 := hok.2.1
  have qc := matrix_columns c (H.out.below hb1)
  obtain ⟨m, hm⟩ : ∃ m, cols M = m := ⟨_, rfl⟩
  rw [hm] at qc hc8
  have HM := Lib.hid hm
  have QC := Lib.hid qc
  clear hok qc hm hb1
  gi_wp2_with fail
  refine ⟨trivial, (callsIn_wide.2 QC.out).mono ?_⟩
  rintro e3 w2 ⟨rfl, hb2⟩
  have HB2 := Lib.hid (HB1.out.trans (hb2.mono hz1))
  have hz2 := hb2.size
  clear hb2
  by_cases hmn : m = n
  ·subst hmn
   by_cases hbn : nb = m
   ·subst hbn
    have QL := Lib.hid (contains_large (p := fun k => largeI (iAt b k)) cb (HBI.out.below HB2.out).row (fun _ _ => rfl) (by omega))
    obtain ⟨o, ho⟩ : ∃ o, anyF (fun k => largeI (iAt b k)) nb = o := ⟨_, rfl⟩
    rw [ho] at QL
    have HOo := Lib.hid ho
    clear ho
    gi_wp2_with fail
    refine ⟨trivial, (callsIn_wide.2 QL.out).mono ?_⟩
    rintro e4 w3 ⟨rfl, hb3⟩
    have HB3 := Lib.hid (HB2.out.trans (hb3.mono (Nat.le_trans hz1 hz2)))
    have hz3 := hb3.size
    clear hb3 QL QC Q
    cases o
    ·have hfs := HF.out HK.out.1 (by rw [HM.out, HL.out.1]) (by rw [HL.out.1, HL.out.2]) (by rw [HL.out.2]; exact HOo.out)
     rw [HL.out.1, HM.out] at hfs
     have hse : solveE M b = if rankS M b < M.length then 8 else 0 := by
      unfold solveE
      rw [if_neg (by rw [HK.out.1]; simp), if_neg (by rw [HM.out, HL.out.1, HL.out.2]; simp), if_neg (by rw [HL.out.2, HOo.out]; simp)]
     rw [HK.out.2, HL.out.1] at hse
     obtain ⟨r, hr⟩ : ∃ r, rankS M b = r := ⟨_, rfl⟩
     rw [hr] at hse hfs
     have hr2 : (leadsB ⟨sysL M b nb, 1, 0⟩ nb).length = r := by
      rw [← hr]; unfold rankS; rw [HL.out.1, HM.out]
     have HS := Lib.hid (And.intro hfs (And.intro hse hr2))
     clear hfs hse hr hr2
     have hz03 : w.heap.size ≤ w3.heap.size := HB3.out.size
     gi_wp2_with fail
     have qo := matrix_of c cb (H.out.below HB3.out) (HBI.out.below HB3.out) (by omega) (fun i hi => by rw [HO.out.2.2.1 i hi, HM.out]; omega) (by omega)
     refine ⟨trivial, (callsIn_wide.2 qo).mono ?_⟩
     clear qo
     rintro e3 w4 ⟨⟨S, rfl, hS⟩, hb4⟩
     rw [HM.out] at hS
     have hB4 := HB3.out.trans (hb4.mono hz03)
     have hz4 := hB4.size
     have hS4 := hS.below ((Below.refl w4.heap.size w4).alloc (Nat.le_refl _) (.cells #[.int .i64 0] 3))
     have hB5 := hB4.alloc hz4 (.cells #[.int .i64 0] 3)
     have bN := Boxed.new w4 3 (.int .i64 0)
     have hz34 := hb4.size
     have HS4 := Lib.hid hS4
     clear hS hS4 hb4 hB4
     gi_wp2_with fail
     obtain ⟨Bn, hBn⟩ : ∃ b, w4.heap.size = b := ⟨_, rfl⟩
     have hw3n : w3.heap.size ≤ Bn := by omega
     rw [hBn] at bN ⊢
     generalize (w4.alloc (.cells #[.int .i64 0] 3)) = w5 at *
     refine ⟨trivial, (callsIn_wide.2 (matrix_leads S w5)).mono ?_⟩
     rintro e4 w6 ⟨rfl, hbx, hb6⟩
     have HS6 := Lib.hid (HS4.out.below hb6)
     have bN6 := boxB bN hb6
     have hz5 := hB5.size
     have hB6 := hB5.trans (hb6.mono hz5)
     have hz6 := hb6.size
     have hBn5 : Bn < w5.heap.size := bN.lt
     clear hb6 bN HS4
     obtain ⟨g, hg1, hg2, hg3, hseq⟩ := leads_seq (5 - 1) (by omega) (wd := nb + 1) hbx HS6.out (by rw [sysL_len]; omega) (wide_sys1 (fun i hi => by rw [HO.out.2.2.1 i hi, HM.out]) HL.out.2) (by omega) (by omega) (fun h => by
      have h1 := congrArg List.length h
      rw [sysL_len] at h1
      exact h1) HS.out.1.1
     gi_wp2
     refine wpIn_range_itW (by omega) (gf := 97) (lb := #[.pointer (some ⟨w5.heap.size, 0, none⟩)]) rfl (enters_of Tryz.func97 (by kernel_rfl) rfl)
      hseq hg2 KI.trans (KI.putObj (w := w6)) (fun _ => rfl) sysAt_own
      (fun pre W => Boxed W Bn 3 (.int .i64 (pre.length : Nat)) ∧ Below w.heap.size w W)
      (fun _ _ _ _ ⟨h1, h2⟩ hg hr => ⟨boxed_own' () _ _ _ h1 hg hr, ownFrom_below (Nat.le_refl _) (by omega) () _ _ _ h2 hg hr⟩)
      (fun s X Y ⟨h1, h2⟩ hI => ⟨hI.boxed h1 (hg3 _ _ (box_own bN6)) (by omega), hI.below_ h2 (by omega) (by omega)⟩)
      ⟨bN6, hB6⟩
      (fun x => { tmps := #[.slice A nb c, .slice Ab nb cb, undef, undef, .slice none 0 0, .int .i64 0, .int .i64 (nb : Nat), .int .i64 0, .pointer (some ⟨S, 0, none⟩), .pointer (some ⟨Bn, 0, none⟩), .slice A nb c, .int .i64 (nb : Nat), .slice A nb c, .int .i64 0, .bool false, .int .i64 0, .bool false, undef, .bool false, .slice A nb c, .int .i64 (nb : Nat), .int .i64 (nb : Nat), .bool false, .bool false, .slice Ab nb cb, .int .i64 (nb : Nat), .int .i64 (nb : Nat), .bool false, .bool false, .bool false, .slice Ab nb cb, .bool false, .slice A nb c, .slice Ab nb cb, .pointer (some ⟨S, 0, none⟩), .pointer (some ⟨S, 0, none⟩), .func (.func 97) #[] #[.pointer (some ⟨w5.heap.size, 0, none⟩)], .int .i64 (x.1 : Nat), .int .i64 (x.2 : Nat), undef, undef, undef, undef, undef, undef, undef, undef, undef], defers := [] })
      ?assign ?body ?done
     case assign =>
      intro l x W K hK
      rw [foldl_two]
      (try simp only [List.setIfInBounds_toArray, List.set_cons_zero, List.set_cons_succ])
      refine wpIn_skip ?_
      exact hK
     case body =>
      rintro l pre x W hl ⟨h1, h2⟩ hlen
      have c1 := (box_own h1).cell 0
      have f1 := h1.frozen
      have hz := h1.lt
      simp only [List.getElem?_toArray, List.getElem?_cons_zero] at c1
      have hl2 : (pre.length : Int) < 1000 := by omega
      gi_wp2
      exact ⟨(KeepsOthers.setCell _ _ _).from _, KI.box h1 _, box_set h1 _, h2.setCell (by simp; omega) _⟩
     case done =>
      rintro D xs W hD rfl ⟨h1, h2⟩ hFin hK
      rw [HS.out.2.2] at h1
      have c1 := (box_own h1).cell 0
      simp only [List.getElem?_toArray, List.getElem?_cons_zero] at c1
      have HFin := Lib.hid hFin
      have hDl := (Array.getElem?_eq_some_iff.1 hK).1
      clear hFin
      by_cases hrn : r < nb
      ·have hri : (r : Int) < (nb : Int) := by omega
       obtain rfl : se = 8 := by rw [HS.out.2.1, if_pos hrn]
       gi_wp2
       refine ⟨by simp, .inl ⟨_, _, rfl, run_takeDeferred hK, ?_⟩⟩
       refine ⟨_, by simp [results, Tryz.results27, go_sem]; exact rfl, ?_⟩
       exact ⟨⟨_, rfl, .inl ⟨by omega, rfl⟩⟩, h2.trans (belowK_b (w := w) (Nat.le_refl _) _ D _ _ (by omega) hK rfl rfl)⟩
      ·have hri : ¬ (r : Int) < (nb : Int) := by omega
       obtain rfl : se = 0 := by rw [HS.out.2.1, if_neg hrn]
       have hlen : (runB ⟨sysL M b nb, 1, 0⟩ nb).L.length = nb := by rw [runB_len]; exact sysL_len _ _ _
       have hB2 := h2.size
       gi_wp2_with fail
       have qb := matrix_back (w := W) (n := nb) (last := nb) (wd := nb + 1) (x := x) HFin.out (runB_wide (wide_sys1 (fun i hi => by rw [HO.out.2.2.1 i hi, HM.out]) HL.out.2) nb) (by rw [hlen]; exact Nat.le_refl _) (by omega) (by omega) (by rw [hlen]; omega) (by omega) (HS.out.1.2 hrn)
       refine ⟨trivial, (callsIn_wide.2 qb).mono ?_⟩
       clear qb
       rintro e7 w8 ⟨⟨bk, rfl, hbk, hxs⟩, hb8⟩
       have hK8 := (hb8.block D hDl).trans hK
       have h8 := h2.trans (hb8.mono hB2)
       have HXS := Lib.hid hxs
       clear hxs hb8 c1
       gi_wp2
       refine ⟨by simp, .inl ⟨_, _, rfl, run_takeDeferred hK8, ?_⟩⟩
       refine ⟨_, by simp [results, Tryz.results27, go_sem]; exact rfl, ?_⟩
       refine ⟨⟨_, rfl, by first | exact ⟨bk, rfl, by omega, HXS.out.put_ hK8 rfl⟩ | exact .inr ⟨rfl, bk, rfl, by omega, HXS.out.put_ hK8 rfl⟩⟩, h8.trans (belowK_b (w := w) (Nat.le_refl _) _ D _ _ (by omega) hK8 rfl rfl)⟩
    ·obtain rfl : se = 3 := by
      rw [← HK.out.2]; unfold solveE
      rw [if_neg (by rw [HK.out.1]; simp), if_neg (by rw [HM.out, HL.out.1, HL.out.2]; simp), if_pos (by rw [HL.out.2]; exact HOo.out)]
     gi_wp2
     refine ⟨_, by simp [results, Tryz.results27, go_sem]; exact rfl, ?_⟩
     exact ⟨⟨_, rfl, .inl ⟨by omega, rfl⟩⟩, HB3.out⟩
   ·have hbn2 : ((nb : Int) != (m : Int)) = true := bne_iff_ne.2 (by omega)
    obtain rfl : se = 4 := by
     rw [← HK.out.2]; unfold solveE
     rw [if_neg (by rw [HK.out.1]; simp), if_pos (.inr (by rw [HL.out.1, HL.out.2]; exact hbn))]
    clear hbn
    gi_wp2
    refine ⟨_, by simp [results, Tryz.results27, go_sem]; exact rfl, ?_⟩
    exact ⟨⟨_, rfl, .inl ⟨by omega, rfl⟩⟩, HB2.out⟩
  ·have hmn2 : ((m : Int) != (n : Int)) = true := bne_iff_ne.2 (by omega)
   obtain rfl : se = 4 := by
    rw [← HK.out.2]; unfold solveE
    rw [if_neg (by rw [HK.out.1]; simp), if_pos (.inl (by rw [HM.out, HL.out.1]; exact hmn))]
   clear hmn
   gi_wp2
   refine ⟨_, by simp [results, Tryz.results27, go_sem]; exact rfl, ?_⟩
   exact ⟨⟨_, rfl, .inl ⟨by omega, rfl⟩⟩, HB2.out⟩
 ·obtain rfl : se = e := by rw [← HK.out.2]; unfold solveE; rw [if_pos (by rw [HK.out.1]; exact he0), HK.out.1]
  have hne : (se != 0) = true := bne_iff_ne.2 he0
  have HE := Lib.hid he0
  clear he0 hb1
  gi_wp2
  refine ⟨_, by simp [results, Tryz.results27, go_sem]; exact rfl, ?_⟩
  exact ⟨⟨_, rfl, .inl ⟨HE.out, rfl⟩⟩, HB1.out⟩
end Go.Proofs.YtflgngjocgiojaaGreat
