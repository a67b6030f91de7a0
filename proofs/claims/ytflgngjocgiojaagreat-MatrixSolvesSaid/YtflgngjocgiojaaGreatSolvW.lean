/- The law MatrixSolves returns true. -/
import Derived.Test.YtflgngjocgiojaaGreatLawM1
namespace Go.Proofs.YtflgngjocgiojaaGreat
open Go.RowKit

theorem ints_news {w : World} {g r : Nat} {b : List Int} (h : IntsAt w (some ⟨g, 0, none⟩) r b) : ∀ j u, (encI b)[j]? = some u → w.cell? ((⟨g, 0, none⟩ : Addr).add j) = some u := fun j u hu => by
 have hj : j < b.length := by
  rcases Nat.lt_or_ge j b.length with h1 | h1
  ·exact h1
  ·rw [List.getElem?_eq_none (by rw [encI_len]; exact h1)] at hu; cases hu
 rw [encI_at hj] at hu
 cases hu
 obtain ⟨b', off', e, _, hc⟩ := h.row (by rw [← h.len]; omega)
 cases e
 rw [add_off]
 exact hc j (by rw [← h.len]; exact hj)
theorem SliceI.keeps {w u : World} {A : Option Addr} {n : Nat} {l : List Int} (h : SliceI w A n l) (hk : Keeps [] w u) : SliceI u A n l :=
 ⟨h.len, h.max, fun h1 => by
  obtain ⟨b, off, e, hlt, hc⟩ := h.row h1
  exact ⟨b, off, e, Nat.lt_of_lt_of_le hlt hk.1, fun i hi => (World.cell?_of_block (w := w) (a := ⟨b, off + i, none⟩) (hk.2 b hlt (by simp))).trans (hc i hi)⟩⟩
theorem ref3_SameR {w : World} {v1 v2 : Value} {p q : Int} (h1 : RatAt w v1 p q) (h2 : RatAt w v2 p q) : Calls Tryz.prog 29 #[v1, v2] w fun r w' => r = .returned (.bool true) ∧ Below w.heap.size w w' := by
 have x := ref3_Same h1 h2
 rw [decide_eq_true rfl, decide_eq_true rfl] at x
 exact x
set_option maxRecDepth 100000 in
set_option maxHeartbeats 8000000 in
theorem law05_Solves_walk {A A0 A1 : Option Addr} {n cap n0 c0 n1 c1 : Nat} {l l0 l1 : List Int} {x y : Int} (hx : 0 ≤ x) (hx2 : x ≤ 255) (w : World) (hl : SliceI w A n l) (hl0 : SliceI w A0 n0 l0) (hl1 : SliceI w A1 n1 l1) :
  Calls Tryz.prog 6 #[.agg #[.slice A n cap, .int .u8 x, .int .u8 y], .agg #[.slice A0 n0 c0, .slice A1 n1 c1]] w fun e w' => e = .returned (.bool true) ∧ Below w.heap.size w w' := by
 obtain ⟨i0, hi, hz0, hz1, hz2⟩ := info_parts infoI
 have HLI := Lib.hid hl
 have HL0 := Lib.hid hl0
 have HL1 := Lib.hid hl1
 obtain ⟨r, hr⟩ : ∃ r : Nat, 1 + x % 8 = r := ⟨(1 + x % 8).toNat, by omega⟩
 have hr1 : 1 ≤ r := by omega
 have hr8 : r ≤ 8 := by omega
 have hri : (r : Int) ≤ 8 := by omega
 have hri1 : (1 : Int) ≤ (r : Int) := by omega
 have HRR := Lib.hid hr
 clear hl hl0 hl1 hr
 have hW := ((Below.refl w.heap.size w).alloc (Nat.le_refl _) (.cells #[.slice A n cap, .int .u8 x, .int .u8 y] 24)).alloc (by simp) (.cells #[.slice A0 n0 c0, .slice A1 n1 c1] 61)
 have oC : Own ((w.alloc (.cells #[.slice A n cap, .int .u8 x, .int .u8 y] 24)).alloc (.cells #[.slice A0 n0 c0, .slice A1 n1 c1] 61)) w.heap.size #[.slice A n cap, .int .u8 x, .int .u8 y] := (by repeat' (first | ((refine Own.new ?_); (focus (first | rfl | omega | (simp; done) | (simp; omega)))) | assumption | refine Own.alloc ?_ _ | refine Own.drew ?_ | (refine Own.far ?_ ?_ _; rotate_left; (focus (first | rfl | omega | (simp; done) | (simp; omega))))))
 have oL : Own ((w.alloc (.cells #[.slice A n cap, .int .u8 x, .int .u8 y] 24)).alloc (.cells #[.slice A0 n0 c0, .slice A1 n1 c1] 61)) (w.heap.size + 1) #[.slice A0 n0 c0, .slice A1 n1 c1] := (by repeat' (first | ((refine Own.new ?_); (focus (first | rfl | omega | (simp; done) | (simp; omega)))) | assumption | refine Own.alloc ?_ _ | refine Own.drew ?_ | (refine Own.far ?_ ?_ _; rotate_left; (focus (first | rfl | omega | (simp; done) | (simp; omega))))))
 go_enter Tryz.func6, Tryz.ntmps6
 go_wp2_with fail
 generalize ((w.alloc (.cells #[.slice A n cap, .int .u8 x, .int .u8 y] 24)).alloc (.cells #[.slice A0 n0 c0, .slice A1 n1 c1] 61)) = W0 at *
 refine Calls.mono (law05_sanity _) ?_
 rintro e w1 ⟨rfl, hb⟩
 have hw := hW.trans (hb.mono hW.size)
 have pC := oC.below hb
 have pL := oL.below hb
 have pCc := pC.cell
 have pCf := pC.thaw
 have pCz := pC.lt
 clear hb hW oC oL
 go_wp2_with fail
 have qC : Own (w1.setCell ⟨w.heap.size, 2, none⟩ (.int .u8 x)) w.heap.size #[.slice A n cap, .int .u8 x, .int .u8 x] := (pC.set 2 (.int .u8 x)).eq rfl
 have qL : Own (w1.setCell ⟨w.heap.size, 2, none⟩ (.int .u8 x)) (w.heap.size + 1) #[.slice A0 n0 c0, .slice A1 n1 c1] := pL.far (p := ⟨w.heap.size, 2, none⟩) (by simp) _
 have hw2 := hw.setCell (p := ⟨w.heap.size, 2, none⟩) (Nat.le_refl _) (.int .u8 x)
 clear pC pL pCc pCf pCz hw
 generalize (w1.setCell ⟨w.heap.size, 2, none⟩ (.int .u8 x)) = w2 at *
 refine Calls.mono (law05_made A n cap l x x r r hx hx2 hx hx2 HRR.out HRR.out _ (HLI.out.below hw2)) ?_
 rintro e w3 ⟨⟨g, gc, M, rfl, hgc, hgm, hRM, hMM, _⟩, hb⟩
 have hw := hw2.trans (hb.mono hw2.size)
 have oL := qL.below hb
 have oLc := oL.cell
 have HR := Lib.hid hRM
 have HM := Lib.hid hMM
 have HRI := Lib.hid (And.intro (HL0.out.below hw) (HL1.out.below hw))
 have hzw := hw.size
 clear hb hw2 qC qL hRM hMM HLI HL0 HL1 HRR hx hx2
 go_wp2
 refine region_gen (T := []) [.make 3 [] (rightB [] r), .make 7 [] (rightB [] r)] 8 0 40 (fun _ _ => True) (fun _ _ _ _ _ => trivial) trivial (by kernel_rfl) (by kernel_rfl) (by rfl) ?_
 unfold genWalk
 apply Exists.intro
 apply And.intro
 ·apply Piece.mk
  ·intro f v hv hr hne
   simp only [List.take_succ_cons, List.take_zero, List.drop_zero, Nat.reduceSub]
   have d1 := fun y => (oL.later (v := v) (T := []) (by simp) y).cell
   repeat (go_big_quiet_step (fail))
   refine wpQuiet_nil ?_
   exact rfl
  ·intro f; kernel_rfl
  ·intro f f' hf; kernel_rfl
 simp only [List.take_succ_cons, List.take_zero, List.drop_succ_cons, List.drop_zero, Nat.reduceAdd, oneOp]
 refine ⟨fun f => ⟨rfl, fun u hu _ => ?_⟩, ?_⟩
 ·refine make_call (f := 13) (args := #[.slice A0 n0 c0, .int .i64 r]) (by (try simp only [Act.put, List.setIfInBounds_toArray, List.set_cons_zero, List.set_cons_succ]); (try simp only [newB_val, numB_val, ownB_val, rightB_val, ratCV_val]); go_simp) ?_
  have q := law05_right A0 n0 c0 l0 r hr1 hr8 u (SliceI.keeps HRI.out.1 hu)
  refine q.mono ?_
  rintro e wx ⟨⟨g9, c9, b9, rfl, q1, q2, q3, q4, q5, q6⟩, hbx⟩
  exact ⟨(g9, c9), rfl, q5, q6, hbx, by simp, q1, q2, b9, q3, q4⟩
 unfold genWalk
 apply Exists.intro
 apply And.intro
 ·apply Piece.mk
  ·intro f v hv hr hne
   simp only [List.take_succ_cons, List.take_zero, List.drop_succ_cons, List.drop_zero, Nat.reduceSub]
   (try simp only [Act.put, List.setIfInBounds_toArray, List.set_cons_zero, List.set_cons_succ])
   (try simp only [rightB_val])
   have d1 := fun y => (oL.later (v := v) (T := []) (by simp) y).cell
   repeat (go_big_quiet_step (fail))
   refine wpQuiet_nil ?_
   exact rfl
  ·intro f; kernel_rfl
  ·intro f f' hf; simp
 simp only [List.take_succ_cons, List.take_zero, List.drop_succ_cons, List.drop_zero, Nat.reduceAdd, oneOp]
 refine ⟨fun f => ⟨rfl, fun u hu _ => ?_⟩, ?_⟩
 ·refine make_call (f := 13) (args := #[.slice A1 n1 c1, .int .i64 r]) (by (try simp only [Act.put, List.setIfInBounds_toArray, List.set_cons_zero, List.set_cons_succ]); (try simp only [newB_val, numB_val, ownB_val, rightB_val, ratCV_val]); go_simp) ?_
  have q := law05_right A1 n1 c1 l1 r hr1 hr8 u (SliceI.keeps HRI.out.2 hu)
  refine q.mono ?_
  rintro e wx ⟨⟨g9, c9, b9, rfl, q1, q2, q3, q4, q5, q6⟩, hbx⟩
  exact ⟨(g9, c9), rfl, q5, q6, hbx, by simp, q1, q2, b9, q3, q4⟩
 unfold genWalk
 apply Exists.intro
 apply And.intro
 ·apply Piece.mk
  ·intro f v hv hr hne
   simp only [List.take_zero, List.drop_succ_cons, List.drop_zero, Nat.reduceSub]
   (try simp only [Act.put, List.setIfInBounds_toArray, List.set_cons_zero, List.set_cons_succ])
   (try simp only [rightB_val])
   repeat (go_big_quiet_step (fail))
   refine wpQuiet_nil ?_
   exact rfl
  ·intro f; kernel_rfl
  ·intro f f' hf; simp
 intro f u' hup hph hmade hdist
 obtain ⟨⟨-, hB1, hB2, b, hbI, hbb⟩, loN, hiN⟩ := hmade 3 (by omega) rfl
 obtain ⟨⟨-, hD1, hD2, d, hdI, hdb⟩, loM, hiM⟩ := hmade 7 (by omega) rfl
 replace hbI : IntsAt u' (some ⟨(f 3).1, 0, none⟩) r b := hbI
 replace hdI : IntsAt u' (some ⟨(f 7).1, 0, none⟩) r d := hdI
 clear hmade hdist hph
 simp only
 (try simp only [Act.put, List.setIfInBounds_toArray, List.set_cons_zero, List.set_cons_succ])
 (try simp only [newB_val, numB_val, ownB_val, rightB_val, ratCV_val])
 generalize (f 3).1 = gb at *
 generalize (f 3).2 = cb at *
 generalize (f 7).1 = gd at *
 generalize (f 7).2 = cd at *
 clear f
 have hwU : Below w.heap.size w u' := Upd.below hw hup (by simp)
 have HR2 := Lib.hid (HR.out.below (Upd.below (Below.refl _ _) hup (by simp)))
 have hkT := Upd.keeps (Keeps.refl _ _) hup
 refine effc_mem (by rfl) (fun K hK => ?_)
 go_simp
 refine hK _ _ hkT (fun u3 hu3 => ?_)
 clear hK K
 refine effc_mem (by rfl) (fun K hK => ?_)
 go_simp
 refine hK _ _ (hkT.later hu3) (fun u4 hu4 => ?_)
 clear hK K
 have hb34 := hu3.trans (hu4.mono hu3.size)
 have hw4 := hwU.trans (hb34.mono hwU.size)
 have HR := Lib.hid (HR2.out.below hb34)
 have HB := Lib.hid (And.intro (hbI.below hb34) hbb)
 have HD := Lib.hid (And.intro (hdI.below hb34) hdb)
 have hgb : gb < u4.heap.size := Nat.lt_of_lt_of_le hiN hb34.size
 have hgd : gd < u4.heap.size := Nat.lt_of_lt_of_le hiM hb34.size
 have hgw : w3.heap.size ≤ gb := loN
 clear hup hkT hu3 hu4 hb34 HR2 hwU hbI hdI hbb hdb loN hiN loM hiM oL oLc HRI hw
 refine effc_nil ?_
 (try simp only [Act.put, List.setIfInBounds_toArray, List.set_cons_zero, List.set_cons_succ])
 have hz4 := hw4.size
 have hrow0 : (u4.alloc (.cells #[] 3)).ownsRow u4.heap.size 3 1 (.slice (some ⟨u4.heap.size, 0, none⟩) 0 0) 0 [] := by
  have q := World.ownsRow_lit (base := u4.heap.size) (e := 3) (size := 1) u4 #[] 0 (by simp) (by unfold maxLen; omega) (by simp)
  simpa using q
 have HROW := Lib.hid hrow0
 have hal : Below u4.heap.size u4 (u4.alloc (.cells #[] 3)) := (Below.refl _ _).alloc (Nat.le_refl _) _
 have HBa := Lib.hid (HB.out.1.below hal)
 clear hrow0
 go_wp2_with (at_builtin; refine wpList_append_lies _ rfl _ _ _ (by rfl) u4.heap.size 3 i0 (.int .i64 0) 1 8 Tryz.underlying22 hi hz0 hz1 hz2 rfl (by omega) _ 0 [] (by rfl) HROW.out ⟨gb, 0, none⟩ r cb (encI b) (by rfl) (by rw [encI_len, HB.out.1.len, Nat.mul_one]) ?c1 (encI_one b) (by omega) ?c3 ?c4 ?c5 (u4.heap.size + 1) (by simp) ?_)
 case c1 => exact ints_news HBa.out
 case c3 => unfold maxLen; omega
 case c4 => omega
 case c5 => simp
 intro g3 c3 w5 ho5 hg5 hat5 hlt5
 have hob : ∀ r, (Value.slice (some ⟨u4.heap.size, 0, none⟩) 0 0).ownBlock = some r → u4.heap.size ≤ r := fun r h => ownBlock_ge HROW.out h
 have ho5' : w5.ownsRow u4.heap.size 3 1 (.slice (some ⟨g3, 0, none⟩) r c3) r (encI b) := by simpa using ho5
 obtain ⟨hg3, hg3z, hc3, hc3m, cur0, hown, hcur⟩ := own_of_row ho5' (by omega)
 have hB5 : Below u4.heap.size u4 w5 := Below.grown hal hg5 (by simp) (fun r h => hob r h)
 have hw5 := hw4.trans (hB5.mono hz4)
 have HB5 := Lib.hid (And.intro (HB.out.1.below hB5) HB.out.2)
 have HD5 := Lib.hid (And.intro (HD.out.1.below hB5) HD.out.2)
 have hcur0 : ∀ i, i < r → cur0[i]? = some (.int .i64 (if i < 0 then iAt b i + iAt d i else iAt b i)) := fun i hi => by rw [hcur i hi, encI_at (by rw [HB5.out.1.len]; exact hi), if_neg (Nat.not_lt_zero i)]
 have HC0 := Lib.hid hcur0
 have hgbn : gb < w5.heap.size := by have := hB5.size; omega
 have hgdn : gd < w5.heap.size := by have := hB5.size; omega
 have hgb3 : gb ≠ g3 := by omega
 have hgd3 : gd ≠ g3 := by omega
 have hwg3 : w.heap.size ≤ g3 := by omega
 clear ho5 ho5' hg5 hat5 hlt5 hob hcur hcur0 HROW HBa hal hw4 hz4 hgb hgd hgw
 go_wp2
 have hU0 := Upd.refl [g3] w5
 go_loopw [47] (fun i wr => ∃ (k : Nat) (cur : Array Value), k ≤ r ∧ i = .int .i64 k ∧ Upd [g3] w5 wr ∧ Own wr g3 cur ∧ ∀ i, i < r → cur[i]? = some (.int .i64 (if i < k then iAt b i + iAt d i else iAt b i))) (fun i _ => r - (intOf i).toNat)
 case atStart => exact ⟨0, cur0, by omega, rfl, hU0, hown, HC0.out⟩
 case round =>
  clear hU0 hown HC0
  obtain ⟨k, cur, hk, rfl, hU, ho, hcur⟩ := hrel
  have HC := Lib.hid hcur
  clear hcur
  by_cases hkr : k < r
  ·have hkri : (k : Int) < (r : Int) := by omega
   obtain ⟨p1, hp1⟩ : ∃ p, iAt b k = p := ⟨_, rfl⟩
   obtain ⟨p2, hp2⟩ : ∃ p, iAt d k = p := ⟨_, rfl⟩
   have bb1 := HB5.out.2 k
   have bb2 := HD5.out.2 k
   rw [hp1] at bb1
   rw [hp2] at bb2
   obtain ⟨s, hs⟩ : ∃ s, p1 + p2 = s := ⟨_, rfl⟩
   have hsb : -40 ≤ s ∧ s ≤ 40 := by omega
   have c1 := (ho.cell k).trans (HC.out k hkr)
   rw [if_neg (Nat.lt_irrefl k), hp1] at c1
   obtain ⟨bq, oq, eq, hbq, hc2⟩ := HD5.out.1.row (by omega)
   cases eq
   have c2 := (World.cell?_of_block (w := w5) (a := ⟨gd, 0 + k, none⟩) (hU.block gd hgdn (by simp; exact hgd3))).trans (hc2 k hkr)
   rw [hp2, Nat.zero_add] at c2
   have hgz := ho.lt
   have hgdz : gd < wr.heap.size := Nat.lt_of_lt_of_le hgdn hU.size
   have HP := Lib.hid (And.intro hp1 (And.intro hp2 hs))
   clear hc2 hbq hp1 hp2
   go_wp2
   refine region_sink 10 [] (by kernel_rfl) (by kernel_rfl) (by rfl) ?_
   apply Exists.intro
   refine ⟨fun v hv hne => ?_, fun u hu => ?_⟩
   ·simp only [List.take_succ_cons, List.take_zero]
    have f1 := fun y : Later [] wr v => (y.cell g3 k hgz (by simp)).trans c1
    have f2 := fun y : Later [] wr v => (y.cell gd k hgdz (by simp)).trans c2
    repeat (go_big_quiet_step (fail))
    refine wpQuiet_nil ?_
    exact rfl
   simp only [List.drop_succ_cons, List.drop_zero]
   have p3 := ho.below hu
   have p3c := (p3.cell k).trans (HC.out k hkr)
   have p3f := p3.thaw
   have p3z := p3.lt
   have o4 := p3.set k (.int .i64 s)
   have hU4 : Upd [g3] w5 (u.setCell ⟨g3, k, none⟩ (.int .i64 s)) := (hU.hop hu).set (by simp) _
   have hC4 : ∀ i, i < r → (cur.setIfInBounds k (.int .i64 s))[i]? = some (.int .i64 (if i < k + 1 then iAt b i + iAt d i else iAt b i)) := fun i hi => by
    have hsz : k < cur.size := by
     rcases Nat.lt_or_ge k cur.size with h | h
     ·exact h
     ·have := HC.out k hkr
      rw [Array.getElem?_eq_none h] at this
      cases this
    by_cases e : i = k
    ·subst e
     rw [Array.getElem?_setIfInBounds_self_of_lt hsz, if_pos (Nat.lt_succ_self i), HP.out.1, HP.out.2.1, HP.out.2.2]
    ·rw [Array.getElem?_setIfInBounds_ne (fun h => e h.symm), HC.out i hi]
     by_cases e2 : i < k
     ·rw [if_pos e2, if_pos (by omega)]
     ·rw [if_neg e2, if_neg (by omega)]
   have HC4 := Lib.hid hC4
   clear hC4 hu hU ho p3 c1 c2 HC hs
   refine sink_all (by kernel_rfl) (fun K hK => ?_)
   go_simp
   refine hK _ _ ?_
   clear hK K p3c p3f p3z
   refine sink_nil ?_
   (try simp only [Act.put])
   go_wp2
   go_roundw
   case rel => exact ⟨k + 1, _, by omega, by go_num, hU4, o4, HC4.out⟩
   case measure => simp [intOf]; omega
  ·obtain rfl : k = r := by omega
   obtain ⟨s, hs⟩ : ∃ s, (List.range k).map (fun i => iAt b i + iAt d i) = s := ⟨_, rfl⟩
   have hsat : ∀ i, i < k → iAt s i = iAt b i + iAt d i := fun i hi => by rw [← hs]; exact iAt_map _ hi
   have hsl : s.length = k := by rw [← hs]; simp
   have hsb : BdI 40 s := fun i => by
    by_cases e : i < k
    ·rw [hsat i e]; have := HB5.out.2 i; have := HD5.out.2 i; omega
    ·have : iAt s i = 0 := by unfold iAt; rw [List.getD_eq_getElem?_getD, List.getElem?_eq_none (by omega)]; rfl
     rw [this]; omega
   have hsI : IntsAt wr (some ⟨g3, 0, none⟩) k s := ints_of_cells ho hsl (hsb.i64 (by omega)) (fun i hi => by rw [HC.out i hi, if_pos hi, hsat i hi])
   have hwr : Below w.heap.size w wr := Upd.below hw5 hU (by simp; omega)
   have HS := Lib.hid (And.intro hsI (And.intro hsl (And.intro hsb hsat)))
   have hb4r : Below u4.heap.size u4 wr := Upd.below hB5 hU (by simp; omega)
   have HR6 := Lib.hid (HR.out.below hb4r)
   have HB6 := Lib.hid (And.intro (HB.out.1.below hb4r) HB.out.2)
   have HD6 := Lib.hid (And.intro (HD.out.1.below hb4r) HD.out.2)
   have hchk := HM.out.check hr1 hr8 hr8
   have hcm := HM.out.cols hr1
   have hlen := HM.out.len
   obtain ⟨xb, hfb, hsolb⟩ := solve_mean (M := M) (b := b) hchk (by rw [hcm, hlen]) (by rw [HB6.out.1.len, hlen]) (bd_large HB6.out.2 (by omega))
   obtain ⟨xd, hfd, hsold⟩ := solve_mean (M := M) (b := d) hchk (by rw [hcm, hlen]) (by rw [HD6.out.1.len, hlen]) (bd_large HD6.out.2 (by omega))
   obtain ⟨xs, hfs, hsols⟩ := solve_mean (M := M) (b := s) hchk (by rw [hcm, hlen]) (by rw [hsl, hlen]) (bd_large hsb (by omega))
   have E1 := solveE_val hchk (by rw [hcm, hlen]) (by rw [HB6.out.1.len, hlen]) (bd_large HB6.out.2 (by omega))
   have E2 := solveE_val hchk (by rw [hcm, hlen]) (by rw [HD6.out.1.len, hlen]) (bd_large HD6.out.2 (by omega))
   have E3 := solveE_val hchk (by rw [hcm, hlen]) (by rw [hsl, hlen]) (bd_large hsb (by omega))
   obtain ⟨rk, hrk⟩ : ∃ q, rankZ M = q := ⟨_, rfl⟩
   have hrkle : rk ≤ k := by have := (rankZ_le hchk).2; omega
   have Q0 := fun W (h : RowsAt W (some ⟨g, 0, none⟩) k M) => matrix_Rank (w := W) gc h (fun h => rank_fine h)
   have Q1 := fun W (h : RowsAt W (some ⟨g, 0, none⟩) k M) (h2 : IntsAt W (some ⟨gb, 0, none⟩) k b) => matrix_Solve (w := W) gc cb h h2 hfb
   have Q2 := fun W (h : RowsAt W (some ⟨g, 0, none⟩) k M) (h2 : IntsAt W (some ⟨gd, 0, none⟩) k d) => matrix_Solve (w := W) gc cd h h2 hfd
   have Q3 := fun W (h : RowsAt W (some ⟨g, 0, none⟩) k M) (h2 : IntsAt W (some ⟨g3, 0, none⟩) k s) => matrix_Solve (w := W) gc c3 h h2 hfs
   rw [hchk, hrk] at Q0
   rw [E1, hrk, hlen] at Q1
   rw [E2, hrk, hlen] at Q2
   rw [E3, hrk, hlen] at Q3
   have HK := Lib.hid (And.intro hchk (And.intro hcm (And.intro hlen (And.intro hrk (And.intro hsolb (And.intro hsold hsols))))))
   have HQ0 := Lib.hid Q0
   have HQ1 := Lib.hid Q1
   have HQ2 := Lib.hid Q2
   have HQ3 := Lib.hid Q3
   have hw := hwr
   clear Q0 Q1 Q2 Q3 hfb hfd hfs hsolb hsold hsols hchk hcm hlen E1 E2 E3 hrk hsat hsl hsb hsI hs hwr hU ho HC hb4r HR HB HD HB5 HD5 hB5 hkr hgbn hgdn hgb3 hgd3 hg3 hg3z hc3 hc3m
   go_wp2_with fail
   refine Calls.mono (HQ0.out _ HR6.out) ?_
   rintro e v1 ⟨rfl, hb⟩
   have hw1 := hw.trans (hb.mono hw.size)
   have HR7 := Lib.hid (HR6.out.below hb)
   have HB7 := Lib.hid (HB6.out.1.below hb)
   have HD7 := Lib.hid (HD6.out.1.below hb)
   have HS7 := Lib.hid (HS.out.1.below hb)
   clear hb hw HR6 HB6 HD6 HQ0
   by_cases hrr : rk < k
   ·have hrri : (rk : Int) < (k : Int) := by omega
    have q1 := HQ1.out
    have q2 := HQ2.out
    have q3 := HQ3.out
    simp only [if_pos hrr] at q1 q2 q3
    have HP1 := Lib.hid q1
    have HP2 := Lib.hid q2
    have HP3 := Lib.hid q3
    clear q1 q2 q3 HQ1 HQ2 HQ3
    go_wp2_with fail
    refine Calls.mono (HP1.out _ HR7.out HB7.out) ?_
    rintro e v2 ⟨⟨v, rfl, hv⟩, hb⟩
    obtain rfl : v = .slice none 0 0 := by
     rcases hv with ⟨_, h⟩ | ⟨h, _⟩
     ·exact h
     ·cases h
    have hw2 := hw1.trans (hb.mono hw1.size)
    have HR8 := Lib.hid (HR7.out.below hb)
    have HD8 := Lib.hid (HD7.out.below hb)
    have HS8 := Lib.hid (HS7.out.below hb)
    clear hv hb hw1 HR7 HB7 HD7 HS7
    go_wp2_with fail
    refine Calls.mono (HP2.out _ HR8.out HD8.out) ?_
    rintro e v3 ⟨⟨v, rfl, hv⟩, hb⟩
    obtain rfl : v = .slice none 0 0 := by
     rcases hv with ⟨_, h⟩ | ⟨h, _⟩
     ·exact h
     ·cases h
    have hw3 := hw2.trans (hb.mono hw2.size)
    have HR9 := Lib.hid (HR8.out.below hb)
    have HS9 := Lib.hid (HS8.out.below hb)
    clear hv hb hw2 HR8 HD8 HS8
    go_wp2_with fail
    refine Calls.mono (HP3.out _ HR9.out HS9.out) ?_
    rintro e v4 ⟨⟨v, rfl, hv⟩, hb⟩
    obtain rfl : v = .slice none 0 0 := by
     rcases hv with ⟨_, h⟩ | ⟨h, _⟩
     ·exact h
     ·cases h
    have hw4 := hw3.trans (hb.mono hw3.size)
    clear hv hb hw3
    go_wp2
    go_ret
    exact ⟨rfl, hw4⟩
   ·obtain rfl : rk = k := by omega
    have q1 := HQ1.out
    have q2 := HQ2.out
    have q3 := HQ3.out
    simp only [if_neg hrr] at q1 q2 q3
    have HP1 := Lib.hid q1
    have HP2 := Lib.hid q2
    have HP3 := Lib.hid q3
    obtain ⟨Nb, Db, hsb⟩ := HK.out.2.2.2.2.1 (by rw [HK.out.2.2.2.1, HK.out.2.2.1])
    obtain ⟨Nd, Dd, hsd⟩ := HK.out.2.2.2.2.2.1 (by rw [HK.out.2.2.2.1, HK.out.2.2.1])
    obtain ⟨Ns, Ds, hss⟩ := HK.out.2.2.2.2.2.2 (by rw [HK.out.2.2.2.1, HK.out.2.2.1])
    have hT1 := sol_times HK.out.1 hsb
    have hT2 := sol_times HK.out.1 hsd
    have hT3 := sol_times HK.out.1 hss
    have hadd := sol_add HK.out.1 (by rw [HK.out.2.1, HK.out.2.2.1]) (by rw [HK.out.2.2.2.1, HK.out.2.2.1]) hsb hsd hss (fun i hi => HS.out.2.2.2 i (by rw [← HK.out.2.2.1]; exact hi))
    have hback := fun i (hi : i < M.length) => sol_back hsb hi
    rw [HK.out.2.1] at hT1 hT2 hT3 hadd hback
    rw [HK.out.2.2.1] at hback
    have HT := Lib.hid (And.intro hT1 (And.intro hT2.val (And.intro hT3.val (And.intro hadd hback))))
    clear q1 q2 q3 HQ1 HQ2 HQ3 hsb hsd hss hT1 hT2 hT3 hadd hback hrr
    go_wp2_with fail
    refine Calls.mono (HP1.out _ HR7.out HB7.out) ?_
    rintro e v2 ⟨⟨v, rfl, hv⟩, hb⟩
    obtain ⟨ka, rfl, hxa⟩ : ∃ ka, v = .slice (some ⟨ka, 0, none⟩) rk rk ∧ RatsA v2 (some ⟨ka, 0, none⟩) rk xb := by
     rcases hv with ⟨h, _⟩ | ⟨_, bk, h1, _, h2⟩
     ·exact absurd rfl h
     ·exact ⟨bk, h1, h2.rats⟩
    have hw2 := hw1.trans (hb.mono hw1.size)
    have HR8 := Lib.hid (HR7.out.below hb)
    have HD8 := Lib.hid (HD7.out.below hb)
    have HS8 := Lib.hid (HS7.out.below hb)
    have HB8 := Lib.hid (HB7.out.below hb)
    have HXA := Lib.hid hxa
    clear hv hb hw1 HR7 HB7 HD7 HS7 hxa
    go_wp2_with fail
    refine Calls.mono (HP2.out _ HR8.out HD8.out) ?_
    rintro e v3 ⟨⟨v, rfl, hv⟩, hb⟩
    obtain ⟨kb, rfl, hxa⟩ : ∃ ka, v = .slice (some ⟨ka, 0, none⟩) rk rk ∧ RatsA v3 (some ⟨ka, 0, none⟩) rk xd := by
     rcases hv with ⟨h, _⟩ | ⟨_, bk, h1, _, h2⟩
     ·exact absurd rfl h
     ·exact ⟨bk, h1, h2.rats⟩
    have hw3 := hw2.trans (hb.mono hw2.size)
    have HR9 := Lib.hid (HR8.out.below hb)
    have HS9 := Lib.hid (HS8.out.below hb)
    have HB9 := Lib.hid (HB8.out.below hb)
    have HXA9 := Lib.hid (HXA.out.below hb)
    have HXB := Lib.hid hxa
    clear hv hb hw2 HR8 HD8 HS8 HB8 HXA hxa
    go_wp2_with fail
    refine Calls.mono (HP3.out _ HR9.out HS9.out) ?_
    rintro e v4 ⟨⟨v, rfl, hv⟩, hb⟩
    obtain ⟨kc, rfl, hxa⟩ : ∃ ka, v = .slice (some ⟨ka, 0, none⟩) rk rk ∧ RatsA v4 (some ⟨ka, 0, none⟩) rk xs := by
     rcases hv with ⟨h, _⟩ | ⟨_, bk, h1, _, h2⟩
     ·exact absurd rfl h
     ·exact ⟨bk, h1, h2.rats⟩
    have hw4 := hw3.trans (hb.mono hw3.size)
    have HR4 := Lib.hid (HR9.out.below hb)
    have HB4 := Lib.hid (HB9.out.below hb)
    have XA := Lib.hid (HXA9.out.below hb)
    have XB := Lib.hid (HXB.out.below hb)
    have XC := Lib.hid hxa
    clear hv hb hw3 HR9 HS9 HB9 HXA9 HXB hxa HP1 HP2 HP3
    go_wp2
    have hk := Below.refl v4.heap.size v4
    go_loopw [131] (fun i wr => ∃ k : Nat, k ≤ rk ∧ i = .int .i64 k ∧ Below v4.heap.size v4 wr) (fun i _ => rk - (intOf i).toNat)
    case atStart => exact ⟨0, by omega, rfl, hk⟩
    case round =>
     clear hk
     obtain ⟨k, hk, rfl, hwb⟩ := hrel
     have hzb := hwb.size
     by_cases hlt : k < rk
     ·have hlt2 : (k : Int) < (rk : Int) := by omega
      obtain ⟨a1, hpa⟩ : ∃ q, xb k = q := ⟨_, rfl⟩
      obtain ⟨pa, qa⟩ := a1
      obtain ⟨a2, hpb⟩ : ∃ q, xd k = q := ⟨_, rfl⟩
      obtain ⟨pb, qb⟩ := a2
      obtain ⟨a3, hpc⟩ : ∃ q, xs k = q := ⟨_, rfl⟩
      obtain ⟨zs, ys⟩ := a3
      obtain ⟨hb1, s1, E1, m1, d1, s2, E2, m2, d2, x1, x2, x3, x4, hr1'⟩ := (XA.out.below hwb).at_ hlt
      obtain ⟨hb2, s3, E3, m3, d3, s4, E4, m4, d4, x5, x6, x7, x8, hr2'⟩ := (XB.out.below hwb).at_ hlt
      rw [hpa] at hr1'
      rw [hpb] at hr2'
      have V1 := HT.out.1.val k hlt
      have V2 := HT.out.2.1 k hlt
      have V3 := HT.out.2.2.1 k hlt
      have V4 := HT.out.2.2.2.1 k hlt
      rw [hpa] at V1
      rw [hpb] at V2
      rw [hpc] at V3
      rw [hpa, hpb, hpc] at V4
      have HRA := Lib.hid hr1'
      have HRB := Lib.hid hr2'
      have HV := Lib.hid (And.intro V1 (And.intro V2 (And.intro V3 V4)))
      have HFq := Lib.hid (And.intro V3.2.1.fits (And.intro V3.2.2.fits (good_ne V3.1)))
      have HPC := Lib.hid hpc
      clear hpa hpb hpc V1 V2 V3 V4 hr1' hr2'
      simp only [Nat.zero_add] at x1 x2 x3 x4 x5 x6 x7 x8
      go_wp2
      refine region_gen (T := []) [.make 8 [] (ratB [] wr.heap.size zs ys), .need 9 [8], .need 11 [], .make 12 [] (ownB [] #[.bool false, .slice none 0 0, .bool false, .slice none 0 0] (fun p => .pointer (some ⟨p, 0, none⟩)))] 13 0 40 (fun _ _ => True) (fun _ _ _ _ _ => trivial) trivial (by kernel_rfl) (by kernel_rfl) (by rfl) ?_
      unfold genWalk
      apply Exists.intro
      apply And.intro
      ·apply Piece.mk
       ·intro f v hv hr hne
        simp only [List.take_succ_cons, List.take_zero, List.drop_zero, Nat.reduceSub]
        have f1 := later_cell (T := []) (w := wr) (v := v) hb1 (by simp) x1
        have f2 := later_cell (T := []) (w := wr) (v := v) hb1 (by simp) x2
        have f3 := later_cell (T := []) (w := wr) (v := v) hb1 (by simp) x3
        have f4 := later_cell (T := []) (w := wr) (v := v) hb1 (by simp) x4
        have f5 := later_cell (T := []) (w := wr) (v := v) hb2 (by simp) x5
        have f6 := later_cell (T := []) (w := wr) (v := v) hb2 (by simp) x6
        have f7 := later_cell (T := []) (w := wr) (v := v) hb2 (by simp) x7
        have f8 := later_cell (T := []) (w := wr) (v := v) hb2 (by simp) x8
        repeat (go_big_quiet_step (fail))
        refine wpQuiet_nil ?_
        exact rfl
       ·intro f; kernel_rfl
       ·intro f f' hf; kernel_rfl
      simp only [List.take_succ_cons, List.take_zero, List.drop_succ_cons, List.drop_zero, Nat.reduceAdd, oneOp]
      refine ⟨fun f => ⟨rfl, fun u hu _ => ?_⟩, ?_⟩
      ·refine make_call (f := 28) (args := #[.agg #[.bool s1, .slice E1 m1 d1, .bool s2, .slice E2 m2 d2], .agg #[.bool s3, .slice E3 m3 d3, .bool s4, .slice E4 m4 d4]]) (by (try simp only [Act.put, List.setIfInBounds_toArray, List.set_cons_zero, List.set_cons_succ]); (try simp only [newB_val, numB_val, ownB_val, valB_val, ratB_val, ratVB_val, numV, ratV]); go_simp) ?_
       have q := ratio_Add (w := u) (a := pa) (b := qa) (c := pb) (d := qb) (HRA.out.keeps hu) (HRB.out.keeps hu) HV.out.1.1 HV.out.2.1.1 (HV.out.1.2.1.mul HV.out.2.1.2.2) (HV.out.2.1.2.1.mul HV.out.1.2.2) (sm_sum HV.out.1.2.1 HV.out.2.1.2.2 HV.out.2.1.2.1 HV.out.1.2.2) (HV.out.1.2.2.mul HV.out.2.1.2.2)
       have e9 : ofN (pa * qb + pb * qa) (qa * qb) = zs ∧ ofD (pa * qb + pb * qa) (qa * qb) = ys := ⟨congrArg Prod.fst HV.out.2.2.2, congrArg Prod.snd HV.out.2.2.2⟩
       rw [e9.1, e9.2] at q
       refine q.mono ?_
       rintro e wx ⟨⟨b1, b2, rfl, q1, q2, q3, q4, q5, q6⟩, hbx⟩
       exact ⟨(b1, b2), rfl, q3, q4, hbx, by simp, by simp, q1, q2, Nat.le_trans hu.1 q5, q6⟩
      unfold genWalk
      apply Exists.intro
      apply And.intro
      ·apply Piece.mk
       ·intro f v hv hr hne
        simp only [List.take_zero, List.drop_succ_cons, List.drop_zero, Nat.reduceSub]
        (try simp only [Act.put, List.setIfInBounds_toArray, List.set_cons_zero, List.set_cons_succ])
        (try simp only [ratB_val, ratV])
        repeat (go_big_quiet_step (fail))
        refine wpQuiet_nil ?_
        exact rfl
       ·intro f; kernel_rfl
       ·intro f f' hf; simp
      unfold genWalk
      apply Exists.intro
      apply And.intro
      ·apply Piece.mk
       ·intro f v hv hr hne
        simp only [List.take_succ_cons, List.take_zero, List.drop_succ_cons, List.drop_zero, Nat.reduceSub]
        (try simp only [Act.put, List.setIfInBounds_toArray, List.set_cons_zero, List.set_cons_succ])
        (try simp only [newB_val, numB_val, ownB_val, valB_val, ratB_val, ratVB_val, numV, ratV])
        repeat (go_big_quiet_step (fail))
        refine wpQuiet_nil ?_
        exact rfl
       ·intro f; kernel_rfl
       ·intro f f' hf; first | (simp; done) | (simp [hf 8 (by simp)])
      unfold genWalk
      apply Exists.intro
      apply And.intro
      ·apply Piece.mk
       ·intro f v hv hr hne
        simp only [List.take_succ_cons, List.take_zero, List.drop_succ_cons, List.drop_zero, Nat.reduceSub]
        (try simp only [Act.put, List.setIfInBounds_toArray, List.set_cons_zero, List.set_cons_succ])
        (try simp only [newB_val, numB_val, ownB_val, valB_val, ratB_val, ratVB_val, numV, ratV])
        repeat (go_big_quiet_step (fail))
        refine wpQuiet_nil ?_
        exact rfl
       ·intro f; kernel_rfl
       ·intro f f' hf; simp
      simp only [List.take_succ_cons, List.take_zero, List.drop_succ_cons, List.drop_zero, Nat.reduceAdd, oneOp]
      refine ⟨fun f => ⟨rfl, fun u hu _ => ?_⟩, ?_⟩
      ·refine make_own (e := 37) (by (try simp only [Act.put, List.setIfInBounds_toArray, List.set_cons_zero, List.set_cons_succ]); (try simp only [newB_val, numB_val, ownB_val, valB_val, ratB_val, ratVB_val, numV, ratV]); go_simp) (by simp)
      unfold genWalk
      apply Exists.intro
      apply And.intro
      ·apply Piece.mk
       ·intro f v hv hr hne
        simp only [List.take_zero, List.drop_succ_cons, List.drop_zero, Nat.reduceSub]
        (try simp only [Act.put, List.setIfInBounds_toArray, List.set_cons_zero, List.set_cons_succ])
        (try simp only [ownB_val])
        repeat (go_big_quiet_step (fail))
        refine wpQuiet_nil ?_
        exact rfl
       ·intro f; kernel_rfl
       ·intro f f' hf; simp
      intro f u' hup hph hmade hdist
      obtain ⟨⟨-, -, oN, oM, loM, hiM⟩, loN, hiN⟩ := hmade 8 (by omega) rfl
      obtain ⟨⟨-, qO⟩, loO, hiO⟩ := hmade 12 (by omega) rfl
      have e5 := hdist 8 12 (by omega) (by omega) rfl rfl (by omega)
      replace oN : NumO u' (f 8).1 zs := oN
      replace oM : NumO u' (f 8).2 ys := oM
      replace hiM : (f 8).2 < u'.heap.size := hiM
      replace loM : wr.heap.size ≤ (f 8).2 := loM
      replace qO : Own u' (f 12).1 #[.bool false, .slice none 0 0, .bool false, .slice none 0 0] := qO
      clear hmade hdist hph
      simp only
      (try simp only [Act.put, List.setIfInBounds_toArray, List.set_cons_zero, List.set_cons_succ])
      (try simp only [newB_val, numB_val, ownB_val, valB_val, ratB_val, ratVB_val, numV, ratV])
      generalize (f 8).1 = b1 at *
      generalize (f 8).2 = b2 at *
      generalize (f 12).1 = bq at *
      clear f
      have e6 : b2 ≠ bq := digs_ne (oM HFq.out.2.1 HFq.out.2.2) qO HFq.out.2.2
      have f1 := HFq.out.1
      have f2 := HFq.out.2.1
      obtain ⟨Aq1, nq1, cq1, hs1⟩ := slN_form zs b1
      obtain ⟨Aq2, nq2, cq2, hs2⟩ := slN_form ys b2
      rw [hs1, hs2]
      have HSL := Lib.hid (And.intro hs1 hs2)
      clear hs1 hs2
      have hwu : Below wr.heap.size wr u' := Upd.below (Below.refl _ _) hup (by simp)
      have hkT := Upd.keeps (Keeps.refl _ _) hup
      have qOc := qO.cell
      have qOf := qO.thaw
      clear hup
      refine effc_mem (by rfl) (fun K hK => ?_)
      go_simp
      refine hK _ _ (((((hkT.new (p := ⟨bq, 0, none⟩) loO (.bool (sgnN zs))).new (p := ⟨bq, 1, none⟩) loO (.slice Aq1 nq1 cq1)).new (p := ⟨bq, 2, none⟩) loO (.bool (sgnN ys))).new (p := ⟨bq, 3, none⟩) loO (.slice Aq2 nq2 cq2))) (fun u3 hu3 => ?_)
      clear hK K
      have hs3 := hu3.size
      simp [World.setCell] at hs3
      have hwu1 := (((((hwu.setCell (p := ⟨bq, 0, none⟩) loO (.bool (sgnN zs))).setCell (p := ⟨bq, 1, none⟩) loO (.slice Aq1 nq1 cq1)).setCell (p := ⟨bq, 2, none⟩) loO (.bool (sgnN ys))).setCell (p := ⟨bq, 3, none⟩) loO (.slice Aq2 nq2 cq2))).trans (hu3.mono (by simp [World.setCell]; exact hwu.size))
      have r12 := ((((qO.set 0 (.bool (sgnN zs))).set 1 (.slice Aq1 nq1 cq1)).set 2 (.bool (sgnN ys))).set 3 (.slice Aq2 nq2 cq2)).below hu3
      have oN1 := NumO.below (((((oN.far (p := ⟨bq, 0, none⟩) e5 (.bool (sgnN zs))).far (p := ⟨bq, 1, none⟩) e5 (.slice Aq1 nq1 cq1)).far (p := ⟨bq, 2, none⟩) e5 (.bool (sgnN ys))).far (p := ⟨bq, 3, none⟩) e5 (.slice Aq2 nq2 cq2))) hu3
      have oM1 := NumO.below (((((oM.far (p := ⟨bq, 0, none⟩) e6 (.bool (sgnN zs))).far (p := ⟨bq, 1, none⟩) e6 (.slice Aq1 nq1 cq1)).far (p := ⟨bq, 2, none⟩) e6 (.bool (sgnN ys))).far (p := ⟨bq, 3, none⟩) e6 (.slice Aq2 nq2 cq2))) hu3
      have hk1 := (((((hkT.new (p := ⟨bq, 0, none⟩) loO (.bool (sgnN zs))).new (p := ⟨bq, 1, none⟩) loO (.slice Aq1 nq1 cq1)).new (p := ⟨bq, 2, none⟩) loO (.bool (sgnN ys))).new (p := ⟨bq, 3, none⟩) loO (.slice Aq2 nq2 cq2))).later hu3
      clear qO qOc qOf oN oM hkT hu3 hwu
      refine effc_mem (by rfl) (fun K hK => ?_)
      go_simp
      refine hK _ _ hk1 (fun uq hu4 => ?_)
      clear hK K
      have r13 := r12.below hu4
      have oN2 := oN1.below hu4
      have oM2 := oM1.below hu4
      have HBq := hwu1.trans (hu4.mono hwu1.size)
      have hs4 := hu4.size
      have BXq : Hid (Own uq bq #[.bool (sgnN zs), .slice Aq1 nq1 cq1, .bool (sgnN ys), .slice Aq2 nq2 cq2] ∧ RatX (fun x => x ≠ bq) uq (sgnN zs) Aq1 nq1 cq1 (sgnN ys) Aq2 nq2 cq2 zs ys) := Lib.hid ⟨r13, ratX_of oN2 oM2 f1 f2 (by omega) (by omega) e5 e6 HSL.out.1 HSL.out.2⟩
      have LBq := loO
      clear hwu1 hk1 hu4 loM r12 r13 oN1 oM1 oN2 oM2 e5 e6 hs3 hs4 HSL loN hiN loO hiO hiM f1 f2
      refine effc_nil ?_
      (try simp only [Act.put, List.setIfInBounds_toArray, List.set_cons_zero, List.set_cons_succ])
      clear x1 x2 x3 x4 x5 x6 x7 x8 hb1 hb2
      have hwq := hwb.trans (HBq.mono hzb)
      have hzq := hwq.size
      obtain ⟨hb3, s5, E5, m5, d5, s6, E6, m6, d6, x1, x2, x3, x4, hr3'⟩ := (XC.out.below hwq).at_ hlt
      rw [HPC.out] at hr3'
      have HRC := Lib.hid hr3'
      simp only [Nat.zero_add] at x1 x2 x3 x4
      have obq := BXq.out.1
      have obqc := obq.cell
      clear hr3' HBq
      go_wp2
      refine region_late 11 [] (by kernel_rfl) (by kernel_rfl) (by rfl) ?_
      apply Exists.intro
      refine ⟨fun v hv hne => ?_, fun u hu => ?_⟩
      ·simp only [List.take_succ_cons, List.take_zero]
       have dq := fun y => (obq.later (v := v) (T := []) (by simp) y).cell
       have f1 := later_cell (T := []) (w := uq) (v := v) hb3 (by simp) x1
       have f2 := later_cell (T := []) (w := uq) (v := v) hb3 (by simp) x2
       have f3 := later_cell (T := []) (w := uq) (v := v) hb3 (by simp) x3
       have f4 := later_cell (T := []) (w := uq) (v := v) hb3 (by simp) x4
       have K1 := fun x : Later [] uq v => RatAt.keeps BXq.out.2.at_ x.h
       have K2 := fun x : Later [] uq v => RatAt.keeps HRC.out x.h
       repeat (go_big_quiet_step ((go_at_call 29; with_reducible exact lateB (ref3_SameR (K1 _) (K2 _)))))
       refine wpQuiet_nil ?_
       exact rfl
      simp only [List.drop_succ_cons, List.drop_zero]
      refine late_nil ?_
      (try simp only [Act.put, List.setIfInBounds_toArray, List.set_cons_zero, List.set_cons_succ])
      have hwn := hwq.trans (hu.mono hzq)
      clear hu x1 x2 x3 x4 hb3 obq obqc
      go_wp2
      go_roundw
      case rel => exact ⟨k + 1, by omega, by go_num, hwn⟩
      case measure => simp [intOf]; omega
     ·obtain rfl : k = rk := by omega
      have hwq := hw4.trans (hwb.mono hw4.size)
      have HR5 := Lib.hid (HR4.out.below hwb)
      have HB5 := Lib.hid (HB4.out.below hwb)
      have XA5 := Lib.hid (XA.out.below hwb)
      clear hwb hzb hw4 HR4 HB4 XA XB XC
      go_wp2_with fail
      refine Calls.mono (matrix_Times_ok gc k HR5.out XA5.out HK.out.2.1 HK.out.1 HT.out.1) ?_
      rintro e v5 ⟨⟨kt, rfl, _, hty⟩, hb⟩
      have hw5 := hwq.trans (hb.mono hwq.size)
      have HTY := Lib.hid (hty.rats.congr (y := fun i => (iAt b i, 1)) (fun i hi => (HT.out.2.2.2.2 i hi).symm))
      have HB6 := Lib.hid (HB5.out.below hb)
      clear hty hb hwq HR5 XA5 HB5
      go_wp2
      have hk2 := Below.refl v5.heap.size v5
      go_loopw [174] (fun i wr => ∃ j : Nat, j ≤ k ∧ i = .int .i64 j ∧ Below v5.heap.size v5 wr) (fun i _ => k - (intOf i).toNat)
      case atStart => exact ⟨0, by omega, rfl, hk2⟩
      case round =>
       clear hk2
       obtain ⟨j, hj, rfl, hwb⟩ := hrel
       have hzb := hwb.size
       by_cases hlt : j < k
       ·have hlt2 : (j : Int) < (k : Int) := by omega
        obtain ⟨hb1, s1, E1, m1, d1, s2, E2, m2, d2, x1, x2, x3, x4, hr1'⟩ := (HTY.out.below hwb).at_ hlt
        obtain ⟨b', off', e', hb2, hc2⟩ := (HB6.out.below hwb).row (by omega)
        cases e'
        have x5 := hc2 j hlt
        have hz5 := HB6.out.ok j (by rw [HB6.out.len]; exact hlt)
        simp only at hr1'
        obtain ⟨z, hzz⟩ : ∃ z, iAt b j = z := ⟨_, rfl⟩
        rw [hzz] at hr1' x5 hz5
        have HZ := Lib.hid (And.intro hz5.1 (And.intro hz5.2 (show fits z = true from fits_small (by omega))))
        have HRA := Lib.hid hr1'
        simp only [Nat.zero_add] at x1 x2 x3 x4 x5
        clear hc2 hz5 hzz hr1'
        go_wp2
        refine region_gen (T := []) [.make 8 [] (ratCV [] wr.heap.size z 1), .need 9 [8]] 11 0 40 (fun _ _ => True) (fun _ _ _ _ _ => trivial) trivial (by kernel_rfl) (by kernel_rfl) (by rfl) ?_
        unfold genWalk
        apply Exists.intro
        apply And.intro
        ·apply Piece.mk
         ·intro f v hv hr hne
          simp only [List.take_succ_cons, List.take_zero, List.drop_zero, Nat.reduceSub]
          have f1 := later_cell (T := []) (w := wr) (v := v) hb1 (by simp) x1
          have f2 := later_cell (T := []) (w := wr) (v := v) hb1 (by simp) x2
          have f3 := later_cell (T := []) (w := wr) (v := v) hb1 (by simp) x3
          have f4 := later_cell (T := []) (w := wr) (v := v) hb1 (by simp) x4
          have f5 := later_cell (T := []) (w := wr) (v := v) hb2 (by simp) x5
          repeat (go_big_quiet_step (fail))
          refine wpQuiet_nil ?_
          exact rfl
         ·intro f; kernel_rfl
         ·intro f f' hf; kernel_rfl
        simp only [List.take_succ_cons, List.take_zero, List.drop_succ_cons, List.drop_zero, Nat.reduceAdd, oneOp]
        refine ⟨fun f => ⟨rfl, fun u hu _ => ?_⟩, ?_⟩
        ·refine make_call (f := 30) (args := #[.int .i64 z]) (by (try simp only [Act.put, List.setIfInBounds_toArray, List.set_cons_zero, List.set_cons_succ]); (try simp only [newB_val, numB_val, ownB_val, rightB_val, ratCV_val]); go_simp) ?_
         refine (ref3_IntC (w := u) z HZ.out.1 HZ.out.2.1).mono ?_
         rintro e wx ⟨⟨b1, C1, b2, C2, rfl, q1, q2, q3, q4, q5, q6⟩, hbx⟩
         obtain ⟨D1, k1, k2, k3⟩ := q1.cap
         obtain ⟨D2, k4, k5, k6⟩ := q2.cap
         obtain ⟨e1, e2, e3⟩ := un_pk (b2 := b2) k1 k4
         refine ⟨(b1, pk3 D1 b2 D2), ?_, q3, q4, hbx, by simp, by simp, ?_, ?_, ?_, ?_⟩
         ·rw [ratCV_val, ratC, ratC]
          simp only [e1, e2, e3]
          rw [k2, k5]
         ·simp only [e1]; exact k3
         ·simp only [e2, e3]; exact k6
         ·simp only [e3]; have := hu.1; omega
         ·simp only [e3]; exact q6
        unfold genWalk
        apply Exists.intro
        apply And.intro
        ·apply Piece.mk
         ·intro f v hv hr hne
          simp only [List.take_zero, List.drop_succ_cons, List.drop_zero, Nat.reduceSub]
          (try simp only [Act.put, List.setIfInBounds_toArray, List.set_cons_zero, List.set_cons_succ])
          (try simp only [ratCV_val])
          repeat (go_big_quiet_step (fail))
          refine wpQuiet_nil ?_
          exact rfl
         ·intro f; kernel_rfl
         ·intro f f' hf; simp
        unfold genWalk
        apply Exists.intro
        apply And.intro
        ·apply Piece.mk
         ·intro f v hv hr hne
          simp only [List.take_succ_cons, List.take_zero, List.drop_succ_cons, List.drop_zero, Nat.reduceSub]
          (try simp only [Act.put, List.setIfInBounds_toArray, List.set_cons_zero, List.set_cons_succ])
          (try simp only [newB_val, numB_val, ownB_val, rightB_val, ratCV_val])
          have h8 := (hr 8 (by simp)).2.2
          have k8 := fun x : Later [] wr v => ratC_at (NumC.below h8.1 x.g) (NumC.below h8.2.1 x.g) HZ.out.2.2 fits1
          have L1 := fun x : Later [] wr v => RatAt.keeps HRA.out x.h
          repeat (go_big_quiet_step ((go_at_call 29; with_reducible exact lateB (ref3_SameR (L1 _) (k8 _)))))
          refine wpQuiet_nil ?_
          exact rfl
         ·intro f; kernel_rfl
         ·intro f f' hf; first | (simp; done) | (simp [hf 8 (by simp)])
        intro f u' hup hph hmade hdist
        refine effc_nil ?_
        simp only
        (try simp only [Act.put, List.setIfInBounds_toArray, List.set_cons_zero, List.set_cons_succ])
        (try simp only [newB_val, numB_val, ownB_val, rightB_val, ratCV_val])
        clear hmade hdist hph
        have hwn : Below v5.heap.size v5 u' := Upd.below hwb hup (by simp)
        generalize ratC z 1 (f 8).1 (un1 (f 8).2) (un3 (f 8).2) (un2 (f 8).2) = y8 at *
        clear f hup x1 x2 x3 x4 x5 hb1 hb2
        go_wp2
        go_roundw
        case rel => exact ⟨j + 1, by omega, by go_num, hwn⟩
        case measure => simp [intOf]; omega
       ·obtain rfl : j = k := by omega
        have hwE := hw5.trans (hwb.mono hw5.size)
        go_wp2
        go_ret
        exact ⟨rfl, hwE⟩
end Go.Proofs.YtflgngjocgiojaaGreat
