/- Matrix: back: a triangular system is solved. -/
import Derived.Test.YtflgngjocgiojaaGreatMatJ
namespace Go.Proofs.YtflgngjocgiojaaGreat
open Go.RowKit

theorem digs_ne {u : World} {b b' : Nat} {z : Int} (h : OwnD u b (digs z.natAbs)) {x : Bool} {y : Value} {cs : List Value} (h' : Own u b' (Array.mk (.bool x :: y :: cs))) (hz : z ≠ 0) : b ≠ b' := fun e => by
 subst e
 obtain ⟨T1, h⟩ := h
 obtain ⟨T2, h'⟩ := h'
 rw [h] at h'
 injection h' with h'
 injection h' with h'
 have hd : digs z.natAbs ≠ [] := fun e => by have := digs_nil.1 e; omega
 cases hL : digs z.natAbs with
 | nil => exact hd hL
 | cons d D =>
  rw [hL] at h'
  have := congrArg (fun a => a[0]?) h'
  simp [encU] at this
theorem good_ne {p q : Int} (h : goodQ p q = true) : q ≠ 0 := by
 unfold goodQ at h
 simp at h
 omega
theorem RatX.keeps {X : Nat → Prop} {W u : World} {s1 s2 : Bool} {A1 A2 : Option Addr} {n1 c1 n2 c2 : Nat} {p q : Int} (h : RatX X W s1 A1 n1 c1 s2 A2 n2 c2 p q) (hk : Keeps [] W u) : RatX X u s1 A1 n1 c1 s2 A2 n2 c2 p q :=
 h.move hk.1 fun b hb hX => ⟨hk.2 b hb (by simp), hX⟩
theorem BoxR.store {W : World} {b : Nat} {s1 s2 t1 t2 : Bool} {A1 A2 B1 B2 : Option Addr} {n1 c1 n2 c2 m1 d1 m2 d2 : Nat} {p q : Int} (ho : Own W b #[.bool t1, .slice B1 m1 d1, .bool t2, .slice B2 m2 d2]) (hr : RatX (fun y => y ≠ b) W s1 A1 n1 c1 s2 A2 n2 c2 p q) :
  BoxR ((((W.setCell ⟨b, 0, none⟩ (.bool s1)).setCell ⟨b, 1, none⟩ (.slice A1 n1 c1)).setCell ⟨b, 2, none⟩ (.bool s2)).setCell ⟨b, 3, none⟩ (.slice A2 n2 c2)) b (p, q) :=
 ⟨s1, A1, n1, c1, s2, A2, n2, c2, ((((ho.set 0 _).set 1 _).set 2 _).set 3 _).eq rfl, hr.move (by simp [World.setCell]) fun y _ hX => ⟨(((Below.heap_setCell _ _ _ y hX).trans (Below.heap_setCell _ _ _ y hX)).trans (Below.heap_setCell _ _ _ y hX)).trans (Below.heap_setCell _ _ _ y hX), hX⟩⟩
set_option maxRecDepth 100000 in
set_option maxHeartbeats 8000000 in
theorem matrix_back {w : World} {B0 S kk n last wd : Nat} {L : List (List Int)} {x : Nat → QI} (hs : SysAt B0 w S L kk) (hw : Wide L wd) (hn : n ≤ L.length) (hnw : n ≤ wd) (hl : last < wd) (hN : L.length ≤ 900) (hwd : wd ≤ 900) (hx : BackQ L x n last) :
  Calls Tryz.prog 58 #[.pointer (some ⟨S, 0, none⟩), .int .i64 (n : Nat), .int .i64 (last : Nat)] w fun e w' => (∃ b, e = .returned (.slice (some ⟨b, 0, none⟩) n n) ∧ w.heap.size ≤ b ∧ RatsO w' b x 0 n) ∧ Below w.heap.size w w' := by
 have hmk := fun w => make_rats n (by omega) w
 obtain ⟨hS0, hSl, A, cap, ho, hc1, hc2, hrow⟩ := hs
 obtain ⟨N, hNN⟩ : ∃ N, L.length = N := ⟨_, rfl⟩
 have HX := Lib.hid hx
 have HO := Lib.hid ho
 have HR := Lib.hid hrow
 have HW := Lib.hid hw
 have HL := Lib.hid hNN
 rw [hNN] at hn hN hc1
 have hni : (n : Int) ≤ 900 := by omega
 clear hx ho hrow hw hNN
 go_enter Tryz.func58, Tryz.ntmps58
 go_wp2
 have hW := (Below.refl w.heap.size w).alloc (Nat.le_refl _) (.cells (ratCells n) 37)
 have hx0 : RatsO (w.alloc (.cells (ratCells n) 37)) w.heap.size x n n := ⟨_, OwnT.new, ratCells_size n, fun i h1 h2 => by omega⟩
 have hsz : (w.alloc (.cells (ratCells n) 37)).heap.size = w.heap.size + 1 := by simp
 generalize (w.alloc (.cells (ratCells n) 37)) = W0 at *
 clear hmk
 go_loopw [8] (fun i wr => ∃ j : Nat, j ≤ n ∧ i = .int .i64 ((j : Int) - 1) ∧ Below w.heap.size w wr ∧ w.heap.size + 1 ≤ wr.heap.size ∧ RatsO wr w.heap.size x j n) (fun i _ => (intOf i + 1).toNat)
 case atStart => exact ⟨n, by omega, rfl, hW, by omega, hx0⟩
 case round =>
  obtain ⟨j, hj, rfl, hbel, hsz1, hxs⟩ := hrel
  have HXS := Lib.hid hxs
  clear hxs hsz hW hx0
  by_cases hj0 : j = 0
  ·subst hj0
   have e : (((0 : Nat) : Int) - 1) = -1 := rfl
   rw [e]
   go_wp2
   go_ret
   exact ⟨⟨_, rfl, Nat.le_refl _, HXS.out⟩, hbel⟩
  ·obtain ⟨k, rfl⟩ : ∃ k, j = k + 1 := ⟨j - 1, by omega⟩
   have e : (((k + 1 : Nat) : Int) - 1) = (k : Int) := by omega
   rw [e]
   clear e hj0
   have hkn : k < n := by omega
   have hk0 : (0 : Int) ≤ (k : Int) := by omega
   obtain ⟨g, rfl, hgS, hgB, hm⟩ := HR.out (by rw [HL.out]; omega)
   obtain ⟨cs, hog, hrows⟩ := hm.below hbel
   obtain ⟨B, cc, hcs, hc3, hc4, NX⟩ := hrows k (by rw [HL.out]; omega)
   have hWk := HW.out k (by rw [HL.out]; omega)
   rw [hWk] at hcs hc3 NX
   have rk := (hog.cell k).trans hcs
   have hgl := hog.lt
   obtain ⟨bb, off, rfl, hbb, -, hcell⟩ := NX.row (by omega)
   have oS := HO.out.below hbel
   rw [HL.out] at oS
   have oSl := oS.lt
   have hkN : (k : Int) < (N : Int) := by omega
   have hkb := hbel.size
   obtain ⟨sE, BE, mE, cE, e1, e2, -, NE⟩ := hcell last hl
   have HNEa := Lib.hid NE
   obtain ⟨zl, hzl⟩ : ∃ z, zAt (rAt L k) last = z := ⟨_, rfl⟩
   rw [hzl] at HNEa
   have HZL := Lib.hid hzl
   have HC := Lib.hid hcell
   have lli : (last : Int) < (wd : Int) := by omega
   have oSc := oS.cell
   clear hog hrows hcs NE NX hcell hzl hm
   go_wp2
   have HFa := Lib.hid (And.intro (NumAt.fits HNEa.out) (And.intro (show fits 1 = true from fits_small (by omega)) (show (1 : Int) ≠ 0 by omega)))
   refine region_gen (T := []) [.make 10 [] (valB [] 1), .make 11 [10] (ratB [] wr.heap.size zl 1), .need 12 [11], .need 14 [], .make 15 [] (ownB [] #[.bool false, .slice none 0 0, .bool false, .slice none 0 0] (fun p => .pointer (some ⟨p, 0, none⟩)))] 16 0 40 (fun _ _ => True) (fun _ _ _ _ _ => trivial) trivial (by kernel_rfl) (by kernel_rfl) (by rfl) ?_
   unfold genWalk
   apply Exists.intro
   apply And.intro
   ·apply Piece.mk
    ·intro f v hv hr hne
     simp only [List.take_succ_cons, List.take_zero, List.drop_zero, Nat.reduceSub]
     have d1 := fun y => (oS.later (v := v) (T := []) (by simp) y).cell
     have d2 := later_cell (T := []) (w := wr) (v := v) hgl (by simp) rk
     have d3 := later_cell (T := []) (w := wr) (v := v) hbb (by simp) e1
     have d4 := later_cell (T := []) (w := wr) (v := v) hbb (by simp) e2
     repeat (go_big_quiet_step (fail))
     refine wpQuiet_nil ?_
     exact rfl
    ·intro f; kernel_rfl
    ·intro f f' hf; kernel_rfl
   simp only [List.take_succ_cons, List.take_zero, List.drop_succ_cons, List.drop_zero, Nat.reduceAdd, oneOp]
   refine ⟨fun f => ⟨rfl, fun u hu _ => ?_⟩, ?_⟩
   ·refine make_call (f := 21) (args := #[.int .i64 1]) (by (try simp only [Act.put, List.setIfInBounds_toArray, List.set_cons_zero, List.set_cons_succ]); (try simp only [newB_val, numB_val, ownB_val, valB_val, ratB_val, numV, ratV]); go_simp) ?_
    have q := of_val (w := u) 1 (by omega) (by omega)
    refine q.mono ?_
    rintro e wx ⟨⟨b, rfl, q1, q2, q3⟩, hbx⟩
    exact ⟨(b, 0), rfl, q2, q3, hbx, (by simp), q1⟩
   unfold genWalk
   apply Exists.intro
   apply And.intro
   ·apply Piece.mk
    ·intro f v hv hr hne
     simp only [List.take_zero, List.drop_succ_cons, List.drop_zero, Nat.reduceSub]
     (try simp only [Act.put, List.setIfInBounds_toArray, List.set_cons_zero, List.set_cons_succ])
     (try simp only [valB_val, numV])
     have d1 := fun y => (oS.later (v := v) (T := []) (by simp) y).cell
     have d2 := later_cell (T := []) (w := wr) (v := v) hgl (by simp) rk
     have d3 := later_cell (T := []) (w := wr) (v := v) hbb (by simp) e1
     have d4 := later_cell (T := []) (w := wr) (v := v) hbb (by simp) e2
     repeat (go_big_quiet_step (fail))
     refine wpQuiet_nil ?_
     exact rfl
    ·intro f; kernel_rfl
    ·intro f f' hf; simp
   simp only [List.take_succ_cons, List.take_zero, List.drop_succ_cons, List.drop_zero, Nat.reduceAdd, oneOp]
   refine ⟨fun f => ⟨rfl, fun u hu hm => ?_⟩, ?_⟩
   ·refine make_call (f := 22) (args := #[.agg #[.bool sE, .slice BE mE cE], .agg #[.bool (sgnN 1), slN 1 (f 10).1]]) (by (try simp only [Act.put, List.setIfInBounds_toArray, List.set_cons_zero, List.set_cons_succ]); (try simp only [newB_val, numB_val, ownB_val, valB_val, ratB_val, numV, ratV]); go_simp) ?_
    have e1 : NumO u (f 10).1 1 := (show (valB [] 1).R (f 10) u from hm 10 (by simp)).2
    have q := ratio_Of (w := u) (NumAt.keeps HNEa.out hu) (e1.at_ HFa.out.2.1) HFa.out.2.2
    rw [ofN_one, ofD_one] at q
    refine q.mono ?_
    rintro e wx ⟨⟨b1, b2, rfl, q1, q2, q3, q4, q5, q6⟩, hbx⟩
    exact ⟨(b1, b2), rfl, q3, q4, hbx, by simp, by simp, q1, q2, Nat.le_trans hu.1 q5, q6⟩
   unfold genWalk
   apply Exists.intro
   apply And.intro
   ·apply Piece.mk
    ·intro f v hv hr hne
     simp only [List.take_zero, List.drop_succ_cons, List.drop_zero, Nat.reduceSub]
     (try simp only [Act.put, List.setIfInBounds_toArray, List.set_cons_zero, List.set_cons_succ])
     (try simp only [ratB_val, ratV])
     repeat (go_big_quiet_step (fail))
     refine wpQuiet_nil ?_
     exact rfl
    ·intro f; kernel_rfl
    ·intro f f' hf; simp
   unfold genWalk
   apply Exists.intro
   apply And.intro
   ·apply Piece.mk
    ·intro f v hv hr hne
     simp only [List.take_succ_cons, List.take_zero, List.drop_succ_cons, List.drop_zero, Nat.reduceSub]
     (try simp only [Act.put, List.setIfInBounds_toArray, List.set_cons_zero, List.set_cons_succ])
     (try simp only [newB_val, numB_val, ownB_val, valB_val, ratB_val, numV, ratV])
     repeat (go_big_quiet_step (fail))
     refine wpQuiet_nil ?_
     exact rfl
    ·intro f; kernel_rfl
    ·intro f f' hf; first | (simp; done) | (simp [hf 11 (by simp)])
   unfold genWalk
   apply Exists.intro
   apply And.intro
   ·apply Piece.mk
    ·intro f v hv hr hne
     simp only [List.take_succ_cons, List.take_zero, List.drop_succ_cons, List.drop_zero, Nat.reduceSub]
     (try simp only [Act.put, List.setIfInBounds_toArray, List.set_cons_zero, List.set_cons_succ])
     (try simp only [newB_val, numB_val, ownB_val, valB_val, ratB_val, numV, ratV])
     repeat (go_big_quiet_step (fail))
     refine wpQuiet_nil ?_
     exact rfl
    ·intro f; kernel_rfl
    ·intro f f' hf; simp
   simp only [List.take_succ_cons, List.take_zero, List.drop_succ_cons, List.drop_zero, Nat.reduceAdd, oneOp]
   refine ⟨fun f => ⟨rfl, fun u hu _ => ?_⟩, ?_⟩
   ·refine make_own (e := 37) (by (try simp only [Act.put, List.setIfInBounds_toArray, List.set_cons_zero, List.set_cons_succ]); (try simp only [newB_val, numB_val, ownB_val, valB_val, ratB_val, numV, ratV]); go_simp) (by simp)
   unfold genWalk
   apply Exists.intro
   apply And.intro
   ·apply Piece.mk
    ·intro f v hv hr hne
     simp only [List.take_zero, List.drop_succ_cons, List.drop_zero, Nat.reduceSub]
     (try simp only [Act.put, List.setIfInBounds_toArray, List.set_cons_zero, List.set_cons_succ])
     (try simp only [ownB_val])
     repeat (go_big_quiet_step (fail))
     refine wpQuiet_nil ?_
     exact rfl
    ·intro f; kernel_rfl
    ·intro f f' hf; simp
   intro f u' hup hph hmade hdist
   obtain ⟨⟨-, -, oN, oM, loM, hiM⟩, loN, hiN⟩ := hmade 11 (by omega) rfl
   obtain ⟨⟨-, qO⟩, loO, hiO⟩ := hmade 15 (by omega) rfl
   have e5 := hdist 11 15 (by omega) (by omega) rfl rfl (by omega)
   replace oN : NumO u' (f 11).1 zl := oN
   replace oM : NumO u' (f 11).2 1 := oM
   replace hiM : (f 11).2 < u'.heap.size := hiM
   replace loM : wr.heap.size ≤ (f 11).2 := loM
   replace qO : Own u' (f 15).1 #[.bool false, .slice none 0 0, .bool false, .slice none 0 0] := qO
   clear hmade hdist hph
   simp only
   (try simp only [Act.put, List.setIfInBounds_toArray, List.set_cons_zero, List.set_cons_succ])
   (try simp only [newB_val, numB_val, ownB_val, valB_val, ratB_val, numV, ratV])
   generalize (f 11).1 = b1 at *
   generalize (f 11).2 = b2 at *
   generalize (f 15).1 = ba at *
   generalize (f 10).1 = bp10 at *
   clear f
   have e6 : b2 ≠ ba := digs_ne (oM HFa.out.2.1 HFa.out.2.2) qO HFa.out.2.2
   have f1 := HFa.out.1
   have f2 := HFa.out.2.1
   obtain ⟨Aa1, na1, ca1, hs1⟩ := slN_form zl b1
   obtain ⟨Aa2, na2, ca2, hs2⟩ := slN_form 1 b2
   rw [hs1, hs2]
   have HSL := Lib.hid (And.intro hs1 hs2)
   clear hs1 hs2
   have hwu : Below wr.heap.size wr u' := Upd.below (Below.refl _ _) hup (by simp)
   have hkT := Upd.keeps (Keeps.refl _ _) hup
   have qOc := qO.cell
   have qOf := qO.thaw
   clear hup
   refine effc_mem (by rfl) (fun K hK => ?_)
   go_simp
   refine hK _ _ (((((hkT.new (p := ⟨ba, 0, none⟩) loO (.bool (sgnN zl))).new (p := ⟨ba, 1, none⟩) loO (.slice Aa1 na1 ca1)).new (p := ⟨ba, 2, none⟩) loO (.bool (sgnN 1))).new (p := ⟨ba, 3, none⟩) loO (.slice Aa2 na2 ca2))) (fun u3 hu3 => ?_)
   clear hK K
   have hs3 := hu3.size
   simp [World.setCell] at hs3
   have hwu1 := (((((hwu.setCell (p := ⟨ba, 0, none⟩) loO (.bool (sgnN zl))).setCell (p := ⟨ba, 1, none⟩) loO (.slice Aa1 na1 ca1)).setCell (p := ⟨ba, 2, none⟩) loO (.bool (sgnN 1))).setCell (p := ⟨ba, 3, none⟩) loO (.slice Aa2 na2 ca2))).trans (hu3.mono (by simp [World.setCell]; exact hwu.size))
   have r12 := ((((qO.set 0 (.bool (sgnN zl))).set 1 (.slice Aa1 na1 ca1)).set 2 (.bool (sgnN 1))).set 3 (.slice Aa2 na2 ca2)).below hu3
   have oN1 := NumO.below (((((oN.far (p := ⟨ba, 0, none⟩) e5 (.bool (sgnN zl))).far (p := ⟨ba, 1, none⟩) e5 (.slice Aa1 na1 ca1)).far (p := ⟨ba, 2, none⟩) e5 (.bool (sgnN 1))).far (p := ⟨ba, 3, none⟩) e5 (.slice Aa2 na2 ca2))) hu3
   have oM1 := NumO.below (((((oM.far (p := ⟨ba, 0, none⟩) e6 (.bool (sgnN zl))).far (p := ⟨ba, 1, none⟩) e6 (.slice Aa1 na1 ca1)).far (p := ⟨ba, 2, none⟩) e6 (.bool (sgnN 1))).far (p := ⟨ba, 3, none⟩) e6 (.slice Aa2 na2 ca2))) hu3
   have hk1 := (((((hkT.new (p := ⟨ba, 0, none⟩) loO (.bool (sgnN zl))).new (p := ⟨ba, 1, none⟩) loO (.slice Aa1 na1 ca1)).new (p := ⟨ba, 2, none⟩) loO (.bool (sgnN 1))).new (p := ⟨ba, 3, none⟩) loO (.slice Aa2 na2 ca2))).later hu3
   clear qO qOc qOf oN oM hkT hu3 hwu
   refine effc_mem (by rfl) (fun K hK => ?_)
   go_simp
   refine hK _ _ hk1 (fun ua hu4 => ?_)
   clear hK K
   have r13 := r12.below hu4
   have oN2 := oN1.below hu4
   have oM2 := oM1.below hu4
   have HBa := hwu1.trans (hu4.mono hwu1.size)
   have hs4 := hu4.size
   have BXa : Hid (Own ua ba #[.bool (sgnN zl), .slice Aa1 na1 ca1, .bool (sgnN 1), .slice Aa2 na2 ca2] ∧ RatX (fun x => x ≠ ba) ua (sgnN zl) Aa1 na1 ca1 (sgnN 1) Aa2 na2 ca2 zl 1) := Lib.hid ⟨r13, ratX_of oN2 oM2 f1 f2 (by omega) (by omega) e5 e6 HSL.out.1 HSL.out.2⟩
   have LBa := loO
   clear hwu1 hk1 hu4 loM r12 r13 oN1 oM1 oN2 oM2 e5 e6 hs3 hs4 HSL loN hiN loO hiO hiM f1 f2
   refine effc_nil ?_
   (try simp only [Act.put, List.setIfInBounds_toArray, List.set_cons_zero, List.set_cons_succ])
   clear e1 e2 oSc oS
   have hxB := HX.out
   have HQ := Lib.hid (And.intro (hxB.eq k hkn) (And.intro (hxB.lead k hkn) (And.intro (hxB.elem k hkn) (And.intro (hxB.sum k hkn) (And.intro (hxB.part k hkn) hxB.val)))))
   have hBox : BoxR ua ba (sumQ (rAt L k) x k last 0) := by
    have h := BXa.out
    show BoxR ua ba (zAt (rAt L k) last, 1)
    rw [HZL.out]
    exact ⟨_, _, _, _, _, _, _, _, h.1, h.2⟩
   have HBox := Lib.hid hBox
   have hbal := BXa.out.1.lt
   have hba0 := HBa.size
   obtain ⟨R, hR⟩ : ∃ R, rAt L k = R := ⟨_, rfl⟩
   rw [hR] at HC HQ HBox
   clear hBox hxB hR HZL BXa
   generalize wr = wq at *
   go_wp2
   go_loopw [11] (fun ci wi => ∃ i : Nat, i ≤ n - 1 - k ∧ ci = .int .i64 ((k + 1 + i : Nat) : Int) ∧ Below wq.heap.size wq wi ∧ ba < wi.heap.size ∧ BoxR wi ba (sumQ R x k last i)) (fun ci _ => n - (intOf ci).toNat)
   case atStart => exact ⟨0, by omega, by first | rfl | (congr 1; done) | (congr 1; omega), HBa, hbal, HBox.out⟩
   case round =>
    clear HBox HBa hbal
    obtain ⟨i, hi, rfl, hbw, hbal, hbox⟩ := hrel
    have hwz := hbw.size
    have hbw0 := hbel.trans (hbw.mono hkb)
    have oS := HO.out.below hbw0
    rw [HL.out] at oS
    have rkw := (World.cell?_of_block (w := wq) (a := ⟨g, k, none⟩) (hbw.block g hgl)).trans rk
    have hgw : g < wr.heap.size := by omega
    have hbbw : bb < wr.heap.size := by omega
    obtain ⟨s1, A1, n1, c1, s2, A2, n2, c2, hob, hrx⟩ := hbox
    have HRX := Lib.hid hrx
    have hbel2 := Lib.hid hbw0
    clear hrx hbw0
    by_cases hin : i < n - 1 - k
    ·obtain ⟨c, hc⟩ : ∃ c, k + 1 + i = c := ⟨_, rfl⟩
     have HCI := Lib.hid hc
     have hcn : c < n := by omega
     rw [hc]
     have hci : (c : Int) < (n : Int) := by omega
     have hcw : (c : Int) < (wd : Int) := by omega
     obtain ⟨sE, BE, mE, cE, e1', e2', e3', NE⟩ := HC.out c (by omega)
     have e1 := (World.cell?_of_block (w := wq) (a := ⟨bb, off + c * 2, none⟩) (hbw.block bb hbb)).trans e1'
     have e2 := (World.cell?_of_block (w := wq) (a := ⟨bb, off + c * 2 + 1, none⟩) (hbw.block bb hbb)).trans e2'
     have HNEp := Lib.hid (NE.below hbw)
     obtain ⟨zc, hzc⟩ : ∃ z, zAt R c = z := ⟨_, rfl⟩
     rw [hzc] at HNEp
     have HZC := Lib.hid hzc
     have hsum := HQ.out.2.2.2.1 i hi
     have hsum2 := HQ.out.2.2.2.1 (i + 1) (by omega)
     have hpart := HQ.out.2.2.2.2.1 i hin
     have hval := HQ.out.2.2.2.2.2 c hcn
     have hel := HQ.out.2.2.1.2 c hcn
     have hnx : sumQ R x k last (i + 1) = subQ (sumQ R x k last i) (mulQ (zAt R (k + 1 + i), 1) (x (k + 1 + i))) := rfl
     rw [hc, hzc] at hpart hnx
     rw [hzc] at hel
     rw [hnx] at hsum2
     obtain ⟨⟨ps, qs⟩, hps⟩ : ∃ a, sumQ R x k last i = a := ⟨_, rfl⟩
     obtain ⟨⟨px, qx⟩, hpx⟩ : ∃ a, x c = a := ⟨_, rfl⟩
     rw [hps] at hsum hsum2 hnx HRX
     rw [hpx] at hpart hval hsum2 hnx
     obtain ⟨⟨zm, ym⟩, hm⟩ : ∃ a, mulQ (zc, 1) (px, qx) = a := ⟨_, rfl⟩
     rw [hm] at hpart hsum2 hnx
     obtain ⟨⟨zn, yn⟩, hnn⟩ : ∃ a, subQ (ps, qs) (zm, ym) = a := ⟨_, rfl⟩
     rw [hnn] at hsum2 hnx
     have HPL := Lib.hid (And.intro hsum (And.intro hsum2 (And.intro hpart (And.intro hval (And.intro hel (And.intro hnx (And.intro hm (And.intro hnn hpx))))))))
     clear hsum hsum2 hpart hval hel hnx hps hpx hm hnn hzc hc NE e1' e2' e3' rkw
     have rkw := (World.cell?_of_block (w := wq) (a := ⟨g, k, none⟩) (hbw.block g hgl)).trans rk
     go_wp2
     have HFp := Lib.hid (And.intro (NumAt.fits HNEp.out) (And.intro (show fits 1 = true from fits_small (by omega)) (show (1 : Int) ≠ 0 by omega)))
     refine region_gen (T := []) [.make 10 [] (valB [] 1), .make 11 [10] (ratB [] wr.heap.size zc 1), .need 12 [11], .need 14 [], .make 15 [] (ownB [] #[.bool false, .slice none 0 0, .bool false, .slice none 0 0] (fun p => .pointer (some ⟨p, 0, none⟩)))] 16 0 40 (fun _ _ => True) (fun _ _ _ _ _ => trivial) trivial (by kernel_rfl) (by kernel_rfl) (by rfl) ?_
     unfold genWalk
     apply Exists.intro
     apply And.intro
     ·apply Piece.mk
      ·intro f v hv hr hne
       simp only [List.take_succ_cons, List.take_zero, List.drop_zero, Nat.reduceSub]
       have d1 := fun y => (oS.later (v := v) (T := []) (by simp) y).cell
       have d2 := later_cell (T := []) (w := wr) (v := v) hgw (by simp) rkw
       have d3 := later_cell (T := []) (w := wr) (v := v) hbbw (by simp) e1
       have d4 := later_cell (T := []) (w := wr) (v := v) hbbw (by simp) e2
       repeat (go_big_quiet_step (fail))
       refine wpQuiet_nil ?_
       exact rfl
      ·intro f; kernel_rfl
      ·intro f f' hf; kernel_rfl
     simp only [List.take_succ_cons, List.take_zero, List.drop_succ_cons, List.drop_zero, Nat.reduceAdd, oneOp]
     refine ⟨fun f => ⟨rfl, fun u hu _ => ?_⟩, ?_⟩
     ·refine make_call (f := 21) (args := #[.int .i64 1]) (by (try simp only [Act.put, List.setIfInBounds_toArray, List.set_cons_zero, List.set_cons_succ]); (try simp only [newB_val, numB_val, ownB_val, valB_val, ratB_val, numV, ratV]); go_simp) ?_
      have q := of_val (w := u) 1 (by omega) (by omega)
      refine q.mono ?_
      rintro e wx ⟨⟨b, rfl, q1, q2, q3⟩, hbx⟩
      exact ⟨(b, 0), rfl, q2, q3, hbx, (by simp), q1⟩
     unfold genWalk
     apply Exists.intro
     apply And.intro
     ·apply Piece.mk
      ·intro f v hv hr hne
       simp only [List.take_zero, List.drop_succ_cons, List.drop_zero, Nat.reduceSub]
       (try simp only [Act.put, List.setIfInBounds_toArray, List.set_cons_zero, List.set_cons_succ])
       (try simp only [valB_val, numV])
       have d1 := fun y => (oS.later (v := v) (T := []) (by simp) y).cell
       have d2 := later_cell (T := []) (w := wr) (v := v) hgw (by simp) rkw
       have d3 := later_cell (T := []) (w := wr) (v := v) hbbw (by simp) e1
       have d4 := later_cell (T := []) (w := wr) (v := v) hbbw (by simp) e2
       repeat (go_big_quiet_step (fail))
       refine wpQuiet_nil ?_
       exact rfl
      ·intro f; kernel_rfl
      ·intro f f' hf; simp
     simp only [List.take_succ_cons, List.take_zero, List.drop_succ_cons, List.drop_zero, Nat.reduceAdd, oneOp]
     refine ⟨fun f => ⟨rfl, fun u hu hm => ?_⟩, ?_⟩
     ·refine make_call (f := 22) (args := #[.agg #[.bool sE, .slice BE mE cE], .agg #[.bool (sgnN 1), slN 1 (f 10).1]]) (by (try simp only [Act.put, List.setIfInBounds_toArray, List.set_cons_zero, List.set_cons_succ]); (try simp only [newB_val, numB_val, ownB_val, valB_val, ratB_val, numV, ratV]); go_simp) ?_
      have e1 : NumO u (f 10).1 1 := (show (valB [] 1).R (f 10) u from hm 10 (by simp)).2
      have q := ratio_Of (w := u) (NumAt.keeps HNEp.out hu) (e1.at_ HFp.out.2.1) HFp.out.2.2
      rw [ofN_one, ofD_one] at q
      refine q.mono ?_
      rintro e wx ⟨⟨b1, b2, rfl, q1, q2, q3, q4, q5, q6⟩, hbx⟩
      exact ⟨(b1, b2), rfl, q3, q4, hbx, by simp, by simp, q1, q2, Nat.le_trans hu.1 q5, q6⟩
     unfold genWalk
     apply Exists.intro
     apply And.intro
     ·apply Piece.mk
      ·intro f v hv hr hne
       simp only [List.take_zero, List.drop_succ_cons, List.drop_zero, Nat.reduceSub]
       (try simp only [Act.put, List.setIfInBounds_toArray, List.set_cons_zero, List.set_cons_succ])
       (try simp only [ratB_val, ratV])
       repeat (go_big_quiet_step (fail))
       refine wpQuiet_nil ?_
       exact rfl
      ·intro f; kernel_rfl
      ·intro f f' hf; simp
     unfold genWalk
     apply Exists.intro
     apply And.intro
     ·apply Piece.mk
      ·intro f v hv hr hne
       simp only [List.take_succ_cons, List.take_zero, List.drop_succ_cons, List.drop_zero, Nat.reduceSub]
       (try simp only [Act.put, List.setIfInBounds_toArray, List.set_cons_zero, List.set_cons_succ])
       (try simp only [newB_val, numB_val, ownB_val, valB_val, ratB_val, numV, ratV])
       repeat (go_big_quiet_step (fail))
       refine wpQuiet_nil ?_
       exact rfl
      ·intro f; kernel_rfl
      ·intro f f' hf; first | (simp; done) | (simp [hf 11 (by simp)])
     unfold genWalk
     apply Exists.intro
     apply And.intro
     ·apply Piece.mk
      ·intro f v hv hr hne
       simp only [List.take_succ_cons, List.take_zero, List.drop_succ_cons, List.drop_zero, Nat.reduceSub]
       (try simp only [Act.put, List.setIfInBounds_toArray, List.set_cons_zero, List.set_cons_succ])
       (try simp only [newB_val, numB_val, ownB_val, valB_val, ratB_val, numV, ratV])
       repeat (go_big_quiet_step (fail))
       refine wpQuiet_nil ?_
       exact rfl
      ·intro f; kernel_rfl
      ·intro f f' hf; simp
     simp only [List.take_succ_cons, List.take_zero, List.drop_succ_cons, List.drop_zero, Nat.reduceAdd, oneOp]
     refine ⟨fun f => ⟨rfl, fun u hu _ => ?_⟩, ?_⟩
     ·refine make_own (e := 37) (by (try simp only [Act.put, List.setIfInBounds_toArray, List.set_cons_zero, List.set_cons_succ]); (try simp only [newB_val, numB_val, ownB_val, valB_val, ratB_val, numV, ratV]); go_simp) (by simp)
     unfold genWalk
     apply Exists.intro
     apply And.intro
     ·apply Piece.mk
      ·intro f v hv hr hne
       simp only [List.take_zero, List.drop_succ_cons, List.drop_zero, Nat.reduceSub]
       (try simp only [Act.put, List.setIfInBounds_toArray, List.set_cons_zero, List.set_cons_succ])
       (try simp only [ownB_val])
       repeat (go_big_quiet_step (fail))
       refine wpQuiet_nil ?_
       exact rfl
      ·intro f; kernel_rfl
      ·intro f f' hf; simp
     intro f u' hup hph hmade hdist
     obtain ⟨⟨-, -, oN, oM, loM, hiM⟩, loN, hiN⟩ := hmade 11 (by omega) rfl
     obtain ⟨⟨-, qO⟩, loO, hiO⟩ := hmade 15 (by omega) rfl
     have e5 := hdist 11 15 (by omega) (by omega) rfl rfl (by omega)
     replace oN : NumO u' (f 11).1 zc := oN
     replace oM : NumO u' (f 11).2 1 := oM
     replace hiM : (f 11).2 < u'.heap.size := hiM
     replace loM : wr.heap.size ≤ (f 11).2 := loM
     replace qO : Own u' (f 15).1 #[.bool false, .slice none 0 0, .bool false, .slice none 0 0] := qO
     clear hmade hdist hph
     simp only
     (try simp only [Act.put, List.setIfInBounds_toArray, List.set_cons_zero, List.set_cons_succ])
     (try simp only [newB_val, numB_val, ownB_val, valB_val, ratB_val, numV, ratV])
     generalize (f 11).1 = b1 at *
     generalize (f 11).2 = b2 at *
     generalize (f 15).1 = bp at *
     generalize (f 10).1 = bp10 at *
     clear f
     have e6 : b2 ≠ bp := digs_ne (oM HFp.out.2.1 HFp.out.2.2) qO HFp.out.2.2
     have f1 := HFp.out.1
     have f2 := HFp.out.2.1
     obtain ⟨Ap1, np1, cp1, hs1⟩ := slN_form zc b1
     obtain ⟨Ap2, np2, cp2, hs2⟩ := slN_form 1 b2
     rw [hs1, hs2]
     have HSL := Lib.hid (And.intro hs1 hs2)
     clear hs1 hs2
     have hwu : Below wr.heap.size wr u' := Upd.below (Below.refl _ _) hup (by simp)
     have hkT := Upd.keeps (Keeps.refl _ _) hup
     have qOc := qO.cell
     have qOf := qO.thaw
     clear hup
     refine effc_mem (by rfl) (fun K hK => ?_)
     go_simp
     refine hK _ _ (((((hkT.new (p := ⟨bp, 0, none⟩) loO (.bool (sgnN zc))).new (p := ⟨bp, 1, none⟩) loO (.slice Ap1 np1 cp1)).new (p := ⟨bp, 2, none⟩) loO (.bool (sgnN 1))).new (p := ⟨bp, 3, none⟩) loO (.slice Ap2 np2 cp2))) (fun u3 hu3 => ?_)
     clear hK K
     have hs3 := hu3.size
     simp [World.setCell] at hs3
     have hwu1 := (((((hwu.setCell (p := ⟨bp, 0, none⟩) loO (.bool (sgnN zc))).setCell (p := ⟨bp, 1, none⟩) loO (.slice Ap1 np1 cp1)).setCell (p := ⟨bp, 2, none⟩) loO (.bool (sgnN 1))).setCell (p := ⟨bp, 3, none⟩) loO (.slice Ap2 np2 cp2))).trans (hu3.mono (by simp [World.setCell]; exact hwu.size))
     have r12 := ((((qO.set 0 (.bool (sgnN zc))).set 1 (.slice Ap1 np1 cp1)).set 2 (.bool (sgnN 1))).set 3 (.slice Ap2 np2 cp2)).below hu3
     have oN1 := NumO.below (((((oN.far (p := ⟨bp, 0, none⟩) e5 (.bool (sgnN zc))).far (p := ⟨bp, 1, none⟩) e5 (.slice Ap1 np1 cp1)).far (p := ⟨bp, 2, none⟩) e5 (.bool (sgnN 1))).far (p := ⟨bp, 3, none⟩) e5 (.slice Ap2 np2 cp2))) hu3
     have oM1 := NumO.below (((((oM.far (p := ⟨bp, 0, none⟩) e6 (.bool (sgnN zc))).far (p := ⟨bp, 1, none⟩) e6 (.slice Ap1 np1 cp1)).far (p := ⟨bp, 2, none⟩) e6 (.bool (sgnN 1))).far (p := ⟨bp, 3, none⟩) e6 (.slice Ap2 np2 cp2))) hu3
     have hk1 := (((((hkT.new (p := ⟨bp, 0, none⟩) loO (.bool (sgnN zc))).new (p := ⟨bp, 1, none⟩) loO (.slice Ap1 np1 cp1)).new (p := ⟨bp, 2, none⟩) loO (.bool (sgnN 1))).new (p := ⟨bp, 3, none⟩) loO (.slice Ap2 np2 cp2))).later hu3
     clear qO qOc qOf oN oM hkT hu3 hwu
     refine effc_mem (by rfl) (fun K hK => ?_)
     go_simp
     refine hK _ _ hk1 (fun up hu4 => ?_)
     clear hK K
     have r13 := r12.below hu4
     have oN2 := oN1.below hu4
     have oM2 := oM1.below hu4
     have HBp := hwu1.trans (hu4.mono hwu1.size)
     have hs4 := hu4.size
     have BXp : Hid (Own up bp #[.bool (sgnN zc), .slice Ap1 np1 cp1, .bool (sgnN 1), .slice Ap2 np2 cp2] ∧ RatX (fun x => x ≠ bp) up (sgnN zc) Ap1 np1 cp1 (sgnN 1) Ap2 np2 cp2 zc 1) := Lib.hid ⟨r13, ratX_of oN2 oM2 f1 f2 (by omega) (by omega) e5 e6 HSL.out.1 HSL.out.2⟩
     have LBp := loO
     clear hwu1 hk1 hu4 loM r12 r13 oN1 oM1 oN2 oM2 e5 e6 hs3 hs4 HSL loN hiN loO hiO hiM f1 f2
     refine effc_nil ?_
     (try simp only [Act.put, List.setIfInBounds_toArray, List.set_cons_zero, List.set_cons_succ])
     clear e1 e2 oS rkw
     have hbwp := hbw.trans (HBp.mono hwz)
     obtain ⟨csx, hoxT, hxz, hxc⟩ := HXS.out.below hbwp
     have hox := hoxT.own
     clear hoxT
     obtain ⟨t1, E1, m1, d1, t2, E2, m2, d2, x1, x2, x3, x4, hrx⟩ := hxc c (by have := HCI.out; omega) hcn
     have x1 := (hox.cell _).trans x1
     have x2 := (hox.cell _).trans x2
     have x3 := (hox.cell _).trans x3
     have x4 := (hox.cell _).trans x4
     rw [HPL.out.2.2.2.2.2.2.2.2] at hrx
     have HRC := Lib.hid hrx
     have hxl := hox.lt
     have hcnx : (c : Int) < (n : Int) := by omega
     have hpz := HBp.size
     have hob2 := hob.below HBp
     have HRX2 := Lib.hid (HRX.out.below HBp)
     have obp := BXp.out.1
     have HFm := Lib.hid (And.intro (HPL.out.2.2.1.2.1.fits) (And.intro (HPL.out.2.2.1.2.2.fits) (show ym ≠ 0 from good_ne HPL.out.2.2.1.1)))
     clear hox hxz hxc hrx hob HRX
     go_wp2
     refine region_gen (T := []) [.make 5 [] (ratB [] up.heap.size zm ym), .need 6 [5], .need 8 [], .make 9 [] (ownB [] #[.bool false, .slice none 0 0, .bool false, .slice none 0 0] (fun p => .pointer (some ⟨p, 0, none⟩)))] 10 0 40 (fun _ _ => True) (fun _ _ _ _ _ => trivial) trivial (by kernel_rfl) (by kernel_rfl) (by rfl) ?_
     unfold genWalk
     apply Exists.intro
     apply And.intro
     ·apply Piece.mk
      ·intro f v hv hr hne
       simp only [List.take_succ_cons, List.take_zero, List.drop_zero, Nat.reduceSub]
       have dp := fun y => (obp.later (v := v) (T := []) (by simp) y).cell
       have d1 := later_cell (T := []) (w := up) (v := v) hxl (by simp) x1
       have d2 := later_cell (T := []) (w := up) (v := v) hxl (by simp) x2
       have d3 := later_cell (T := []) (w := up) (v := v) hxl (by simp) x3
       have d4 := later_cell (T := []) (w := up) (v := v) hxl (by simp) x4
       repeat (go_big_quiet_step (fail))
       refine wpQuiet_nil ?_
       exact rfl
      ·intro f; kernel_rfl
      ·intro f f' hf; kernel_rfl
     simp only [List.take_succ_cons, List.take_zero, List.drop_succ_cons, List.drop_zero, Nat.reduceAdd, oneOp]
     refine ⟨fun f => ⟨rfl, fun u hu _ => ?_⟩, ?_⟩
     ·refine make_call (f := 50) (args := #[.agg #[.bool (sgnN zc), .slice Ap1 np1 cp1, .bool (sgnN 1), .slice Ap2 np2 cp2], .agg #[.bool t1, .slice E1 m1 d1, .bool t2, .slice E2 m2 d2]]) (by (try simp only [Act.put, List.setIfInBounds_toArray, List.set_cons_zero, List.set_cons_succ]); (try simp only [newB_val, numB_val, ownB_val, valB_val, ratB_val, numV, ratV]); go_simp) ?_
      have q := ratio_Mul (w := u) (a := zc) (b := 1) (c := px) (d := qx) (RatX.keeps BXp.out.2 hu).at_ (RatX.keeps HRC.out hu).at_ (good_one zc) HPL.out.2.2.2.1.1 (HPL.out.2.2.2.2.1.mul HPL.out.2.2.2.1.2.1) (Sm.one.mul HPL.out.2.2.2.1.2.2)
      have e9 : ofN (zc * px) (1 * qx) = zm ∧ ofD (zc * px) (1 * qx) = ym := ⟨congrArg Prod.fst HPL.out.2.2.2.2.2.2.1, congrArg Prod.snd HPL.out.2.2.2.2.2.2.1⟩
      rw [e9.1, e9.2] at q
      refine q.mono ?_
      rintro e wx ⟨⟨b1, b2, rfl, q1, q2, q3, q4, q5, q6⟩, hbx⟩
      exact ⟨(b1, b2), rfl, q3, q4, hbx, by simp, by simp, q1, q2, Nat.le_trans hu.1 q5, q6⟩
     unfold genWalk
     apply Exists.intro
     apply And.intro
     ·apply Piece.mk
      ·intro f v hv hr hne
       simp only [List.take_zero, List.drop_succ_cons, List.drop_zero, Nat.reduceSub]
       (try simp only [Act.put, List.setIfInBounds_toArray, List.set_cons_zero, List.set_cons_succ])
       (try simp only [ratB_val, ratV])
       repeat (go_big_quiet_step (fail))
       refine wpQuiet_nil ?_
       exact rfl
      ·intro f; kernel_rfl
      ·intro f f' hf; simp
     unfold genWalk
     apply Exists.intro
     apply And.intro
     ·apply Piece.mk
      ·intro f v hv hr hne
       simp only [List.take_succ_cons, List.take_zero, List.drop_succ_cons, List.drop_zero, Nat.reduceSub]
       (try simp only [Act.put, List.setIfInBounds_toArray, List.set_cons_zero, List.set_cons_succ])
       (try simp only [newB_val, numB_val, ownB_val, valB_val, ratB_val, numV, ratV])
       repeat (go_big_quiet_step (fail))
       refine wpQuiet_nil ?_
       exact rfl
      ·intro f; kernel_rfl
      ·intro f f' hf; first | (simp; done) | (simp [hf 5 (by simp)])
     unfold genWalk
     apply Exists.intro
     apply And.intro
     ·apply Piece.mk
      ·intro f v hv hr hne
       simp only [List.take_succ_cons, List.take_zero, List.drop_succ_cons, List.drop_zero, Nat.reduceSub]
       (try simp only [Act.put, List.setIfInBounds_toArray, List.set_cons_zero, List.set_cons_succ])
       (try simp only [newB_val, numB_val, ownB_val, valB_val, ratB_val, numV, ratV])
       repeat (go_big_quiet_step (fail))
       refine wpQuiet_nil ?_
       exact rfl
      ·intro f; kernel_rfl
      ·intro f f' hf; simp
     simp only [List.take_succ_cons, List.take_zero, List.drop_succ_cons, List.drop_zero, Nat.reduceAdd, oneOp]
     refine ⟨fun f => ⟨rfl, fun u hu _ => ?_⟩, ?_⟩
     ·refine make_own (e := 37) (by (try simp only [Act.put, List.setIfInBounds_toArray, List.set_cons_zero, List.set_cons_succ]); (try simp only [newB_val, numB_val, ownB_val, valB_val, ratB_val, numV, ratV]); go_simp) (by simp)
     unfold genWalk
     apply Exists.intro
     apply And.intro
     ·apply Piece.mk
      ·intro f v hv hr hne
       simp only [List.take_zero, List.drop_succ_cons, List.drop_zero, Nat.reduceSub]
       (try simp only [Act.put, List.setIfInBounds_toArray, List.set_cons_zero, List.set_cons_succ])
       (try simp only [ownB_val])
       repeat (go_big_quiet_step (fail))
       refine wpQuiet_nil ?_
       exact rfl
      ·intro f; kernel_rfl
      ·intro f f' hf; simp
     intro f u' hup hph hmade hdist
     obtain ⟨⟨-, -, oN, oM, loM, hiM⟩, loN, hiN⟩ := hmade 5 (by omega) rfl
     obtain ⟨⟨-, qO⟩, loO, hiO⟩ := hmade 9 (by omega) rfl
     have e5 := hdist 5 9 (by omega) (by omega) rfl rfl (by omega)
     replace oN : NumO u' (f 5).1 zm := oN
     replace oM : NumO u' (f 5).2 ym := oM
     replace hiM : (f 5).2 < u'.heap.size := hiM
     replace loM : up.heap.size ≤ (f 5).2 := loM
     replace qO : Own u' (f 9).1 #[.bool false, .slice none 0 0, .bool false, .slice none 0 0] := qO
     clear hmade hdist hph
     simp only
     (try simp only [Act.put, List.setIfInBounds_toArray, List.set_cons_zero, List.set_cons_succ])
     (try simp only [newB_val, numB_val, ownB_val, valB_val, ratB_val, numV, ratV])
     generalize (f 5).1 = b1 at *
     generalize (f 5).2 = b2 at *
     generalize (f 9).1 = bm at *
     clear f
     have e6 : b2 ≠ bm := digs_ne (oM HFm.out.2.1 HFm.out.2.2) qO HFm.out.2.2
     have f1 := HFm.out.1
     have f2 := HFm.out.2.1
     obtain ⟨Am1, nm1, cm1, hs1⟩ := slN_form zm b1
     obtain ⟨Am2, nm2, cm2, hs2⟩ := slN_form ym b2
     rw [hs1, hs2]
     have HSL := Lib.hid (And.intro hs1 hs2)
     clear hs1 hs2
     have hwu : Below up.heap.size up u' := Upd.below (Below.refl _ _) hup (by simp)
     have hkT := Upd.keeps (Keeps.refl _ _) hup
     have qOc := qO.cell
     have qOf := qO.thaw
     clear hup
     refine effc_mem (by rfl) (fun K hK => ?_)
     go_simp
     refine hK _ _ (((((hkT.new (p := ⟨bm, 0, none⟩) loO (.bool (sgnN zm))).new (p := ⟨bm, 1, none⟩) loO (.slice Am1 nm1 cm1)).new (p := ⟨bm, 2, none⟩) loO (.bool (sgnN ym))).new (p := ⟨bm, 3, none⟩) loO (.slice Am2 nm2 cm2))) (fun u3 hu3 => ?_)
     clear hK K
     have hs3 := hu3.size
     simp [World.setCell] at hs3
     have hwu1 := (((((hwu.setCell (p := ⟨bm, 0, none⟩) loO (.bool (sgnN zm))).setCell (p := ⟨bm, 1, none⟩) loO (.slice Am1 nm1 cm1)).setCell (p := ⟨bm, 2, none⟩) loO (.bool (sgnN ym))).setCell (p := ⟨bm, 3, none⟩) loO (.slice Am2 nm2 cm2))).trans (hu3.mono (by simp [World.setCell]; exact hwu.size))
     have r12 := ((((qO.set 0 (.bool (sgnN zm))).set 1 (.slice Am1 nm1 cm1)).set 2 (.bool (sgnN ym))).set 3 (.slice Am2 nm2 cm2)).below hu3
     have oN1 := NumO.below (((((oN.far (p := ⟨bm, 0, none⟩) e5 (.bool (sgnN zm))).far (p := ⟨bm, 1, none⟩) e5 (.slice Am1 nm1 cm1)).far (p := ⟨bm, 2, none⟩) e5 (.bool (sgnN ym))).far (p := ⟨bm, 3, none⟩) e5 (.slice Am2 nm2 cm2))) hu3
     have oM1 := NumO.below (((((oM.far (p := ⟨bm, 0, none⟩) e6 (.bool (sgnN zm))).far (p := ⟨bm, 1, none⟩) e6 (.slice Am1 nm1 cm1)).far (p := ⟨bm, 2, none⟩) e6 (.bool (sgnN ym))).far (p := ⟨bm, 3, none⟩) e6 (.slice Am2 nm2 cm2))) hu3
     have hk1 := (((((hkT.new (p := ⟨bm, 0, none⟩) loO (.bool (sgnN zm))).new (p := ⟨bm, 1, none⟩) loO (.slice Am1 nm1 cm1)).new (p := ⟨bm, 2, none⟩) loO (.bool (sgnN ym))).new (p := ⟨bm, 3, none⟩) loO (.slice Am2 nm2 cm2))).later hu3
     clear qO qOc qOf oN oM hkT hu3 hwu
     refine effc_mem (by rfl) (fun K hK => ?_)
     go_simp
     refine hK _ _ hk1 (fun um hu4 => ?_)
     clear hK K
     have r13 := r12.below hu4
     have oN2 := oN1.below hu4
     have oM2 := oM1.below hu4
     have HBm := hwu1.trans (hu4.mono hwu1.size)
     have hs4 := hu4.size
     have BXm : Hid (Own um bm #[.bool (sgnN zm), .slice Am1 nm1 cm1, .bool (sgnN ym), .slice Am2 nm2 cm2] ∧ RatX (fun x => x ≠ bm) um (sgnN zm) Am1 nm1 cm1 (sgnN ym) Am2 nm2 cm2 zm ym) := Lib.hid ⟨r13, ratX_of oN2 oM2 f1 f2 (by omega) (by omega) e5 e6 HSL.out.1 HSL.out.2⟩
     have LBm := loO
     clear hwu1 hk1 hu4 loM r12 r13 oN1 oM1 oN2 oM2 e5 e6 hs3 hs4 HSL loN hiN loO hiO hiM f1 f2
     refine effc_nil ?_
     (try simp only [Act.put, List.setIfInBounds_toArray, List.set_cons_zero, List.set_cons_succ])
     clear x1 x2 x3 x4 obp
     have ob3 := hob2.below HBm
     have HRX3 := Lib.hid (HRX2.out.below HBm)
     have hbwm := hbwp.trans (HBm.mono hbwp.size)
     have hmz := HBm.size
     have obm := BXm.out.1
     have ob3c := ob3.cell
     have obmc := obm.cell
     clear hob2 HRX2
     go_wp2_with fail
     have q := ratio_Sub (w := um) (a := ps) (b := qs) (c := zm) (d := ym) HRX3.out.at_ BXm.out.2.at_ HPL.out.1.1 HPL.out.2.2.1.1 (HPL.out.1.2.1.mul HPL.out.2.2.1.2.2) (HPL.out.2.2.1.2.1.neg.mul HPL.out.1.2.2) (sm_sum HPL.out.1.2.1 HPL.out.2.2.1.2.2 HPL.out.2.2.1.2.1.neg HPL.out.1.2.2) (HPL.out.1.2.2.mul HPL.out.2.2.1.2.2)
     have e9 : ofN (ps * ym + -zm * qs) (qs * ym) = zn ∧ ofD (ps * ym + -zm * qs) (qs * ym) = yn := ⟨congrArg Prod.fst HPL.out.2.2.2.2.2.2.2.1, congrArg Prod.snd HPL.out.2.2.2.2.2.2.2.1⟩
     rw [e9.1, e9.2] at q
     refine Calls.mono q ?_
     clear q e9
     rintro e u9 ⟨⟨y1, y2, rfl, oN, oM, l1, l2, l3, l4⟩, hb9⟩
     obtain ⟨A7, n7, c7, hs7⟩ := slN_form zn y1
     obtain ⟨A8, n8, c8, hs8⟩ := slN_form yn y2
     simp only [ratV]
     rw [hs7, hs8]
     have hbam : ba < um.heap.size := by omega
     have hrx9 : RatX (fun y => y ≠ ba) u9 (sgnN zn) A7 n7 c7 (sgnN yn) A8 n8 c8 zn yn := ratX_of oN oM HPL.out.2.1.2.1.fits HPL.out.2.1.2.2.fits l2 l4 (by omega) (by omega) hs7 hs8
     have ob9 := ob3.below hb9
     have hbw9 := hbwm.trans (hb9.mono hbwm.size)
     have h9z := hb9.size
     have HR9 := Lib.hid hrx9
     have ob9c := ob9.cell
     have ob9f := ob9.thaw
     have ob9l := ob9.lt
     clear hrx9 hs7 hs8 oN oM l1 l2 l3 l4 hb9 ob3 ob3c obmc obm BXm BXp HRX3
     go_wp2
     go_roundw
     case rel =>
      refine ⟨i + 1, by omega, by have := HCI.out; go_num, (((hbw9.setCell (p := ⟨ba, 0, none⟩) (by simp; omega) _).setCell (p := ⟨ba, 1, none⟩) (by simp; omega) _).setCell (p := ⟨ba, 2, none⟩) (by simp; omega) _).setCell (p := ⟨ba, 3, none⟩) (by simp; omega) _, by simp [World.setCell]; omega, ?_⟩
      rw [HPL.out.2.2.2.2.2.1]
      exact BoxR.store ob9 HR9.out
     case measure => simp [intOf]; omega
    ·have hie : i = n - 1 - k := by omega
     have hcn : ¬ ((k + 1 + i : Nat) : Int) < (n : Int) := by omega
     obtain ⟨sE, BE, mE, cE, e1', e2', e3', NE⟩ := HC.out k (by omega)
     have e1 := (World.cell?_of_block (w := wq) (a := ⟨bb, off + k * 2, none⟩) (hbw.block bb hbb)).trans e1'
     have e2 := (World.cell?_of_block (w := wq) (a := ⟨bb, off + k * 2 + 1, none⟩) (hbw.block bb hbb)).trans e2'
     have HNEl := Lib.hid (NE.below hbw)
     obtain ⟨zk, hzk⟩ : ∃ z, zAt R k = z := ⟨_, rfl⟩
     rw [hzk] at HNEl
     have hsum := HQ.out.2.2.2.1 i hi
     have hxk := HQ.out.1
     have hlead := HQ.out.2.1
     have hel := HQ.out.2.2.1.2 k hkn
     have hval := HQ.out.2.2.2.2.2 k hkn
     rw [← hie, hzk] at hxk
     rw [hzk] at hlead hel
     obtain ⟨⟨ps, qs⟩, hps⟩ : ∃ a, sumQ R x k last i = a := ⟨_, rfl⟩
     rw [hps] at hsum hxk HRX
     obtain ⟨⟨zn, yn⟩, hnn⟩ : ∃ a, divQ (ps, qs) (zk, 1) = a := ⟨_, rfl⟩
     rw [hnn] at hxk
     rw [hxk] at hval
     have HPL := Lib.hid (And.intro hsum (And.intro hval (And.intro hlead (And.intro hel (And.intro hxk hnn)))))
     have hkw : (k : Int) < (wd : Int) := by omega
     have hkn2 : (k : Int) < (n : Int) := by omega
     clear hsum hxk hlead hel hval hps hnn hzk NE e1' e2' e3' hie
     go_wp2
     have HFl := Lib.hid (And.intro (NumAt.fits HNEl.out) (And.intro (show fits 1 = true from fits_small (by omega)) (show (1 : Int) ≠ 0 by omega)))
     refine region_gen (T := []) [.make 10 [] (valB [] 1), .make 11 [10] (ratB [] wr.heap.size zk 1), .need 12 [11], .need 14 [], .make 15 [] (ownB [] #[.bool false, .slice none 0 0, .bool false, .slice none 0 0] (fun p => .pointer (some ⟨p, 0, none⟩)))] 16 0 40 (fun _ _ => True) (fun _ _ _ _ _ => trivial) trivial (by kernel_rfl) (by kernel_rfl) (by rfl) ?_
     unfold genWalk
     apply Exists.intro
     apply And.intro
     ·apply Piece.mk
      ·intro f v hv hr hne
       simp only [List.take_succ_cons, List.take_zero, List.drop_zero, Nat.reduceSub]
       have d1 := fun y => (oS.later (v := v) (T := []) (by simp) y).cell
       have d2 := later_cell (T := []) (w := wr) (v := v) hgw (by simp) rkw
       have d3 := later_cell (T := []) (w := wr) (v := v) hbbw (by simp) e1
       have d4 := later_cell (T := []) (w := wr) (v := v) hbbw (by simp) e2
       repeat (go_big_quiet_step (fail))
       refine wpQuiet_nil ?_
       exact rfl
      ·intro f; kernel_rfl
      ·intro f f' hf; kernel_rfl
     simp only [List.take_succ_cons, List.take_zero, List.drop_succ_cons, List.drop_zero, Nat.reduceAdd, oneOp]
     refine ⟨fun f => ⟨rfl, fun u hu _ => ?_⟩, ?_⟩
     ·refine make_call (f := 21) (args := #[.int .i64 1]) (by (try simp only [Act.put, List.setIfInBounds_toArray, List.set_cons_zero, List.set_cons_succ]); (try simp only [newB_val, numB_val, ownB_val, valB_val, ratB_val, numV, ratV]); go_simp) ?_
      have q := of_val (w := u) 1 (by omega) (by omega)
      refine q.mono ?_
      rintro e wx ⟨⟨b, rfl, q1, q2, q3⟩, hbx⟩
      exact ⟨(b, 0), rfl, q2, q3, hbx, (by simp), q1⟩
     unfold genWalk
     apply Exists.intro
     apply And.intro
     ·apply Piece.mk
      ·intro f v hv hr hne
       simp only [List.take_zero, List.drop_succ_cons, List.drop_zero, Nat.reduceSub]
       (try simp only [Act.put, List.setIfInBounds_toArray, List.set_cons_zero, List.set_cons_succ])
       (try simp only [valB_val, numV])
       have d1 := fun y => (oS.later (v := v) (T := []) (by simp) y).cell
       have d2 := later_cell (T := []) (w := wr) (v := v) hgw (by simp) rkw
       have d3 := later_cell (T := []) (w := wr) (v := v) hbbw (by simp) e1
       have d4 := later_cell (T := []) (w := wr) (v := v) hbbw (by simp) e2
       repeat (go_big_quiet_step (fail))
       refine wpQuiet_nil ?_
       exact rfl
      ·intro f; kernel_rfl
      ·intro f f' hf; simp
     simp only [List.take_succ_cons, List.take_zero, List.drop_succ_cons, List.drop_zero, Nat.reduceAdd, oneOp]
     refine ⟨fun f => ⟨rfl, fun u hu hm => ?_⟩, ?_⟩
     ·refine make_call (f := 22) (args := #[.agg #[.bool sE, .slice BE mE cE], .agg #[.bool (sgnN 1), slN 1 (f 10).1]]) (by (try simp only [Act.put, List.setIfInBounds_toArray, List.set_cons_zero, List.set_cons_succ]); (try simp only [newB_val, numB_val, ownB_val, valB_val, ratB_val, numV, ratV]); go_simp) ?_
      have e1 : NumO u (f 10).1 1 := (show (valB [] 1).R (f 10) u from hm 10 (by simp)).2
      have q := ratio_Of (w := u) (NumAt.keeps HNEl.out hu) (e1.at_ HFl.out.2.1) HFl.out.2.2
      rw [ofN_one, ofD_one] at q
      refine q.mono ?_
      rintro e wx ⟨⟨b1, b2, rfl, q1, q2, q3, q4, q5, q6⟩, hbx⟩
      exact ⟨(b1, b2), rfl, q3, q4, hbx, by simp, by simp, q1, q2, Nat.le_trans hu.1 q5, q6⟩
     unfold genWalk
     apply Exists.intro
     apply And.intro
     ·apply Piece.mk
      ·intro f v hv hr hne
       simp only [List.take_zero, List.drop_succ_cons, List.drop_zero, Nat.reduceSub]
       (try simp only [Act.put, List.setIfInBounds_toArray, List.set_cons_zero, List.set_cons_succ])
       (try simp only [ratB_val, ratV])
       repeat (go_big_quiet_step (fail))
       refine wpQuiet_nil ?_
       exact rfl
      ·intro f; kernel_rfl
      ·intro f f' hf; simp
     unfold genWalk
     apply Exists.intro
     apply And.intro
     ·apply Piece.mk
      ·intro f v hv hr hne
       simp only [List.take_succ_cons, List.take_zero, List.drop_succ_cons, List.drop_zero, Nat.reduceSub]
       (try simp only [Act.put, List.setIfInBounds_toArray, List.set_cons_zero, List.set_cons_succ])
       (try simp only [newB_val, numB_val, ownB_val, valB_val, ratB_val, numV, ratV])
       repeat (go_big_quiet_step (fail))
       refine wpQuiet_nil ?_
       exact rfl
      ·intro f; kernel_rfl
      ·intro f f' hf; first | (simp; done) | (simp [hf 11 (by simp)])
     unfold genWalk
     apply Exists.intro
     apply And.intro
     ·apply Piece.mk
      ·intro f v hv hr hne
       simp only [List.take_succ_cons, List.take_zero, List.drop_succ_cons, List.drop_zero, Nat.reduceSub]
       (try simp only [Act.put, List.setIfInBounds_toArray, List.set_cons_zero, List.set_cons_succ])
       (try simp only [newB_val, numB_val, ownB_val, valB_val, ratB_val, numV, ratV])
       repeat (go_big_quiet_step (fail))
       refine wpQuiet_nil ?_
       exact rfl
      ·intro f; kernel_rfl
      ·intro f f' hf; simp
     simp only [List.take_succ_cons, List.take_zero, List.drop_succ_cons, List.drop_zero, Nat.reduceAdd, oneOp]
     refine ⟨fun f => ⟨rfl, fun u hu _ => ?_⟩, ?_⟩
     ·refine make_own (e := 37) (by (try simp only [Act.put, List.setIfInBounds_toArray, List.set_cons_zero, List.set_cons_succ]); (try simp only [newB_val, numB_val, ownB_val, valB_val, ratB_val, numV, ratV]); go_simp) (by simp)
     unfold genWalk
     apply Exists.intro
     apply And.intro
     ·apply Piece.mk
      ·intro f v hv hr hne
       simp only [List.take_zero, List.drop_succ_cons, List.drop_zero, Nat.reduceSub]
       (try simp only [Act.put, List.setIfInBounds_toArray, List.set_cons_zero, List.set_cons_succ])
       (try simp only [ownB_val])
       repeat (go_big_quiet_step (fail))
       refine wpQuiet_nil ?_
       exact rfl
      ·intro f; kernel_rfl
      ·intro f f' hf; simp
     intro f u' hup hph hmade hdist
     obtain ⟨⟨-, -, oN, oM, loM, hiM⟩, loN, hiN⟩ := hmade 11 (by omega) rfl
     obtain ⟨⟨-, qO⟩, loO, hiO⟩ := hmade 15 (by omega) rfl
     have e5 := hdist 11 15 (by omega) (by omega) rfl rfl (by omega)
     replace oN : NumO u' (f 11).1 zk := oN
     replace oM : NumO u' (f 11).2 1 := oM
     replace hiM : (f 11).2 < u'.heap.size := hiM
     replace loM : wr.heap.size ≤ (f 11).2 := loM
     replace qO : Own u' (f 15).1 #[.bool false, .slice none 0 0, .bool false, .slice none 0 0] := qO
     clear hmade hdist hph
     simp only
     (try simp only [Act.put, List.setIfInBounds_toArray, List.set_cons_zero, List.set_cons_succ])
     (try simp only [newB_val, numB_val, ownB_val, valB_val, ratB_val, numV, ratV])
     generalize (f 11).1 = b1 at *
     generalize (f 11).2 = b2 at *
     generalize (f 15).1 = bl at *
     generalize (f 10).1 = bp10 at *
     clear f
     have e6 : b2 ≠ bl := digs_ne (oM HFl.out.2.1 HFl.out.2.2) qO HFl.out.2.2
     have f1 := HFl.out.1
     have f2 := HFl.out.2.1
     obtain ⟨Al1, nl1, cl1, hs1⟩ := slN_form zk b1
     obtain ⟨Al2, nl2, cl2, hs2⟩ := slN_form 1 b2
     rw [hs1, hs2]
     have HSL := Lib.hid (And.intro hs1 hs2)
     clear hs1 hs2
     have hwu : Below wr.heap.size wr u' := Upd.below (Below.refl _ _) hup (by simp)
     have hkT := Upd.keeps (Keeps.refl _ _) hup
     have qOc := qO.cell
     have qOf := qO.thaw
     clear hup
     refine effc_mem (by rfl) (fun K hK => ?_)
     go_simp
     refine hK _ _ (((((hkT.new (p := ⟨bl, 0, none⟩) loO (.bool (sgnN zk))).new (p := ⟨bl, 1, none⟩) loO (.slice Al1 nl1 cl1)).new (p := ⟨bl, 2, none⟩) loO (.bool (sgnN 1))).new (p := ⟨bl, 3, none⟩) loO (.slice Al2 nl2 cl2))) (fun u3 hu3 => ?_)
     clear hK K
     have hs3 := hu3.size
     simp [World.setCell] at hs3
     have hwu1 := (((((hwu.setCell (p := ⟨bl, 0, none⟩) loO (.bool (sgnN zk))).setCell (p := ⟨bl, 1, none⟩) loO (.slice Al1 nl1 cl1)).setCell (p := ⟨bl, 2, none⟩) loO (.bool (sgnN 1))).setCell (p := ⟨bl, 3, none⟩) loO (.slice Al2 nl2 cl2))).trans (hu3.mono (by simp [World.setCell]; exact hwu.size))
     have r12 := ((((qO.set 0 (.bool (sgnN zk))).set 1 (.slice Al1 nl1 cl1)).set 2 (.bool (sgnN 1))).set 3 (.slice Al2 nl2 cl2)).below hu3
     have oN1 := NumO.below (((((oN.far (p := ⟨bl, 0, none⟩) e5 (.bool (sgnN zk))).far (p := ⟨bl, 1, none⟩) e5 (.slice Al1 nl1 cl1)).far (p := ⟨bl, 2, none⟩) e5 (.bool (sgnN 1))).far (p := ⟨bl, 3, none⟩) e5 (.slice Al2 nl2 cl2))) hu3
     have oM1 := NumO.below (((((oM.far (p := ⟨bl, 0, none⟩) e6 (.bool (sgnN zk))).far (p := ⟨bl, 1, none⟩) e6 (.slice Al1 nl1 cl1)).far (p := ⟨bl, 2, none⟩) e6 (.bool (sgnN 1))).far (p := ⟨bl, 3, none⟩) e6 (.slice Al2 nl2 cl2))) hu3
     have hk1 := (((((hkT.new (p := ⟨bl, 0, none⟩) loO (.bool (sgnN zk))).new (p := ⟨bl, 1, none⟩) loO (.slice Al1 nl1 cl1)).new (p := ⟨bl, 2, none⟩) loO (.bool (sgnN 1))).new (p := ⟨bl, 3, none⟩) loO (.slice Al2 nl2 cl2))).later hu3
     clear qO qOc qOf oN oM hkT hu3 hwu
     refine effc_mem (by rfl) (fun K hK => ?_)
     go_simp
     refine hK _ _ hk1 (fun ul hu4 => ?_)
     clear hK K
     have r13 := r12.below hu4
     have oN2 := oN1.below hu4
     have oM2 := oM1.below hu4
     have HBl := hwu1.trans (hu4.mono hwu1.size)
     have hs4 := hu4.size
     have BXl : Hid (Own ul bl #[.bool (sgnN zk), .slice Al1 nl1 cl1, .bool (sgnN 1), .slice Al2 nl2 cl2] ∧ RatX (fun x => x ≠ bl) ul (sgnN zk) Al1 nl1 cl1 (sgnN 1) Al2 nl2 cl2 zk 1) := Lib.hid ⟨r13, ratX_of oN2 oM2 f1 f2 (by omega) (by omega) e5 e6 HSL.out.1 HSL.out.2⟩
     have LBl := loO
     clear hwu1 hk1 hu4 loM r12 r13 oN1 oM1 oN2 oM2 e5 e6 hs3 hs4 HSL loN hiN loO hiO hiM f1 f2
     refine effc_nil ?_
     (try simp only [Act.put, List.setIfInBounds_toArray, List.set_cons_zero, List.set_cons_succ])
     clear e1 e2 oS rkw
     have hbwl := hbw.trans (HBl.mono hwz)
     have hob2 := hob.below HBl
     have HRX2 := Lib.hid (HRX.out.below HBl)
     have obl := BXl.out.1
     have hlz := HBl.size
     have hob2c := hob2.cell
     have oblc := obl.cell
     clear hob HRX
     go_wp2_with fail
     have q := ratio_Div (w := ul) (a := ps) (b := qs) (c := zk) (d := 1) HRX2.out.at_ BXl.out.2.at_ HPL.out.1.1 (good_one zk) HPL.out.2.2.1 (HPL.out.1.2.1.mul Sm.one) (HPL.out.1.2.2.mul HPL.out.2.2.2.1)
     have e9 : ofN (ps * 1) (qs * zk) = zn ∧ ofD (ps * 1) (qs * zk) = yn := ⟨congrArg Prod.fst HPL.out.2.2.2.2.2, congrArg Prod.snd HPL.out.2.2.2.2.2⟩
     rw [e9.1, e9.2] at q
     refine Calls.mono q ?_
     clear q e9
     rintro e u9 ⟨⟨y1, y2, rfl, oN, oM, l1, l2, l3, l4⟩, hb9⟩
     obtain ⟨A7, n7, c7, hs7⟩ := slN_form zn y1
     obtain ⟨A8, n8, c8, hs8⟩ := slN_form yn y2
     simp only [ratV]
     rw [hs7, hs8]
     have hbw9 := hbwl.trans (hb9.mono hbwl.size)
     have h9z := hb9.size
     have hxs9 := HXS.out.below hbw9
     have hrx9 : RatX (fun y => y ≠ w.heap.size) u9 (sgnN zn) A7 n7 c7 (sgnN yn) A8 n8 c8 (x k).1 (x k).2 := by
      rw [HPL.out.2.2.2.2.1]
      exact ratX_of oN oM HPL.out.2.1.2.1.fits HPL.out.2.1.2.2.fits l2 l4 (by omega) (by omega) hs7 hs8
     have hput := hxs9.put hkn hrx9
     obtain ⟨csx, hoxT, hxz, -⟩ := hxs9
     have hox := hoxT.own
     clear hoxT
     have g0 : ∀ m, m < 4 → ∃ v, u9.cell? ⟨w.heap.size, k * 4 + m, none⟩ = some v := fun m hm => ⟨_, (hox.cell _).trans (Array.getElem?_eq_getElem (by omega))⟩
     obtain ⟨v0, p0⟩ := g0 0 (by omega)
     obtain ⟨v1, p1⟩ := g0 1 (by omega)
     obtain ⟨v2, p2⟩ := g0 2 (by omega)
     obtain ⟨v3, p3⟩ := g0 3 (by omega)
     rw [Nat.add_zero] at p0
     have pf := hox.thaw
     have hxl := hox.lt
     have HPUT := Lib.hid hput
     have hbel8 := Lib.hid (hbel.trans (hbw9.mono hkb))
     clear hput hrx9 hs7 hs8 oN oM l1 l2 l3 l4 hb9 hob2 hob2c oblc obl BXl HRX2 hox hxz g0
     go_wp2
     go_roundw
     case rel =>
      refine ⟨k, by omega, by first | rfl | go_num, (((hbel8.out.setCell (p := ⟨w.heap.size, k * 4, none⟩) (by simp) _).setCell (p := ⟨w.heap.size, k * 4 + 1, none⟩) (by simp) _).setCell (p := ⟨w.heap.size, k * 4 + 2, none⟩) (by simp) _).setCell (p := ⟨w.heap.size, k * 4 + 3, none⟩) (by simp) _, by simp [World.setCell]; omega, HPUT.out⟩
     case measure => first | (simp [intOf]; done) | (simp [intOf]; omega)
end Go.Proofs.YtflgngjocgiojaaGreat
