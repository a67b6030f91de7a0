/- Matrix: Times, where all is good and small. -/
import Derived.Test.YtflgngjocgiojaaGreatKernC
import Derived.Test.YtflgngjocgiojaaGreatRankC
import Derived.Test.YtflgngjocgiojaaGreatRefI
namespace Go.Proofs.YtflgngjocgiojaaGreat

/-- At every stage the number of rows that lead is the least number of factors of the columns so far. -/
theorem fact_stage {L0 : List (List Int)} {wd c : Nat} (hw : Wide L0 wd) (hc : c ≤ wd) : Fact (rowF L0) L0.length c (runB ⟨L0, 1, 0⟩ c).a ∧ ∀ r, Fact (rowF L0) L0.length c r → (runB ⟨L0, 1, 0⟩ c).a ≤ r := by
 obtain ⟨π, cs, hI⟩ := InvB.run hw c hc
 obtain ⟨a, ha⟩ : ∃ a, (runB ⟨L0, 1, 0⟩ c).a = a := ⟨_, rfl⟩
 have hale := hI.a_le
 have hnz := hI.nz
 have hcol := hI.col
 have hlow := hI.low
 rw [ha] at hale hnz hcol hlow
 rw [ha]
 refine ⟨?_, fun r hr => hr.least (π := π) (cs := cs) (fun i hi => hI.perm i (by omega)) hcol hnz⟩
 have key : ∀ y, ∃ cf : Nat → Int, y < L0.length → ∀ j, j < c → minD a (fun i => rowF L0 (π i)) cs * rowF L0 y j = sumF (fun t => cf t * rowF L0 (π t) j) a := fun y => by
  by_cases hy : y < L0.length
  ·obtain ⟨i, hi, rfl⟩ := hI.sur y hy
   by_cases h1 : i < a
   ·refine ⟨fun t => if t = i then minD a (fun i => rowF L0 (π i)) cs else 0, fun _ j _ => ?_⟩
    have e : sumF (fun t => (if t = i then minD a (fun i => rowF L0 (π i)) cs else 0) * rowF L0 (π t) j) a = sumF (fun t => if t = i then minD a (fun i => rowF L0 (π i)) cs * rowF L0 (π t) j else 0) a := sumF_eq fun t _ => by
     by_cases e2 : t = i
     ·rw [if_pos e2, if_pos e2]
     ·rw [if_neg e2, if_neg e2, Int.zero_mul]
    rw [e, sumF_one (fun t => minD a (fun i => rowF L0 (π i)) cs * rowF L0 (π t) j) h1]
   ·obtain ⟨γ, hγ⟩ := minV_comb a (fun i => rowF L0 (π i)) cs (rowF L0 (π i))
    refine ⟨fun t => -γ t, fun _ j hj => ?_⟩
    have h2 := hlow i (by omega) hi j (by omega)
    have h3 := hI.zero i (by rw [ha]; omega) hi j hj
    rw [h3, hγ j] at h2
    have h4 : sumF (fun t => -γ t * rowF L0 (π t) j) a = -sumF (fun t => γ t * rowF L0 (π t) j) a := by
     rw [← sumF_neg]
     exact sumF_eq fun t _ => by grind
    rw [h4]
    omega
  ·exact ⟨fun _ => 0, fun h => absurd h hy⟩
 exact ⟨minD a (fun i => rowF L0 (π i)) cs, fun y => Classical.choose (key y), fun t => rowF L0 (π t), hnz a (Nat.le_refl _), fun y hy j hj => Classical.choose_spec (key y) hy j hj⟩
/-- A vector of the kernel, as the chapter asks for. -/
structure KerZ (M : List (List Int)) (Z : List Int) (f : Nat) : Prop where
 len : Z.length = cols M
 lt : f < cols M
 pos : 0 < iAt Z f
 zero : ∀ k, f < k → k < cols M → iAt Z k = 0
 prim : ∀ g : Nat, (∀ i, i < cols M → g ∣ (iAt Z i).natAbs) → g = 1
 rows : ∀ y, y < M.length → sumF (fun c => iAt (rAt M y) c * iAt Z c) (cols M) = 0
 small : ∀ k, (iAt Z k).natAbs < 2 ^ 650
end Go.Proofs.YtflgngjocgiojaaGreat
namespace Go.Proofs.YtflgngjocgiojaaGreat
open Go.RowKit

theorem ratX_zero {X : Nat → Prop} {W : World} : RatX X W false none 0 0 false none 0 0 0 0 := ⟨fun b off e => (by cases e), fun b off e => (by cases e), num_zero _, num_zero _⟩
theorem rats_zero {w : World} (n : Nat) : RatsO (w.alloc (.cells (ratCells n) 37)) w.heap.size (fun _ => (0, 0)) 0 n := by
 refine ⟨_, OwnT.new, ratCells_size n, fun i _ hi => ⟨false, none, 0, 0, false, none, 0, 0, ?_, ?_, ?_, ?_, ratX_zero⟩⟩
 ·rw [Array.getElem?_eq_getElem (by rw [ratCells_size]; omega)]
  unfold ratCells madeCells
  simp [Value.cells]
 ·rw [Array.getElem?_eq_getElem (by rw [ratCells_size]; omega)]
  unfold ratCells madeCells
  simp [Value.cells, show (i * 4 + 1) % 4 = 1 by omega]
 ·rw [Array.getElem?_eq_getElem (by rw [ratCells_size]; omega)]
  unfold ratCells madeCells
  simp [Value.cells, show (i * 4 + 2) % 4 = 2 by omega]
 ·rw [Array.getElem?_eq_getElem (by rw [ratCells_size]; omega)]
  unfold ratCells madeCells
  simp [Value.cells, show (i * 4 + 3) % 4 = 3 by omega]
theorem anyF_no {p : Nat → Bool} {n : Nat} (h : ∀ k, k < n → p k = false) : anyF p n = false := by
 induction n with
 | zero => rfl
 | succ n ih => rw [anyF, ih (fun k hk => h k (by omega)), h n (by omega)]; rfl
set_option maxRecDepth 100000 in
set_option maxHeartbeats 8000000 in
theorem matrix_Times_ok {w : World} {A Ax : Option Addr} {n m : Nat} {M : List (List Int)} {x : Nat → QI} (c cx : Nat) (h : RowsAt w A n M) (hx : RatsA w Ax m x) (hm : cols M = m) (hok : matCheck M = 0) (hT : TimesQ M x m) :
  Calls Tryz.prog 16 #[.slice A n c, .slice Ax m cx] w fun e w' => (∃ b, e = .returned (.tuple #[.slice (some ⟨b, 0, none⟩) n n, .bool true]) ∧ w.heap.size ≤ b ∧ RatsO w' b (fun k => sumT (rAt M k) x m) 0 n) ∧ Below w.heap.size w w' := by
 have hl := h.len
 have q := matrix_check c h
 rw [hok] at q
 have hO := matCheck_ok hok
 rw [hl, hm] at hO
 have hn48 := hO.1
 have hm8 := hO.2.1
 have H := Lib.hid h
 have HX := Lib.hid hx
 have HT := Lib.hid hT
 have HO := Lib.hid hO
 have HL := Lib.hid (And.intro hl hm)
 have Q := Lib.hid q
 have hmk := fun w => make_rats n (by omega) w
 obtain ⟨E, hc, hr⟩ := h.pick
 have HE := Lib.hid (And.intro hc hr)
 have hni : (n : Int) ≤ 48 := by omega
 have hmi : (m : Int) ≤ 8 := by omega
 clear h hx hT hO hl hm q hok hc hr
 go_enter Tryz.func16, Tryz.ntmps16
 go_wp2_with fail
 refine Calls.mono Q.out ?_
 rintro e w1 ⟨rfl, hb1⟩
 have HB1 := Lib.hid hb1
 have hz1 := hb1.size
 have qc := matrix_columns c (H.out.below hb1)
 rw [HL.out.2] at qc
 have QC := Lib.hid qc
 clear hb1 qc
 go_wp2_with fail
 refine Calls.mono QC.out ?_
 rintro e w2 ⟨rfl, hb2⟩
 have HB2 := Lib.hid (HB1.out.trans (hb2.mono hz1))
 have hz2 := HB2.out.size
 have qb := contains_bad (p := fun i => !goodQ (x i).1 (x i).2) cx (HX.out.below HB2.out) (fun _ _ => rfl) (by omega)
 rw [anyF_no (fun i hi => by rw [(HT.out.val i hi).1]; rfl)] at qb
 have QB := Lib.hid qb
 clear hb2 qb
 go_wp2_with fail
 refine Calls.mono QB.out ?_
 rintro e w3 ⟨rfl, hb3⟩
 have hB3 := HB2.out.trans (hb3.mono hz2)
 have hz3 := hB3.size
 have hW := hB3.alloc hz3 (.cells (ratCells n) 37)
 have hx0 : RatsO (w3.alloc (.cells (ratCells n) 37)) w3.heap.size (fun _ => (0, 0)) 0 n := rats_zero n
 have hsz : (w3.alloc (.cells (ratCells n) 37)).heap.size = w3.heap.size + 1 := by simp
 clear hb3
 go_wp2
 obtain ⟨bx, hbx⟩ : ∃ b, w3.heap.size = b := ⟨_, rfl⟩
 rw [hbx] at hx0 hsz hz3 ⊢
 generalize (w3.alloc (.cells (ratCells n) 37)) = W0 at *
 have HX0 := Lib.hid hx0
 clear hmk hx0 hbx
 go_loopw [36] (fun i wr => ∃ k : Nat, k ≤ n ∧ i = .int .i64 k ∧ Below w.heap.size w wr ∧ bx < wr.heap.size ∧ RatsO wr bx (fun i => if i < k then sumT (rAt M i) x m else (0, 0)) 0 n) (fun i _ => n - (intOf i).toNat)
 case atStart => exact ⟨0, by omega, rfl, hW, by omega, by simpa using HX0.out⟩
 case round =>
  clear HX0 hW hsz
  obtain ⟨k, hk, rfl, hbel, hbl, hxs⟩ := hrel
  have hkb := hbel.size
  have HXS := Lib.hid hxs
  clear hxs
  by_cases hlt : k < n
  ·have hlt2 : (k : Int) < (n : Int) := by omega
   obtain ⟨b, off, rfl, hbb, hcell⟩ := HE.out.1 (by omega)
   replace hcell := (World.cell?_of_block (w := w) (a := ⟨b, off + k, none⟩) (hbel.block b hbb)).trans (hcell k hlt)
   obtain ⟨-, -, hI⟩ := HE.out.2 k hlt
   obtain ⟨e, he⟩ : ∃ e, E k = e := ⟨_, rfl⟩
   rw [he] at hcell hI
   obtain ⟨Ar, nr, cr⟩ := e
   simp only at hcell hI
   have hnr : nr = m := by rw [← hI.len]; exact HO.out.2.2.1 k hlt
   subst hnr
   have HI := Lib.hid hI
   have hpt := HT.out.part k (by rw [HL.out.1]; exact hlt)
   have hst := HT.out.sum k (by rw [HL.out.1]; exact hlt)
   obtain ⟨R, hR⟩ : ∃ R, rAt M k = R := ⟨_, rfl⟩
   rw [hR] at HI hpt hst
   have HP := Lib.hid (And.intro hpt (And.intro hst hR))
   have hxf : ∀ i, wr.frozen? ⟨bx, i, none⟩ = false := by obtain ⟨cs, ho, _⟩ := HXS.out; exact ho.own.thaw
   clear hI he hpt hst hR hxf
   go_wp2_with fail
   refine Calls.mono (ratio_Int (w := wr) 0 (by omega) (by omega)) ?_
   rintro e u1 ⟨⟨b1, b2, rfl, oA, oB, l1, l2, l3, l4⟩, hba⟩
   obtain ⟨A7, n7, c7, hs7⟩ := slN_form 0 b1
   obtain ⟨A8, n8, c8, hs8⟩ := slN_form 1 b2
   simp only [ratV]
   rw [hs7, hs8]
   have hrx : RatX (fun y => y ≠ bx) u1 (sgnN 0) A7 n7 c7 (sgnN 1) A8 n8 c8 0 1 := ratX_of oA oB (fits_small (by omega)) (fits_small (by omega)) l2 l4 (by omega) (by omega) hs7 hs8
   have hput := RatsO.put2 (y := fun i => if i = k then sumT R x 0 else if i < k then sumT (rAt M i) x nr else (0, 0)) (HXS.out.below hba) hlt (by simp only [if_pos]; exact hrx) (fun i hi hne => by simp only [if_neg hne])
   obtain ⟨csx, hoxT, hxz, -⟩ := HXS.out.below hba
   have hox := hoxT.own
   have g0 : ∀ m, m < 4 → ∃ v, u1.cell? ⟨bx, k * 4 + m, none⟩ = some v := fun m hm => ⟨_, (hox.cell _).trans (Array.getElem?_eq_getElem (by omega))⟩
   obtain ⟨v0, p0⟩ := g0 0 (by omega)
   obtain ⟨v1, p1⟩ := g0 1 (by omega)
   obtain ⟨v2, p2⟩ := g0 2 (by omega)
   obtain ⟨v3, p3⟩ := g0 3 (by omega)
   rw [Nat.add_zero] at p0
   have pf := hox.thaw
   have hz1u := hba.size
   have HPUT := Lib.hid hput
   have hbu := hbel.trans (hba.mono hkb)
   have HB := Lib.hid ((((hbu.setCell (p := ⟨bx, k * 4, none⟩) hz3 (.bool (sgnN 0))).setCell (p := ⟨bx, k * 4 + 1, none⟩) hz3 (.slice A7 n7 c7)).setCell (p := ⟨bx, k * 4 + 2, none⟩) hz3 (.bool (sgnN 1))).setCell (p := ⟨bx, k * 4 + 3, none⟩) hz3 (.slice A8 n8 c8))
   have hblu : bx < ((((u1.setCell ⟨bx, k * 4, none⟩ (.bool (sgnN 0))).setCell ⟨bx, k * 4 + 1, none⟩ (.slice A7 n7 c7)).setCell ⟨bx, k * 4 + 2, none⟩ (.bool (sgnN 1))).setCell ⟨bx, k * 4 + 3, none⟩ (.slice A8 n8 c8)).heap.size := by simp [World.setCell]; omega
   have hlen4 : (n : Int) = (n : Int) := rfl
   clear hput hrx hs7 hs8 oA oB l1 l2 l3 l4 hba hox hoxT hxz g0 hbu hlen4
   go_wp2
   generalize ((((u1.setCell ⟨bx, k * 4, none⟩ (.bool (sgnN 0))).setCell ⟨bx, k * 4 + 1, none⟩ (.slice A7 n7 c7)).setCell ⟨bx, k * 4 + 2, none⟩ (.bool (sgnN 1))).setCell ⟨bx, k * 4 + 3, none⟩ (.slice A8 n8 c8)) = wq at *
   clear hcell p0 p1 p2 p3 pf
   go_loopw [47] (fun i wi => ∃ j : Nat, j ≤ nr ∧ i = .int .i64 j ∧ Below w.heap.size w wi ∧ bx < wi.heap.size ∧ RatsO wi bx (fun i => if i = k then sumT R x j else if i < k then sumT (rAt M i) x nr else (0, 0)) 0 n) (fun i _ => nr - (intOf i).toNat)
   case atStart => exact ⟨0, by omega, rfl, HB.out, hblu, HPUT.out⟩
   case round =>
    clear HPUT HB hblu
    obtain ⟨j, hj, rfl, hbw, hbl3, hxj⟩ := hrel
    have hwz := hbw.size
    have HXJ := Lib.hid hxj
    clear hxj
    by_cases hjt : j < nr
    ·skip
     have hjti : (j : Int) < (nr : Int) := by omega
     have hbwz := hbw
     obtain ⟨br, offr, rfl, hbr, hcr⟩ := (HI.out.below hbw).row (by omega)
     replace hcr := hcr j hjt
     have hio := HI.out.ok j (by rw [HI.out.len]; exact hjt)
     obtain ⟨bX, offX, rfl, hbX, hcX⟩ := (HX.out.below hbw) (by omega)
     obtain ⟨t1, E1, m1, d1, t2, E2, m2, d2, x1, x2, x3, x4, NA, ND⟩ := hcX j hjt
     have HNX := Lib.hid (And.intro NA ND)
     have hsum := HP.out.2.1 j hj
     have hsum2 := HP.out.2.1 (j + 1) (by omega)
     have hpart := HP.out.1 j hjt
     have hval := HT.out.val j hjt
     have hnx : sumT R x (j + 1) = addQ (sumT R x j) (mulQ (iAt R j, 1) (x j)) := rfl
     rw [hnx] at hsum2
     obtain ⟨zi, hzi⟩ : ∃ z, iAt R j = z := ⟨_, rfl⟩
     rw [hzi] at hcr hio hpart hsum2 hnx
     obtain ⟨⟨ps, qs⟩, hps⟩ : ∃ a, sumT R x j = a := ⟨_, rfl⟩
     obtain ⟨⟨px, qx⟩, hpx⟩ : ∃ a, x j = a := ⟨_, rfl⟩
     rw [hps] at hsum hsum2 hnx
     rw [hpx] at hpart hval hsum2 hnx HNX
     obtain ⟨⟨zm, ym⟩, hmm⟩ : ∃ a, mulQ (zi, 1) (px, qx) = a := ⟨_, rfl⟩
     rw [hmm] at hpart hsum2 hnx
     obtain ⟨⟨zn, yn⟩, hnn⟩ : ∃ a, addQ (ps, qs) (zm, ym) = a := ⟨_, rfl⟩
     rw [hnn] at hsum2 hnx
     have HPL := Lib.hid (And.intro hsum (And.intro hsum2 (And.intro hpart (And.intro hval (And.intro (sm_i64 hio.1 hio.2) (And.intro hnx (And.intro hmm (And.intro hnn (And.intro hps hio)))))))))
     have HFm := Lib.hid (And.intro (hpart.2.1.fits) (And.intro (hpart.2.2.fits) (good_ne hpart.1)))
     have HFs := Lib.hid (And.intro (hsum2.2.1.fits) (And.intro (hsum2.2.2.fits) (good_ne hsum2.1)))
     clear hcX NA ND hsum hsum2 hpart hval hnx hzi hps hpx hmm hnn hio
     go_wp2
     refine region_gen (T := []) [.make 1 [] (ratVB [] wr.heap.size zi 1), .make 6 [1] (ratB [] wr.heap.size zm ym), .need 7 [6], .need 9 [], .make 10 [] (ownB [] #[.bool false, .slice none 0 0, .bool false, .slice none 0 0] (fun p => .pointer (some ⟨p, 0, none⟩)))] 11 0 40 (fun _ _ => True) (fun _ _ _ _ _ => trivial) trivial (by kernel_rfl) (by kernel_rfl) (by rfl) ?_
     unfold genWalk
     apply Exists.intro
     apply And.intro
     ·apply Piece.mk
      ·intro f v hv hr hne
       simp only [List.take_succ_cons, List.take_zero, List.drop_zero, Nat.reduceSub]
       have d1 := later_cell (T := []) (w := wr) (v := v) hbX (by simp) x1
       have d2 := later_cell (T := []) (w := wr) (v := v) hbX (by simp) x2
       have d3 := later_cell (T := []) (w := wr) (v := v) hbX (by simp) x3
       have d4 := later_cell (T := []) (w := wr) (v := v) hbX (by simp) x4
       repeat (go_big_quiet_step (fail))
       refine wpQuiet_nil ?_
       exact rfl
      ·intro f; kernel_rfl
      ·intro f f' hf; kernel_rfl
     simp only [List.take_succ_cons, List.take_zero, List.drop_succ_cons, List.drop_zero, Nat.reduceAdd, oneOp]
     refine ⟨fun f => ⟨rfl, fun u hu _ => ?_⟩, ?_⟩
     ·refine make_call (f := 49) (args := #[.int .i64 zi]) (by (try simp only [Act.put, List.setIfInBounds_toArray, List.set_cons_zero, List.set_cons_succ]); (try simp only [newB_val, numB_val, ownB_val, valB_val, ratB_val, ratVB_val, numV, ratV]); go_simp) ?_
      have q := ratio_Int (w := u) zi HPL.out.2.2.2.2.2.2.2.2.2.1 HPL.out.2.2.2.2.2.2.2.2.2.2
      refine q.mono ?_
      rintro e wx ⟨⟨b1, b2, rfl, q1, q2, q3, q4, q5, q6⟩, hbx⟩
      exact ⟨(b1, b2), rfl, q3, q4, hbx, by simp, by simp, q1, q2, Nat.le_trans hu.1 q5, q6⟩
     unfold genWalk
     apply Exists.intro
     apply And.intro
     ·apply Piece.mk
      ·intro f v hv hr hne
       simp only [List.take_succ_cons, List.take_zero, List.drop_succ_cons, List.drop_zero, Nat.reduceSub]
       (try simp only [Act.put, List.setIfInBounds_toArray, List.set_cons_zero, List.set_cons_succ])
       (try simp only [ratVB_val, ratV])
       have d1 := later_cell (T := []) (w := wr) (v := v) hbX (by simp) x1
       have d2 := later_cell (T := []) (w := wr) (v := v) hbX (by simp) x2
       have d3 := later_cell (T := []) (w := wr) (v := v) hbX (by simp) x3
       have d4 := later_cell (T := []) (w := wr) (v := v) hbX (by simp) x4
       repeat (go_big_quiet_step (fail))
       refine wpQuiet_nil ?_
       exact rfl
      ·intro f; kernel_rfl
      ·intro f f' hf; simp
     simp only [List.take_succ_cons, List.take_zero, List.drop_succ_cons, List.drop_zero, Nat.reduceAdd, oneOp]
     refine ⟨fun f => ⟨rfl, fun u hu hm => ?_⟩, ?_⟩
     ·refine make_call (f := 50) (args := #[.agg #[.bool (sgnN zi), slN zi (f 1).1, .bool (sgnN 1), slN 1 (f 1).2], .agg #[.bool t1, .slice E1 m1 d1, .bool t2, .slice E2 m2 d2]]) (by (try simp only [Act.put, List.setIfInBounds_toArray, List.set_cons_zero, List.set_cons_succ]); (try simp only [newB_val, numB_val, ownB_val, valB_val, ratB_val, ratVB_val, numV, ratV]); go_simp) ?_
      have e1 : NumO u (f 1).1 zi ∧ NumO u (f 1).2 1 := (show (ratVB [] wr.heap.size zi 1).R (f 1) u from hm 1 (by simp)).2.2.imp id fun h => h.1
      have q := ratio_Mul (w := u) (a := zi) (b := 1) (c := px) (d := qx) (ratAt_of e1.1 e1.2 HPL.out.2.2.2.2.1.fits (fits_small (by omega))) ⟨_, _, _, _, _, _, _, _, rfl, NumAt.keeps HNX.out.1 hu, NumAt.keeps HNX.out.2 hu⟩ (good_one zi) HPL.out.2.2.2.1.1 (HPL.out.2.2.2.2.1.mul HPL.out.2.2.2.1.2.1) (Sm.one.mul HPL.out.2.2.2.1.2.2)
      have e9 : ofN (zi * px) (1 * qx) = zm ∧ ofD (zi * px) (1 * qx) = ym := ⟨congrArg Prod.fst HPL.out.2.2.2.2.2.2.1, congrArg Prod.snd HPL.out.2.2.2.2.2.2.1⟩
      rw [e9.1, e9.2] at q
      refine q.mono ?_
      rintro e wx ⟨⟨b1, b2, rfl, q1, q2, q3, q4, q5, q6⟩, hbx⟩
      exact ⟨(b1, b2), rfl, q3, q4, hbx, by simp, by simp, q1, q2, Nat.le_trans hu.1 q5, q6⟩
     unfold genWalk
     apply Exists.intro
     apply And.intro
     ·apply Piece.mk
      ·intro f v hv hr hne
       simp only [List.take_zero, List.drop_succ_cons, List.drop_zero, Nat.reduceSub]
       (try simp only [Act.put, List.setIfInBounds_toArray, List.set_cons_zero, List.set_cons_succ])
       (try simp only [ratB_val, ratV])
       repeat (go_big_quiet_step (fail))
       refine wpQuiet_nil ?_
       exact rfl
      ·intro f; kernel_rfl
      ·intro f f' hf; simp
     unfold genWalk
     apply Exists.intro
     apply And.intro
     ·apply Piece.mk
      ·intro f v hv hr hne
       simp only [List.take_succ_cons, List.take_zero, List.drop_succ_cons, List.drop_zero, Nat.reduceSub]
       (try simp only [Act.put, List.setIfInBounds_toArray, List.set_cons_zero, List.set_cons_succ])
       (try simp only [newB_val, numB_val, ownB_val, valB_val, ratB_val, ratVB_val, numV, ratV])
       repeat (go_big_quiet_step (fail))
       refine wpQuiet_nil ?_
       exact rfl
      ·intro f; kernel_rfl
      ·intro f f' hf; first | (simp; done) | (simp [hf 6 (by simp)])
     unfold genWalk
     apply Exists.intro
     apply And.intro
     ·apply Piece.mk
      ·intro f v hv hr hne
       simp only [List.take_succ_cons, List.take_zero, List.drop_succ_cons, List.drop_zero, Nat.reduceSub]
       (try simp only [Act.put, List.setIfInBounds_toArray, List.set_cons_zero, List.set_cons_succ])
       (try simp only [newB_val, numB_val, ownB_val, valB_val, ratB_val, ratVB_val, numV, ratV])
       repeat (go_big_quiet_step (fail))
       refine wpQuiet_nil ?_
       exact rfl
      ·intro f; kernel_rfl
      ·intro f f' hf; simp
     simp only [List.take_succ_cons, List.take_zero, List.drop_succ_cons, List.drop_zero, Nat.reduceAdd, oneOp]
     refine ⟨fun f => ⟨rfl, fun u hu _ => ?_⟩, ?_⟩
     ·refine make_own (e := 37) (by (try simp only [Act.put, List.setIfInBounds_toArray, List.set_cons_zero, List.set_cons_succ]); (try simp only [newB_val, numB_val, ownB_val, valB_val, ratB_val, ratVB_val, numV, ratV]); go_simp) (by simp)
     unfold genWalk
     apply Exists.intro
     apply And.intro
     ·apply Piece.mk
      ·intro f v hv hr hne
       simp only [List.take_zero, List.drop_succ_cons, List.drop_zero, Nat.reduceSub]
       (try simp only [Act.put, List.setIfInBounds_toArray, List.set_cons_zero, List.set_cons_succ])
       (try simp only [ownB_val])
       repeat (go_big_quiet_step (fail))
       refine wpQuiet_nil ?_
       exact rfl
      ·intro f; kernel_rfl
      ·intro f f' hf; simp
     intro f u' hup hph hmade hdist
     obtain ⟨⟨-, -, oN, oM, loM, hiM⟩, loN, hiN⟩ := hmade 6 (by omega) rfl
     obtain ⟨⟨-, qO⟩, loO, hiO⟩ := hmade 10 (by omega) rfl
     have e5 := hdist 6 10 (by omega) (by omega) rfl rfl (by omega)
     replace oN : NumO u' (f 6).1 zm := oN
     replace oM : NumO u' (f 6).2 ym := oM
     replace hiM : (f 6).2 < u'.heap.size := hiM
     replace loM : wr.heap.size ≤ (f 6).2 := loM
     replace qO : Own u' (f 10).1 #[.bool false, .slice none 0 0, .bool false, .slice none 0 0] := qO
     clear hmade hdist hph
     simp only
     (try simp only [Act.put, List.setIfInBounds_toArray, List.set_cons_zero, List.set_cons_succ])
     (try simp only [newB_val, numB_val, ownB_val, valB_val, ratB_val, ratVB_val, numV, ratV])
     generalize (f 6).1 = b1 at *
     generalize (f 6).2 = b2 at *
     generalize (f 10).1 = bm at *
     generalize (f 1).1 = bp1 at *
     generalize (f 1).2 = bq1 at *
     clear f
     have e6 : b2 ≠ bm := digs_ne (oM HFm.out.2.1 HFm.out.2.2) qO HFm.out.2.2
     have f1 := HFm.out.1
     have f2 := HFm.out.2.1
     obtain ⟨Am1, nm1, cm1, hs1⟩ := slN_form zm b1
     obtain ⟨Am2, nm2, cm2, hs2⟩ := slN_form ym b2
     rw [hs1, hs2]
     have HSL := Lib.hid (And.intro hs1 hs2)
     clear hs1 hs2
     have hwu : Below wr.heap.size wr u' := Upd.below (Below.refl _ _) hup (by simp)
     have hkT := Upd.keeps (Keeps.refl _ _) hup
     have qOc := qO.cell
     have qOf := qO.thaw
     clear hup
     refine effc_mem (by rfl) (fun K hK => ?_)
     go_simp
     refine hK _ _ (((((hkT.new (p := ⟨bm, 0, none⟩) loO (.bool (sgnN zm))).new (p := ⟨bm, 1, none⟩) loO (.slice Am1 nm1 cm1)).new (p := ⟨bm, 2, none⟩) loO (.bool (sgnN ym))).new (p := ⟨bm, 3, none⟩) loO (.slice Am2 nm2 cm2))) (fun u3 hu3 => ?_)
     clear hK K
     have hs3 := hu3.size
     simp [World.setCell] at hs3
     have hwu1 := (((((hwu.setCell (p := ⟨bm, 0, none⟩) loO (.bool (sgnN zm))).setCell (p := ⟨bm, 1, none⟩) loO (.slice Am1 nm1 cm1)).setCell (p := ⟨bm, 2, none⟩) loO (.bool (sgnN ym))).setCell (p := ⟨bm, 3, none⟩) loO (.slice Am2 nm2 cm2))).trans (hu3.mono (by simp [World.setCell]; exact hwu.size))
     have r12 := ((((qO.set 0 (.bool (sgnN zm))).set 1 (.slice Am1 nm1 cm1)).set 2 (.bool (sgnN ym))).set 3 (.slice Am2 nm2 cm2)).below hu3
     have oN1 := NumO.below (((((oN.far (p := ⟨bm, 0, none⟩) e5 (.bool (sgnN zm))).far (p := ⟨bm, 1, none⟩) e5 (.slice Am1 nm1 cm1)).far (p := ⟨bm, 2, none⟩) e5 (.bool (sgnN ym))).far (p := ⟨bm, 3, none⟩) e5 (.slice Am2 nm2 cm2))) hu3
     have oM1 := NumO.below (((((oM.far (p := ⟨bm, 0, none⟩) e6 (.bool (sgnN zm))).far (p := ⟨bm, 1, none⟩) e6 (.slice Am1 nm1 cm1)).far (p := ⟨bm, 2, none⟩) e6 (.bool (sgnN ym))).far (p := ⟨bm, 3, none⟩) e6 (.slice Am2 nm2 cm2))) hu3
     have hk1 := (((((hkT.new (p := ⟨bm, 0, none⟩) loO (.bool (sgnN zm))).new (p := ⟨bm, 1, none⟩) loO (.slice Am1 nm1 cm1)).new (p := ⟨bm, 2, none⟩) loO (.bool (sgnN ym))).new (p := ⟨bm, 3, none⟩) loO (.slice Am2 nm2 cm2))).later hu3
     clear qO qOc qOf oN oM hkT hu3 hwu
     refine effc_mem (by rfl) (fun K hK => ?_)
     go_simp
     refine hK _ _ hk1 (fun um hu4 => ?_)
     clear hK K
     have r13 := r12.below hu4
     have oN2 := oN1.below hu4
     have oM2 := oM1.below hu4
     have HBm := hwu1.trans (hu4.mono hwu1.size)
     have hs4 := hu4.size
     have BXm : Hid (Own um bm #[.bool (sgnN zm), .slice Am1 nm1 cm1, .bool (sgnN ym), .slice Am2 nm2 cm2] ∧ RatX (fun x => x ≠ bm) um (sgnN zm) Am1 nm1 cm1 (sgnN ym) Am2 nm2 cm2 zm ym) := Lib.hid ⟨r13, ratX_of oN2 oM2 f1 f2 (by omega) (by omega) e5 e6 HSL.out.1 HSL.out.2⟩
     have LBm := loO
     clear hwu1 hk1 hu4 loM r12 r13 oN1 oM1 oN2 oM2 e5 e6 hs3 hs4 HSL loN hiN loO hiO hiM f1 f2
     refine effc_nil ?_
     (try simp only [Act.put, List.setIfInBounds_toArray, List.set_cons_zero, List.set_cons_succ])
     clear x1 x2 x3 x4 hcr
     have hbwm := hbw.trans (HBm.mono hwz)
     have hmz := HBm.size
     have HXM := Lib.hid (HXJ.out.below HBm)
     obtain ⟨csx, hoxT, hxz, hxc⟩ := HXM.out
     obtain ⟨t3, E3, m3, d3, t4, E4, m4, d4, x1, x2, x3, x4, hrx⟩ := hxc k (by omega) hlt
     have hox := hoxT.own
     have x1 := (hox.cell _).trans x1
     have x2 := (hox.cell _).trans x2
     have x3 := (hox.cell _).trans x3
     have x4 := (hox.cell _).trans x4
     simp only [if_true] at hrx
     rw [HPL.out.2.2.2.2.2.2.2.2.1] at hrx
     have HRX := Lib.hid hrx
     have hxl := hox.lt
     have obm := BXm.out.1
     clear hoxT hxz hxc hrx hox
     go_wp2
     refine region_gen (T := []) [.make 5 [] (ratB [] um.heap.size zn yn), .need 6 [5], .need 8 [], .make 9 [] (ownB [] #[.bool false, .slice none 0 0, .bool false, .slice none 0 0] (fun p => .pointer (some ⟨p, 0, none⟩)))] 10 0 40 (fun _ _ => True) (fun _ _ _ _ _ => trivial) trivial (by kernel_rfl) (by kernel_rfl) (by rfl) ?_
     unfold genWalk
     apply Exists.intro
     apply And.intro
     ·apply Piece.mk
      ·intro f v hv hr hne
       simp only [List.take_succ_cons, List.take_zero, List.drop_zero, Nat.reduceSub]
       have dp := fun y => (obm.later (v := v) (T := []) (by simp) y).cell
       have d1 := later_cell (T := []) (w := um) (v := v) hxl (by simp) x1
       have d2 := later_cell (T := []) (w := um) (v := v) hxl (by simp) x2
       have d3 := later_cell (T := []) (w := um) (v := v) hxl (by simp) x3
       have d4 := later_cell (T := []) (w := um) (v := v) hxl (by simp) x4
       repeat (go_big_quiet_step (fail))
       refine wpQuiet_nil ?_
       exact rfl
      ·intro f; kernel_rfl
      ·intro f f' hf; kernel_rfl
     simp only [List.take_succ_cons, List.take_zero, List.drop_succ_cons, List.drop_zero, Nat.reduceAdd, oneOp]
     refine ⟨fun f => ⟨rfl, fun u hu _ => ?_⟩, ?_⟩
     ·refine make_call (f := 28) (args := #[.agg #[.bool t3, .slice E3 m3 d3, .bool t4, .slice E4 m4 d4], .agg #[.bool (sgnN zm), .slice Am1 nm1 cm1, .bool (sgnN ym), .slice Am2 nm2 cm2]]) (by (try simp only [Act.put, List.setIfInBounds_toArray, List.set_cons_zero, List.set_cons_succ]); (try simp only [newB_val, numB_val, ownB_val, valB_val, ratB_val, ratVB_val, numV, ratV]); go_simp) ?_
      have q := ratio_Add (w := u) (a := ps) (b := qs) (c := zm) (d := ym) (RatX.keeps HRX.out hu).at_ (RatX.keeps BXm.out.2 hu).at_ HPL.out.1.1 HPL.out.2.2.1.1 (HPL.out.1.2.1.mul HPL.out.2.2.1.2.2) (HPL.out.2.2.1.2.1.mul HPL.out.1.2.2) (sm_sum HPL.out.1.2.1 HPL.out.2.2.1.2.2 HPL.out.2.2.1.2.1 HPL.out.1.2.2) (HPL.out.1.2.2.mul HPL.out.2.2.1.2.2)
      have e9 : ofN (ps * ym + zm * qs) (qs * ym) = zn ∧ ofD (ps * ym + zm * qs) (qs * ym) = yn := ⟨congrArg Prod.fst HPL.out.2.2.2.2.2.2.2.1, congrArg Prod.snd HPL.out.2.2.2.2.2.2.2.1⟩
      rw [e9.1, e9.2] at q
      refine q.mono ?_
      rintro e wx ⟨⟨b1, b2, rfl, q1, q2, q3, q4, q5, q6⟩, hbx⟩
      exact ⟨(b1, b2), rfl, q3, q4, hbx, by simp, by simp, q1, q2, Nat.le_trans hu.1 q5, q6⟩
     unfold genWalk
     apply Exists.intro
     apply And.intro
     ·apply Piece.mk
      ·intro f v hv hr hne
       simp only [List.take_zero, List.drop_succ_cons, List.drop_zero, Nat.reduceSub]
       (try simp only [Act.put, List.setIfInBounds_toArray, List.set_cons_zero, List.set_cons_succ])
       (try simp only [ratB_val, ratV])
       repeat (go_big_quiet_step (fail))
       refine wpQuiet_nil ?_
       exact rfl
      ·intro f; kernel_rfl
      ·intro f f' hf; simp
     unfold genWalk
     apply Exists.intro
     apply And.intro
     ·apply Piece.mk
      ·intro f v hv hr hne
       simp only [List.take_succ_cons, List.take_zero, List.drop_succ_cons, List.drop_zero, Nat.reduceSub]
       (try simp only [Act.put, List.setIfInBounds_toArray, List.set_cons_zero, List.set_cons_succ])
       (try simp only [newB_val, numB_val, ownB_val, valB_val, ratB_val, ratVB_val, numV, ratV])
       repeat (go_big_quiet_step (fail))
       refine wpQuiet_nil ?_
       exact rfl
      ·intro f; kernel_rfl
      ·intro f f' hf; first | (simp; done) | (simp [hf 5 (by simp)])
     unfold genWalk
     apply Exists.intro
     apply And.intro
     ·apply Piece.mk
      ·intro f v hv hr hne
       simp only [List.take_succ_cons, List.take_zero, List.drop_succ_cons, List.drop_zero, Nat.reduceSub]
       (try simp only [Act.put, List.setIfInBounds_toArray, List.set_cons_zero, List.set_cons_succ])
       (try simp only [newB_val, numB_val, ownB_val, valB_val, ratB_val, ratVB_val, numV, ratV])
       repeat (go_big_quiet_step (fail))
       refine wpQuiet_nil ?_
       exact rfl
      ·intro f; kernel_rfl
      ·intro f f' hf; simp
     simp only [List.take_succ_cons, List.take_zero, List.drop_succ_cons, List.drop_zero, Nat.reduceAdd, oneOp]
     refine ⟨fun f => ⟨rfl, fun u hu _ => ?_⟩, ?_⟩
     ·refine make_own (e := 37) (by (try simp only [Act.put, List.setIfInBounds_toArray, List.set_cons_zero, List.set_cons_succ]); (try simp only [newB_val, numB_val, ownB_val, valB_val, ratB_val, ratVB_val, numV, ratV]); go_simp) (by simp)
     unfold genWalk
     apply Exists.intro
     apply And.intro
     ·apply Piece.mk
      ·intro f v hv hr hne
       simp only [List.take_zero, List.drop_succ_cons, List.drop_zero, Nat.reduceSub]
       (try simp only [Act.put, List.setIfInBounds_toArray, List.set_cons_zero, List.set_cons_succ])
       (try simp only [ownB_val])
       repeat (go_big_quiet_step (fail))
       refine wpQuiet_nil ?_
       exact rfl
      ·intro f; kernel_rfl
      ·intro f f' hf; simp
     intro f u' hup hph hmade hdist
     obtain ⟨⟨-, -, oN, oM, loM, hiM⟩, loN, hiN⟩ := hmade 5 (by omega) rfl
     obtain ⟨⟨-, qO⟩, loO, hiO⟩ := hmade 9 (by omega) rfl
     have e5 := hdist 5 9 (by omega) (by omega) rfl rfl (by omega)
     replace oN : NumO u' (f 5).1 zn := oN
     replace oM : NumO u' (f 5).2 yn := oM
     replace hiM : (f 5).2 < u'.heap.size := hiM
     replace loM : um.heap.size ≤ (f 5).2 := loM
     replace qO : Own u' (f 9).1 #[.bool false, .slice none 0 0, .bool false, .slice none 0 0] := qO
     clear hmade hdist hph
     simp only
     (try simp only [Act.put, List.setIfInBounds_toArray, List.set_cons_zero, List.set_cons_succ])
     (try simp only [newB_val, numB_val, ownB_val, valB_val, ratB_val, ratVB_val, numV, ratV])
     generalize (f 5).1 = b1 at *
     generalize (f 5).2 = b2 at *
     generalize (f 9).1 = bs at *
     clear f
     have e6 : b2 ≠ bs := digs_ne (oM HFs.out.2.1 HFs.out.2.2) qO HFs.out.2.2
     have f1 := HFs.out.1
     have f2 := HFs.out.2.1
     obtain ⟨As1, ns1, cs1, hs1⟩ := slN_form zn b1
     obtain ⟨As2, ns2, cs2, hs2⟩ := slN_form yn b2
     rw [hs1, hs2]
     have HSL := Lib.hid (And.intro hs1 hs2)
     clear hs1 hs2
     have hwu : Below um.heap.size um u' := Upd.below (Below.refl _ _) hup (by simp)
     have hkT := Upd.keeps (Keeps.refl _ _) hup
     have qOc := qO.cell
     have qOf := qO.thaw
     clear hup
     refine effc_mem (by rfl) (fun K hK => ?_)
     go_simp
     refine hK _ _ (((((hkT.new (p := ⟨bs, 0, none⟩) loO (.bool (sgnN zn))).new (p := ⟨bs, 1, none⟩) loO (.slice As1 ns1 cs1)).new (p := ⟨bs, 2, none⟩) loO (.bool (sgnN yn))).new (p := ⟨bs, 3, none⟩) loO (.slice As2 ns2 cs2))) (fun u3 hu3 => ?_)
     clear hK K
     have hs3 := hu3.size
     simp [World.setCell] at hs3
     have hwu1 := (((((hwu.setCell (p := ⟨bs, 0, none⟩) loO (.bool (sgnN zn))).setCell (p := ⟨bs, 1, none⟩) loO (.slice As1 ns1 cs1)).setCell (p := ⟨bs, 2, none⟩) loO (.bool (sgnN yn))).setCell (p := ⟨bs, 3, none⟩) loO (.slice As2 ns2 cs2))).trans (hu3.mono (by simp [World.setCell]; exact hwu.size))
     have r12 := ((((qO.set 0 (.bool (sgnN zn))).set 1 (.slice As1 ns1 cs1)).set 2 (.bool (sgnN yn))).set 3 (.slice As2 ns2 cs2)).below hu3
     have oN1 := NumO.below (((((oN.far (p := ⟨bs, 0, none⟩) e5 (.bool (sgnN zn))).far (p := ⟨bs, 1, none⟩) e5 (.slice As1 ns1 cs1)).far (p := ⟨bs, 2, none⟩) e5 (.bool (sgnN yn))).far (p := ⟨bs, 3, none⟩) e5 (.slice As2 ns2 cs2))) hu3
     have oM1 := NumO.below (((((oM.far (p := ⟨bs, 0, none⟩) e6 (.bool (sgnN zn))).far (p := ⟨bs, 1, none⟩) e6 (.slice As1 ns1 cs1)).far (p := ⟨bs, 2, none⟩) e6 (.bool (sgnN yn))).far (p := ⟨bs, 3, none⟩) e6 (.slice As2 ns2 cs2))) hu3
     have hk1 := (((((hkT.new (p := ⟨bs, 0, none⟩) loO (.bool (sgnN zn))).new (p := ⟨bs, 1, none⟩) loO (.slice As1 ns1 cs1)).new (p := ⟨bs, 2, none⟩) loO (.bool (sgnN yn))).new (p := ⟨bs, 3, none⟩) loO (.slice As2 ns2 cs2))).later hu3
     clear qO qOc qOf oN oM hkT hu3 hwu
     refine effc_mem (by rfl) (fun K hK => ?_)
     go_simp
     refine hK _ _ hk1 (fun us hu4 => ?_)
     clear hK K
     have r13 := r12.below hu4
     have oN2 := oN1.below hu4
     have oM2 := oM1.below hu4
     have HBs := hwu1.trans (hu4.mono hwu1.size)
     have hs4 := hu4.size
     have BXs : Hid (Own us bs #[.bool (sgnN zn), .slice As1 ns1 cs1, .bool (sgnN yn), .slice As2 ns2 cs2] ∧ RatX (fun x => x ≠ bs) us (sgnN zn) As1 ns1 cs1 (sgnN yn) As2 ns2 cs2 zn yn) := Lib.hid ⟨r13, ratX_of oN2 oM2 f1 f2 (by omega) (by omega) e5 e6 HSL.out.1 HSL.out.2⟩
     have LBs := loO
     have HRS : Hid (RatX (fun x => x ≠ bx) us (sgnN zn) As1 ns1 cs1 (sgnN yn) As2 ns2 cs2 zn yn) := Lib.hid (ratX_of oN2 oM2 f1 f2 (by omega) (by omega) (by omega) (by omega) HSL.out.1 HSL.out.2)
     clear hwu1 hk1 hu4 loM r12 r13 oN1 oM1 oN2 oM2 e5 e6 hs3 hs4 HSL loN hiN loO hiO hiM f1 f2
     refine effc_nil ?_
     (try simp only [Act.put, List.setIfInBounds_toArray, List.set_cons_zero, List.set_cons_succ])
     clear x1 x2 x3 x4 obm
     have hbws := hbwm.trans (HBs.mono hbwm.size)
     have hsz5 := HBs.size
     have obs := BXs.out.1
     have obsc := obs.cell
     have hrxs : RatX (fun y => y ≠ bx) us (sgnN zn) As1 ns1 cs1 (sgnN yn) As2 ns2 cs2 zn yn := HRS.out
     have hput := RatsO.put2 (y := fun i => if i = k then sumT R x (j + 1) else if i < k then sumT (rAt M i) x nr else (0, 0)) (HXM.out.below HBs) hlt (by simp only [if_pos]; rw [HPL.out.2.2.2.2.2.1]; exact hrxs) (fun i hi hne => by simp only [if_neg hne])
     obtain ⟨csx, hoxT, hxz, -⟩ := HXM.out.below HBs
     have hox := hoxT.own
     have g0 : ∀ m, m < 4 → ∃ v, us.cell? ⟨bx, k * 4 + m, none⟩ = some v := fun m hm => ⟨_, (hox.cell _).trans (Array.getElem?_eq_getElem (by omega))⟩
     obtain ⟨v0, p0⟩ := g0 0 (by omega)
     obtain ⟨v1, p1⟩ := g0 1 (by omega)
     obtain ⟨v2, p2⟩ := g0 2 (by omega)
     obtain ⟨v3, p3⟩ := g0 3 (by omega)
     rw [Nat.add_zero] at p0
     have pf := hox.thaw
     have HPUT := Lib.hid hput
     have hblx : bx < us.heap.size := hox.lt
     have HB := Lib.hid ((((hbws.setCell (p := ⟨bx, k * 4, none⟩) hz3 (.bool (sgnN zn))).setCell (p := ⟨bx, k * 4 + 1, none⟩) hz3 (.slice As1 ns1 cs1)).setCell (p := ⟨bx, k * 4 + 2, none⟩) hz3 (.bool (sgnN yn))).setCell (p := ⟨bx, k * 4 + 3, none⟩) hz3 (.slice As2 ns2 cs2))
     clear hput hrxs hoxT hxz hox g0
     go_wp2
     go_roundw
     case rel => exact ⟨j + 1, by omega, by go_num, HB.out, by simp [World.setCell]; omega, HPUT.out⟩
     case measure => simp [intOf]; omega
    ·have hj2 : j = nr := by omega
     subst hj2
     go_wp2
     go_roundw
     case rel =>
      refine ⟨k + 1, by omega, by go_num, hbw, hbl3, ?_⟩
      obtain ⟨cs, g1, g2, g3⟩ := HXJ.out
      refine ⟨cs, g1, g2, fun i h1 h2 => ?_⟩
      have := g3 i h1 h2
      by_cases e : i = k
      ·subst e
       simp only [if_true, if_pos (Nat.lt_succ_self i)] at this ⊢
       rw [HP.out.2.2]; exact this
      ·simp only [if_neg e] at this
       by_cases e2 : i < k
       ·simp only [if_pos e2, if_pos (show i < k + 1 by omega)] at this ⊢; exact this
       ·simp only [if_neg e2, if_neg (show ¬ i < k + 1 by omega)] at this ⊢; exact this
     case measure => simp [intOf]; omega
  ·have hk2 : k = n := by omega
   subst hk2
   have hfin : RatsO wr bx (fun i => sumT (rAt M i) x m) 0 k := by
    obtain ⟨cs, g1, g2, g3⟩ := HXS.out
    refine ⟨cs, g1, g2, fun i h1 h2 => ?_⟩
    have := g3 i h1 h2
    simp only [if_pos h2] at this
    exact this
   have HFI := Lib.hid hfin
   clear hfin
   go_wp2
   go_ret2
   exact ⟨⟨_, rfl, by omega, HFI.out⟩, hbel⟩
end Go.Proofs.YtflgngjocgiojaaGreat
