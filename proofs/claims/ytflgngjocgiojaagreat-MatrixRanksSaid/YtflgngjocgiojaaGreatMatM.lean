/- Matrix: whole: ratios times their least common denominator. -/
import Derived.Test.YtflgngjocgiojaaGreatMatL
namespace Go.Proofs.YtflgngjocgiojaaGreat
open Go.RowKit

/-- A slice reads as the ratios Q. -/
def RatsA (w : World) (A : Option Addr) (n : Nat) (Q : Nat → QI) : Prop := 0 < n → ∃ b off, A = some ⟨b, off, none⟩ ∧ b < w.heap.size ∧ ∀ i, i < n → ∃ s1 A1 n1 c1 s2 A2 n2 c2, w.cell? ⟨b, off + i * 4, none⟩ = some (.bool s1) ∧ w.cell? ⟨b, off + i * 4 + 1, none⟩ = some (.slice A1 n1 c1) ∧ w.cell? ⟨b, off + i * 4 + 2, none⟩ = some (.bool s2) ∧ w.cell? ⟨b, off + i * 4 + 3, none⟩ = some (.slice A2 n2 c2) ∧
 NumAt w (.agg #[.bool s1, .slice A1 n1 c1]) (Q i).1 ∧ NumAt w (.agg #[.bool s2, .slice A2 n2 c2]) (Q i).2
theorem RatsA.below {w w' : World} {A : Option Addr} {n : Nat} {Q : Nat → QI} (h : RatsA w A n Q) (hb : Below w.heap.size w w') : RatsA w' A n Q := fun h0 => by
 obtain ⟨b, off, e, hlt, hc⟩ := h h0
 refine ⟨b, off, e, Nat.lt_of_lt_of_le hlt hb.size, fun i hi => ?_⟩
 obtain ⟨s1, A1, n1, c1, s2, A2, n2, c2, e1, e2, e3, e4, h1, h2⟩ := hc i hi
 have hB := hb.block b hlt
 exact ⟨s1, A1, n1, c1, s2, A2, n2, c2, (World.cell?_of_block (w := w) (a := ⟨b, off + i * 4, none⟩) hB).trans e1, (World.cell?_of_block (w := w) (a := ⟨b, off + i * 4 + 1, none⟩) hB).trans e2, (World.cell?_of_block (w := w) (a := ⟨b, off + i * 4 + 2, none⟩) hB).trans e3, (World.cell?_of_block (w := w) (a := ⟨b, off + i * 4 + 3, none⟩) hB).trans e4, h1.below hb, h2.below hb⟩
/-- The least common denominator of the first i. -/
def byW (Q : Nat → QI) : Nat → Int
 | 0 => 1
 | i + 1 => byW Q i * ((Q i).2 / ((Nat.gcd (byW Q i).natAbs (Q i).2.natAbs : Nat) : Int))
def wholeZ (Q : Nat → QI) (n : Nat) : Nat → List Int
 | 0 => []
 | k + 1 => wholeZ Q n k ++ [(Q k).1 * (byW Q n / (Q k).2)]
theorem wholeZ_len (Q : Nat → QI) (n : Nat) : ∀ k, (wholeZ Q n k).length = k
 | 0 => rfl
 | k + 1 => by simp [wholeZ, wholeZ_len Q n k]
structure WholeQ (Q : Nat → QI) (n : Nat) : Prop where
 sm : ∀ i, i < n → SmQ (Q i)
 by_ : ∀ i, i ≤ n → Sm (byW Q i)
/-- Block b holds the number z. -/
def BoxN (W : World) (b : Nat) (z : Int) : Prop := ∃ s A n c, Own W b #[.bool s, .slice A n c] ∧ (∀ x off, A = some ⟨x, off, none⟩ → x < W.heap.size ∧ x ≠ b) ∧ NumAt W (.agg #[.bool s, .slice A n c]) z
theorem BoxN.below {W W' : World} {b : Nat} {z : Int} (h : BoxN W b z) (hb : Below W.heap.size W W') : BoxN W' b z := by
 obtain ⟨s, A, n, c, h1, h2, h3⟩ := h
 exact ⟨s, A, n, c, h1.below hb, fun x off e => ⟨Nat.lt_of_lt_of_le (h2 x off e).1 hb.size, (h2 x off e).2⟩, h3.below hb⟩
theorem BoxN.store {W : World} {b : Nat} {s t : Bool} {A B : Option Addr} {n c m d : Nat} {z : Int} (ho : Own W b #[.bool t, .slice B m d]) (h2 : ∀ x off, A = some ⟨x, off, none⟩ → x < W.heap.size ∧ x ≠ b) (h3 : NumAt W (.agg #[.bool s, .slice A n c]) z) :
  BoxN ((W.setCell ⟨b, 0, none⟩ (.bool s)).setCell ⟨b, 1, none⟩ (.slice A n c)) b z :=
 ⟨s, A, n, c, ((ho.set 0 _).set 1 _).eq rfl, fun x off e => by
  have := h2 x off e
  simpa [World.setCell] using this, h3.same (by simp [World.setCell]) fun x off e => (Below.heap_setCell _ _ _ x (h2 x off e).2).trans (Below.heap_setCell _ _ _ x (h2 x off e).2)⟩
theorem sm_div {a b : Int} (h : Sm a) (hb : b ≠ 0) : Sm (a / b) := by
 unfold Sm at *
 have h1 : (a / b).natAbs ≤ a.natAbs := by
  exact Int.natAbs_ediv_le_natAbs a b
 omega
theorem sm_le {a b : Int} (h : Sm a) (hb : b.natAbs ≤ a.natAbs) : Sm b := by
 unfold Sm at *
 omega
set_option maxRecDepth 100000 in
set_option maxHeartbeats 8000000 in
theorem matrix_whole {w : World} {A : Option Addr} {n : Nat} {Q : Nat → QI} (c : Nat) (h : RatsA w A n Q) (hn : n ≤ 900) (hq : WholeQ Q n) :
  Calls Tryz.prog 60 #[.slice A n c] w fun e w' => (∃ v, e = .returned v ∧ RowV (fun b => w.heap.size ≤ b) v (wholeZ Q n n) w') ∧ Below w.heap.size w w' := by
 obtain ⟨i0, hi0, hz0, hz1, hz2⟩ := info_parts infoN
 have H := Lib.hid h
 have HQ := Lib.hid hq
 have hni : (n : Int) ≤ 900 := by omega
 clear h hq
 go_enter Tryz.func60, Tryz.ntmps60
 go_wp2_with fail
 refine Calls.mono (of_val (w := w) 1 (by omega) (by omega)) ?_
 rintro e w1 ⟨⟨b1, rfl, g1, g2, g3⟩, hb1⟩
 obtain ⟨A8, n8, c8, hs8⟩ := slN_form 1 b1
 have N1 := g1.at_ (fits_small (z := 1) (by omega))
 simp only [numV] at N1 ⊢
 rw [hs8] at N1 ⊢
 have hz := hb1.size
 have hW := hb1.alloc hz (.cells #[.bool (sgnN 1), .slice A8 n8 c8] 35)
 have hb2 : Below w1.heap.size w1 (w1.alloc (.cells #[.bool (sgnN 1), .slice A8 n8 c8] 35)) := (Below.refl _ _).alloc (Nat.le_refl _) _
 have hbox : BoxN (w1.alloc (.cells #[.bool (sgnN 1), .slice A8 n8 c8] 35)) w1.heap.size (byW Q 0) := ⟨_, _, _, _, Own.new rfl, fun x off e => by
  subst e
  have h9 := slN_addr hs8
  subst h9
  exact ⟨by simp; omega, by omega⟩, N1.below hb2⟩
 have hsz : (w1.alloc (.cells #[.bool (sgnN 1), .slice A8 n8 c8] 35)).heap.size = w1.heap.size + 1 := by simp
 clear N1 g1 g2 g3 hs8 hb2 hb1
 go_wp2
 generalize (w1.alloc (.cells #[.bool (sgnN 1), .slice A8 n8 c8] 35)) = W0 at *
 obtain ⟨Bb, hBb⟩ : ∃ b, w1.heap.size = b := ⟨_, rfl⟩
 rw [hBb] at hz hsz hbox ⊢
 clear hBb
 have HBX := Lib.hid hbox
 clear hbox
 go_loopw [16] (fun i wr => ∃ k : Nat, k ≤ n ∧ i = .int .i64 k ∧ Below w.heap.size w wr ∧ Bb + 1 ≤ wr.heap.size ∧ BoxN wr Bb (byW Q k)) (fun i _ => n - (intOf i).toNat)
 case atStart => exact ⟨0, by omega, rfl, hW, by omega, HBX.out⟩
 case round =>
  clear HBX hW hsz
  obtain ⟨k, hk, rfl, hbel, hsz1, hbox⟩ := hrel
  have hkb := hbel.size
  obtain ⟨sb, Ab, nb, cb, ob, hob, Nb⟩ := hbox
  have HNb := Lib.hid (And.intro Nb hob)
  clear Nb hob
  by_cases hlt : k < n
  ·have hlt2 : (k : Int) < (n : Int) := by omega
   obtain ⟨b, off, rfl, hbb, hcell⟩ := (H.out.below hbel) (by omega)
   obtain ⟨s1, A1, n1, c1, s2, A2, n2, c2, e1, e2, e3, e4, NA, ND⟩ := hcell k hlt
   have HND := Lib.hid ND
   have hsm := HQ.out.sm k hlt
   have hby := HQ.out.by_ k (by omega)
   have hby2 := HQ.out.by_ (k + 1) (by omega)
   have hbw : byW Q (k + 1) = byW Q k * ((Q k).2 / ((Nat.gcd (byW Q k).natAbs (Q k).2.natAbs : Nat) : Int)) := rfl
   obtain ⟨zb, hzb⟩ : ∃ z, byW Q k = z := ⟨_, rfl⟩
   obtain ⟨zd, hzd⟩ : ∃ z, (Q k).2 = z := ⟨_, rfl⟩
   rw [hzb] at HNb hby hbw
   rw [hzd] at HND hbw
   have hd0 : zd ≠ 0 := by rw [← hzd]; exact good_ne hsm.1
   have hsd : Sm zd := by rw [← hzd]; exact hsm.2.2
   obtain ⟨zg, hzg⟩ : ∃ z : Int, ((Nat.gcd zb.natAbs zd.natAbs : Nat) : Int) = z := ⟨_, rfl⟩
   have hg0 : zg ≠ 0 := by
    rw [← hzg]
    have : 0 < Nat.gcd zb.natAbs zd.natAbs := Nat.gcd_pos_of_pos_right _ (by omega)
    omega
   have hsg : Sm zg := sm_le hsd (by rw [← hzg]; exact Nat.le_of_dvd (by omega) (Nat.gcd_dvd_right _ _))
   rw [hzg] at hbw
   obtain ⟨zq, hzq⟩ : ∃ z, zd / zg = z := ⟨_, rfl⟩
   rw [hzq] at hbw
   have hsq : Sm zq := by rw [← hzq]; exact sm_div hsd hg0
   obtain ⟨zn, hzn⟩ : ∃ z, zb * zq = z := ⟨_, rfl⟩
   rw [hzn] at hbw
   rw [hbw] at hby2
   have HP := Lib.hid (And.intro hzg (And.intro hzq (And.intro hzn (And.intro hg0 (And.intro hsg (And.intro hsq (And.intro hby2 (And.intro hbw hsd))))))))
   clear hcell NA ND hsm hby hby2 hbw hzb hzd hd0 hsd hzg hg0 hsg hzq hsq hzn
   have o5 : Own (wr.alloc (.cells #[.bool s1, .slice A1 n1 c1, .bool s2, .slice A2 n2 c2] 37)) wr.heap.size #[.bool s1, .slice A1 n1 c1, .bool s2, .slice A2 n2 c2] := Own.new rfl
   have hba : Below wr.heap.size wr (wr.alloc (.cells #[.bool s1, .slice A1 n1 c1, .bool s2, .slice A2 n2 c2] 37)) := (Below.refl _ _).alloc (Nat.le_refl _) _
   have ob2 := ob.below hba
   have ob2c := ob2.cell
   have o5c := o5.cell
   go_wp2_with fail
   generalize (wr.alloc (.cells #[.bool s1, .slice A1 n1 c1, .bool s2, .slice A2 n2 c2] 37)) = w2 at *
   have q := num_Gcd (HNb.out.1.below hba) (HND.out.below hba)
   rw [HP.out.1] at q
   refine Calls.mono q ?_
   clear q
   rintro e u3 ⟨⟨bg0, rfl, g1, g2, g3⟩, hb3⟩
   have fg : fits zg = true := HP.out.2.2.2.2.1.fits
   obtain ⟨A9, n9, c9, hs9⟩ := slN_form zg bg0
   have N9 := g3.at_ fg
   simp only [numV] at N9 ⊢
   rw [hs9, fg] at *
   have hba3 := hba.trans (hb3.mono hba.size)
   have hz3 := hba3.size
   have hk9 : Below u3.heap.size u3 (u3.alloc (.cells #[.bool (sgnN zg), .slice A9 n9 c9] 35)) := (Below.refl _ _).alloc (Nat.le_refl _) _
   have og : Own (u3.alloc (.cells #[.bool (sgnN zg), .slice A9 n9 c9] 35)) u3.heap.size #[.bool (sgnN zg), .slice A9 n9 c9] := Own.new rfl
   have HNG := Lib.hid (N9.below hk9)
   have hba5 := hba3.trans (hk9.mono hz3)
   have ob5 := ob.below hba5
   have o55 := (o5.below hb3).below hk9
   have HNb5 := Lib.hid (HNb.out.1.below hba5)
   have HND5 := Lib.hid (HND.out.below hba5)
   clear g1 g2 g3 hs9 N9 hb3 hk9 ob2 ob2c o5c hba hba3
   go_wp2
   generalize (u3.alloc (.cells #[.bool (sgnN zg), .slice A9 n9 c9] 35)) = w5 at *
   have hz5 := hba5.size
   have ob5l := ob5.lt
   have hTb : ∀ b, b ∈ [Bb] → b < w5.heap.size := fun b hm => by
    have := List.mem_singleton.1 hm
    omega
   have hTn : ∀ b ∈ [Bb], ∃ cs, Own w5 b cs ∧ noU cs := fun b hm => by
    have h1 := List.mem_singleton.1 hm
    subst h1
    exact ⟨_, ob5, noU_two _ _ _ _⟩
   have hBr : wr.heap.size ∉ [Bb] := by simp; omega
   have hBg : u3.heap.size ∉ [Bb] := by simp; omega
   refine region_gen (T := [Bb]) [.step 0 (.agg #[.bool sb, .slice Ab nb cb]), .make 4 [] (valB _ zq), .make 5 [4] (numB _ zn), .need 6 [5], .need 8 []] 9 1 40 (fun _ u => Own u Bb #[.bool sb, .slice Ab nb cb]) (fun _ _ _ h k => h.below k) ob5 (by kernel_rfl) (by kernel_rfl) (by rfl) ?_
   unfold genWalk
   apply Exists.intro
   apply And.intro
   ·apply Piece.mk
    ·intro f v hv hr hne
     simp only [List.take_zero, List.drop_zero, Nat.reduceSub]
     repeat (go_big_quiet_step (fail))
     refine wpQuiet_nil ?_
     exact rfl
    ·intro f; kernel_rfl
    ·intro f f' hf; kernel_rfl
   simp only [List.take_succ_cons, List.take_zero, List.drop_succ_cons, List.drop_zero, Nat.reduceAdd, oneOp]
   refine ⟨fun f => ⟨rfl, fun u hu hp => ?_⟩, ?_⟩
   ·(try simp only)
    (try simp only [newB_val, numB_val, ownB_val, valB_val, numV])
    have oc := hp.cell
    go_simp
    first | exact Upd.refl _ _ | exact ⟨Upd.refl _ _, hp⟩ | exact ⟨rfl, Upd.refl _ _, hp⟩
   unfold genWalk
   apply Exists.intro
   apply And.intro
   ·apply Piece.mk
    ·intro f v hv hr hne
     simp only [List.take_succ_cons, List.take_zero, List.drop_succ_cons, List.drop_zero, Nat.reduceSub]
     (try simp only [Act.put, List.setIfInBounds_toArray, List.set_cons_zero, List.set_cons_succ])
     (try simp only [newB_val, numB_val, ownB_val, valB_val, numV])
     have d1 := fun y => (o55.later (v := v) (T := [Bb]) hBr y).cell
     have d2 := fun y => (og.later (v := v) (T := [Bb]) hBg y).cell
     repeat (go_big_quiet_step (fail))
     refine wpQuiet_nil ?_
     exact rfl
    ·intro f; kernel_rfl
    ·intro f f' hf; simp
   simp only [List.take_succ_cons, List.take_zero, List.drop_succ_cons, List.drop_zero, Nat.reduceAdd, oneOp]
   refine ⟨fun f => ⟨rfl, fun u hu _ => ?_⟩, ?_⟩
   ·refine make_call (f := 102) (args := #[.agg #[.bool s2, .slice A2 n2 c2], .agg #[.bool (sgnN zg), .slice A9 n9 c9]]) (by (try simp only [Act.put, List.setIfInBounds_toArray, List.set_cons_zero, List.set_cons_succ]); (try simp only [newB_val, numB_val, ownB_val, valB_val, numV]); go_simp) ?_
    have q := matrix_quotient (w := u) (NumAt.keepU HND5.out hu hTn) (NumAt.keepU HNG.out hu hTn) HP.out.2.2.2.1
    rw [HP.out.2.1] at q
    refine q.mono ?_
    rintro e wx ⟨⟨b, rfl, q1, q2, q3⟩, hbx⟩
    exact ⟨(b, 0), rfl, q2, q3, hbx, fun hm => absurd (hTb b hm) (by have := hu.1; omega), q1⟩
   unfold genWalk
   apply Exists.intro
   apply And.intro
   ·apply Piece.mk
    ·intro f v hv hr hne
     simp only [List.take_zero, List.drop_succ_cons, List.drop_zero, Nat.reduceSub]
     (try simp only [Act.put, List.setIfInBounds_toArray, List.set_cons_zero, List.set_cons_succ])
     (try simp only [valB_val, numV])
     repeat (go_big_quiet_step (fail))
     refine wpQuiet_nil ?_
     exact rfl
    ·intro f; kernel_rfl
    ·intro f f' hf; simp
   simp only [List.take_succ_cons, List.take_zero, List.drop_succ_cons, List.drop_zero, Nat.reduceAdd, oneOp]
   refine ⟨fun f => ⟨rfl, fun u hu hm => ?_⟩, ?_⟩
   ·refine make_call (f := 101) (args := #[.agg #[.bool sb, .slice Ab nb cb], .agg #[.bool (sgnN zq), slN zq (f 4).1]]) (by (try simp only [Act.put, List.setIfInBounds_toArray, List.set_cons_zero, List.set_cons_succ]); (try simp only [newB_val, numB_val, ownB_val, valB_val, numV]); go_simp) ?_
    have e1 : NumO u (f 4).1 zq := (show (valB [Bb] zq).R (f 4) u from hm 4 (by simp)).2
    have q := num_Mul (w := u) (NumAt.keepU HNb5.out hu hTn) (e1.at_ HP.out.2.2.2.2.2.1.fits)
    rw [HP.out.2.2.1] at q
    refine q.mono ?_
    rintro e wx ⟨⟨b, rfl, q1, q2, q3⟩, hbx⟩
    exact ⟨(b, 0), rfl, q1, q2, hbx, fun hm => absurd (hTb b hm) (by have := hu.1; omega), q3⟩
   unfold genWalk
   apply Exists.intro
   apply And.intro
   ·apply Piece.mk
    ·intro f v hv hr hne
     simp only [List.take_zero, List.drop_succ_cons, List.drop_zero, Nat.reduceSub]
     (try simp only [Act.put, List.setIfInBounds_toArray, List.set_cons_zero, List.set_cons_succ])
     (try simp only [numB_val, numV])
     repeat (go_big_quiet_step (fail))
     refine wpQuiet_nil ?_
     exact rfl
    ·intro f; kernel_rfl
    ·intro f f' hf; simp
   unfold genWalk
   apply Exists.intro
   apply And.intro
   ·apply Piece.mk
    ·intro f v hv hr hne
     simp only [List.take_succ_cons, List.take_zero, List.drop_succ_cons, List.drop_zero, Nat.reduceSub]
     (try simp only [Act.put, List.setIfInBounds_toArray, List.set_cons_zero, List.set_cons_succ])
     (try simp only [newB_val, numB_val, ownB_val, valB_val, numV])
     repeat (go_big_quiet_step (fail))
     refine wpQuiet_nil ?_
     exact rfl
    ·intro f; kernel_rfl
    ·intro f f' hf; first | (simp; done) | (simp [hf 5 (by simp)])
   unfold genWalk
   apply Exists.intro
   apply And.intro
   ·apply Piece.mk
    ·intro f v hv hr hne
     simp only [List.take_succ_cons, List.take_zero, List.drop_succ_cons, List.drop_zero, Nat.reduceSub]
     (try simp only [Act.put, List.setIfInBounds_toArray, List.set_cons_zero, List.set_cons_succ])
     (try simp only [newB_val, numB_val, ownB_val, valB_val, numV])
     repeat (go_big_quiet_step (fail))
     refine wpQuiet_nil ?_
     exact rfl
    ·intro f; kernel_rfl
    ·intro f f' hf; simp
   intro f u' hup hph hmade hdist
   obtain ⟨⟨hT1, oN⟩, loN, hiN⟩ := hmade 5 (by omega) rfl
   replace oN : NumO u' (f 5).1 zn := oN
   replace hT1 : (f 5).1 ∉ [Bb] := hT1
   clear hmade hdist
   simp only
   (try simp only [Act.put, List.setIfInBounds_toArray, List.set_cons_zero, List.set_cons_succ])
   (try simp only [newB_val, numB_val, ownB_val, valB_val, numV])
   generalize (f 5).1 = b9 at *
   generalize (f 4).1 = b8 at *
   clear f
   have q6 : Own u' Bb #[.bool sb, .slice Ab nb cb] := hph
   have fn : fits zn = true := HP.out.2.2.2.2.2.2.1.fits
   obtain ⟨A7, n7, c7, hs7⟩ := slN_form zn b9
   have N7 := oN.at_ fn
   simp only [numV] at N7
   rw [hs7] at N7 ⊢
   rw [fn]
   have OB7 : ∀ x off, A7 = some ⟨x, off, none⟩ → x < u'.heap.size ∧ x ≠ Bb := fun x off e => by
    subst e
    have h9 := slN_addr hs7
    subst h9
    exact ⟨hiN, by simpa using hT1⟩
   have hst := BoxN.store (s := sgnN zn) q6 OB7 N7
   have hwb : Below w.heap.size w u' := Upd.below (hbel.trans (hba5.mono hkb)) hup (by simp; omega)
   have hus := hup.size
   have HST := Lib.hid hst
   have q6c := q6.cell
   have q6f := q6.thaw
   have hkT := Upd.keeps (Keeps.refl _ _) hup
   clear hs7 OB7 N7 hst oN hph hup
   refine effc_mem (by rfl) (fun K hK => ?_)
   go_simp
   refine hK _ _ ((hkT.set (by simp) _).set (by simp) _) (fun u6 hu6 => ?_)
   clear hK K
   have h6s := hu6.size
   simp [World.setCell] at h6s
   have HB6 := Lib.hid (HST.out.below hu6)
   have HW6 := Lib.hid (((hwb.setCell (p := ⟨Bb, 0, none⟩) (by simp; omega) (.bool (sgnN zn))).setCell (p := ⟨Bb, 1, none⟩) (by simp; omega) (.slice A7 n7 c7)).trans (hu6.mono (by simp [World.setCell]; exact hwb.size)))
   clear hu6 HST hwb q6 q6c q6f hkT
   refine effc_nil ?_
   (try simp only [Act.put])
   go_wp2
   go_roundw
   case rel => exact ⟨k + 1, by omega, by go_num, HW6.out, by omega, by rw [HP.out.2.2.2.2.2.2.2.1]; exact HB6.out⟩
   case measure => simp [intOf]; omega
  ·have hk2 : k = n := by omega
   subst hk2
   clear hlt
   generalize wr = wq at *
   have ob0 := ob
   go_wp2
   clear ob0
   have hbel0 := Lib.hid hbel
   go_loopw [8, 39] (fun v i wi => ∃ (j : Nat) (xs : List Value), j ≤ k ∧ i = .int .i64 j ∧ Below wq.heap.size wq wi ∧ wi.ownsRow wq.heap.size 35 2 v j xs ∧ RowC (fun b => wq.heap.size ≤ b ∧ some b ≠ v.ownBlock) wi xs (wholeZ Q k j)) (fun _ i _ => k - (intOf i).toNat)
   case atStart => exact ⟨0, [], by omega, rfl, Below.refl _ _, ⟨rfl, .inl ⟨rfl, rfl⟩⟩, trivial⟩
   case round =>
    obtain ⟨j, xs, hj, rfl, hbw, hown, hrow⟩ := hrel
    have HO := Lib.hid hown
    have HC := Lib.hid hrow
    have OL : Hid (∀ b, u8.ownBlock = some b → b < wr.heap.size) := Lib.hid (fun b hb => ownBlock_lt hown hb)
    clear hown hrow
    have hwz := hbw.size
    have hbw0 := hbel.trans (hbw.mono hkb)
    by_cases hlt : j < k
    ·have hlt2 : (j : Int) < (k : Int) := by omega
     obtain ⟨b, off, rfl, hbb, hcell⟩ := (H.out.below hbw0) (by omega)
     obtain ⟨s1, A1, n1, c1, s2, A2, n2, c2, e1, e2, e3, e4, NA, ND⟩ := hcell j hlt
     have HNA := Lib.hid NA
     have HND := Lib.hid ND
     have hsm := HQ.out.sm j hlt
     have hby := HQ.out.by_ k (by omega)
     have hwh : wholeZ Q k (j + 1) = wholeZ Q k j ++ [(Q j).1 * (byW Q k / (Q j).2)] := rfl
     obtain ⟨zb, hzb⟩ : ∃ z, byW Q k = z := ⟨_, rfl⟩
     obtain ⟨⟨zp, zd⟩, hzd⟩ : ∃ z, Q j = z := ⟨_, rfl⟩
     rw [hzb] at hby hwh
     have HNb2 := HNb.out
     rw [hzb] at HNb2
     rw [hzd] at hsm hwh HNA HND
     simp only at hsm hwh HNA HND
     have hd0 : zd ≠ 0 := good_ne hsm.1
     obtain ⟨zq, hzq⟩ : ∃ z, zb / zd = z := ⟨_, rfl⟩
     have hsq : Sm zq := by rw [← hzq]; exact sm_div hby hd0
     obtain ⟨zn, hzn⟩ : ∃ z, zp * zq = z := ⟨_, rfl⟩
     rw [hzq, hzn] at hwh
     have fn : fits zn = true := by rw [← hzn]; exact Sm.mul hsm.2.1 hsq
     have HP := Lib.hid (And.intro hzq (And.intro hzn (And.intro hd0 (And.intro hsq (And.intro fn hwh)))))
     have HNB := Lib.hid (HNb2.1.below hbw)
     clear hcell NA ND hsm hby hwh hzb hzd hd0 hzq hsq hzn fn HNb2
     have o10 : Own (wr.alloc (.cells #[.bool s1, .slice A1 n1 c1, .bool s2, .slice A2 n2 c2] 37)) wr.heap.size #[.bool s1, .slice A1 n1 c1, .bool s2, .slice A2 n2 c2] := Own.new rfl
     have hba : Below wr.heap.size wr (wr.alloc (.cells #[.bool s1, .slice A1 n1 c1, .bool s2, .slice A2 n2 c2] 37)) := (Below.refl _ _).alloc (Nat.le_refl _) _
     have ob2 := (ob.below hbw).below hba
     have HNA2 := Lib.hid (HNA.out.below hba)
     have HND2 := Lib.hid (HND.out.below hba)
     have HNB2 := Lib.hid (HNB.out.below hba)
     go_wp2
     generalize (wr.alloc (.cells #[.bool s1, .slice A1 n1 c1, .bool s2, .slice A2 n2 c2] 37)) = w2 at *
     refine region_gen (T := []) [.make 5 [] (valB _ zq), .make 6 [5] (numB _ zn), .need 7 [6], .need 9 [], .make 10 [] (ownB [] #[.bool false, .slice none 0 0] (fun p => .pointer (some ⟨p, 0, none⟩)))] 11 0 40 (fun _ _ => True) (fun _ _ _ _ _ => trivial) trivial (by kernel_rfl) (by kernel_rfl) (by rfl) ?_
     unfold genWalk
     apply Exists.intro
     apply And.intro
     ·apply Piece.mk
      ·intro f v hv hr hne
       simp only [List.take_succ_cons, List.take_zero, List.drop_zero, Nat.reduceSub]
       have d1 := fun y => (o10.later (v := v) (T := []) (by simp) y).cell
       have d2 := fun y => (ob2.later (v := v) (T := []) (by simp) y).cell
       repeat (go_big_quiet_step (fail))
       refine wpQuiet_nil ?_
       exact rfl
      ·intro f; kernel_rfl
      ·intro f f' hf; kernel_rfl
     simp only [List.take_succ_cons, List.take_zero, List.drop_succ_cons, List.drop_zero, Nat.reduceAdd, oneOp]
     refine ⟨fun f => ⟨rfl, fun u hu _ => ?_⟩, ?_⟩
     ·refine make_call (f := 102) (args := #[.agg #[.bool sb, .slice Ab nb cb], .agg #[.bool s2, .slice A2 n2 c2]]) (by (try simp only [Act.put, List.setIfInBounds_toArray, List.set_cons_zero, List.set_cons_succ]); (try simp only [newB_val, numB_val, ownB_val, valB_val, numV]); go_simp) ?_
      have q := matrix_quotient (w := u) (NumAt.keeps HNB2.out hu) (NumAt.keeps HND2.out hu) HP.out.2.2.1
      rw [HP.out.1] at q
      refine q.mono ?_
      rintro e wx ⟨⟨b, rfl, q1, q2, q3⟩, hbx⟩
      exact ⟨(b, 0), rfl, q2, q3, hbx, (by simp), q1⟩
     unfold genWalk
     apply Exists.intro
     apply And.intro
     ·apply Piece.mk
      ·intro f v hv hr hne
       simp only [List.take_zero, List.drop_succ_cons, List.drop_zero, Nat.reduceSub]
       (try simp only [Act.put, List.setIfInBounds_toArray, List.set_cons_zero, List.set_cons_succ])
       (try simp only [valB_val, numV])
       repeat (go_big_quiet_step (fail))
       refine wpQuiet_nil ?_
       exact rfl
      ·intro f; kernel_rfl
      ·intro f f' hf; simp
     simp only [List.take_succ_cons, List.take_zero, List.drop_succ_cons, List.drop_zero, Nat.reduceAdd, oneOp]
     refine ⟨fun f => ⟨rfl, fun u hu hm => ?_⟩, ?_⟩
     ·refine make_call (f := 101) (args := #[.agg #[.bool s1, .slice A1 n1 c1], .agg #[.bool (sgnN zq), slN zq (f 5).1]]) (by (try simp only [Act.put, List.setIfInBounds_toArray, List.set_cons_zero, List.set_cons_succ]); (try simp only [newB_val, numB_val, ownB_val, valB_val, numV]); go_simp) ?_
      have e1 : NumO u (f 5).1 zq := (show (valB [] zq).R (f 5) u from hm 5 (by simp)).2
      have q := num_Mul (w := u) (NumAt.keeps HNA2.out hu) (e1.at_ HP.out.2.2.2.1.fits)
      rw [HP.out.2.1] at q
      refine q.mono ?_
      rintro e wx ⟨⟨b, rfl, q1, q2, q3⟩, hbx⟩
      exact ⟨(b, 0), rfl, q1, q2, hbx, (by simp), q3⟩
     unfold genWalk
     apply Exists.intro
     apply And.intro
     ·apply Piece.mk
      ·intro f v hv hr hne
       simp only [List.take_zero, List.drop_succ_cons, List.drop_zero, Nat.reduceSub]
       (try simp only [Act.put, List.setIfInBounds_toArray, List.set_cons_zero, List.set_cons_succ])
       (try simp only [numB_val, numV])
       repeat (go_big_quiet_step (fail))
       refine wpQuiet_nil ?_
       exact rfl
      ·intro f; kernel_rfl
      ·intro f f' hf; simp
     unfold genWalk
     apply Exists.intro
     apply And.intro
     ·apply Piece.mk
      ·intro f v hv hr hne
       simp only [List.take_succ_cons, List.take_zero, List.drop_succ_cons, List.drop_zero, Nat.reduceSub]
       (try simp only [Act.put, List.setIfInBounds_toArray, List.set_cons_zero, List.set_cons_succ])
       (try simp only [newB_val, numB_val, ownB_val, valB_val, numV])
       repeat (go_big_quiet_step (fail))
       refine wpQuiet_nil ?_
       exact rfl
      ·intro f; kernel_rfl
      ·intro f f' hf; first | (simp; done) | (simp [hf 6 (by simp)])
     unfold genWalk
     apply Exists.intro
     apply And.intro
     ·apply Piece.mk
      ·intro f v hv hr hne
       simp only [List.take_succ_cons, List.take_zero, List.drop_succ_cons, List.drop_zero, Nat.reduceSub]
       (try simp only [Act.put, List.setIfInBounds_toArray, List.set_cons_zero, List.set_cons_succ])
       (try simp only [newB_val, numB_val, ownB_val, valB_val, numV])
       repeat (go_big_quiet_step (fail))
       refine wpQuiet_nil ?_
       exact rfl
      ·intro f; kernel_rfl
      ·intro f f' hf; simp
     simp only [List.take_succ_cons, List.take_zero, List.drop_succ_cons, List.drop_zero, Nat.reduceAdd, oneOp]
     refine ⟨fun f => ⟨rfl, fun u hu _ => ?_⟩, ?_⟩
     ·refine make_own (e := 35) (by (try simp only [Act.put, List.setIfInBounds_toArray, List.set_cons_zero, List.set_cons_succ]); (try simp only [newB_val, numB_val, ownB_val, valB_val, numV]); go_simp) (by simp)
     unfold genWalk
     apply Exists.intro
     apply And.intro
     ·apply Piece.mk
      ·intro f v hv hr hne
       simp only [List.take_zero, List.drop_succ_cons, List.drop_zero, Nat.reduceSub]
       (try simp only [Act.put, List.setIfInBounds_toArray, List.set_cons_zero, List.set_cons_succ])
       (try simp only [ownB_val])
       repeat (go_big_quiet_step (fail))
       refine wpQuiet_nil ?_
       exact rfl
      ·intro f; kernel_rfl
      ·intro f f' hf; simp
     intro f u' hup hph hmade hdist
     obtain ⟨⟨-, oN⟩, loN, hiN⟩ := hmade 6 (by omega) rfl
     obtain ⟨⟨-, qO⟩, loO, hiO⟩ := hmade 10 (by omega) rfl
     have e5 := hdist 6 10 (by omega) (by omega) rfl rfl (by omega)
     replace oN : NumO u' (f 6).1 zn := oN
     replace qO : Own u' (f 10).1 #[.bool false, .slice none 0 0] := qO
     clear hmade hdist hph
     simp only
     (try simp only [Act.put, List.setIfInBounds_toArray, List.set_cons_zero, List.set_cons_succ])
     (try simp only [newB_val, numB_val, ownB_val, valB_val, numV])
     generalize (f 6).1 = b9 at *
     generalize (f 10).1 = b12 at *
     generalize (f 5).1 = b8 at *
     clear f
     obtain ⟨A7, n7, c7, hs7⟩ := slN_form zn b9
     rw [hs7, HP.out.2.2.2.2.1]
     have HSL := Lib.hid hs7
     clear hs7
     have hwu : Below w2.heap.size w2 u' := Upd.below (Below.refl _ _) hup (by simp)
     have hkT := Upd.keeps (Keeps.refl _ _) hup
     have qOc := qO.cell
     have qOf := qO.thaw
     have ha2 := hba.size
     clear hup
     refine effc_mem (by rfl) (fun K hK => ?_)
     go_simp
     refine hK _ _ ((hkT.new (p := ⟨b12, 0, none⟩) loO (.bool (sgnN zn))).new (p := ⟨b12, 1, none⟩) loO (.slice A7 n7 c7)) (fun u3 hu3 => ?_)
     clear hK K
     have hs3 := hu3.size
     simp [World.setCell] at hs3
     have hwu1 := ((hwu.setCell (p := ⟨b12, 0, none⟩) loO (.bool (sgnN zn))).setCell (p := ⟨b12, 1, none⟩) loO (.slice A7 n7 c7)).trans (hu3.mono (by simp [World.setCell]; exact hwu.size))
     have r12 := ((qO.set 0 (.bool (sgnN zn))).set 1 (.slice A7 n7 c7)).below hu3
     have oN1 := NumO.below ((oN.far (p := ⟨b12, 0, none⟩) e5 (.bool (sgnN zn))).far (p := ⟨b12, 1, none⟩) e5 (.slice A7 n7 c7)) hu3
     have hk1 := ((hkT.new (p := ⟨b12, 0, none⟩) loO (.bool (sgnN zn))).new (p := ⟨b12, 1, none⟩) loO (.slice A7 n7 c7)).later hu3
     clear qO qOc qOf oN hkT hu3 hwu
     refine effc_mem (by rfl) (fun K hK => ?_)
     go_simp
     refine hK _ _ hk1 (fun u4 hu4 => ?_)
     clear hK K
     replace r12 := r12.below hu4
     replace oN1 := oN1.below hu4
     have hwu2 := hwu1.trans (hu4.mono hwu1.size)
     have hs4 := hu4.size
     clear hwu1 hk1 hu4
     refine effc_nil ?_
     (try simp only [Act.put, List.setIfInBounds_toArray, List.set_cons_zero, List.set_cons_succ])
     have r12c := r12.cell
     have N1 := oN1.at_ HP.out.2.2.2.2.1
     unfold numV at N1
     rw [HSL.out] at N1
     have HN := Lib.hid N1
     have hw4 := hba.trans (hwu2.mono ha2)
     have h4z := hw4.size
     have OB : Hid (∀ b off, A7 = some ⟨b, off, none⟩ → wr.heap.size ≤ b ∧ b < u4.heap.size) := Lib.hid (fun b off e => by
      subst e
      have h9 := slN_addr HSL.out
      subst h9
      exact ⟨by omega, by omega⟩)
     have O5 := Lib.hid (ownsRow_stay HO.out hw4)
     have C5 := Lib.hid (RowC.move (Y := fun b => wq.heap.size ≤ b ∧ some b ≠ u8.ownBlock ∧ b < u4.heap.size) h4z (fun b hb hX => ⟨hw4.block b hb, hX.1, hX.2, Nat.lt_of_lt_of_le hb h4z⟩) HC.out)
     have B5 := Lib.hid (hbw.trans (hw4.mono hwz))
     clear N1 oN1 hwu2 hw4 o10 ob2 hba
     go_wp2_with (at_builtin; refine wpList_append_lies _ rfl _ _ _ (by rfl) wq.heap.size 35 i0 zeroN 2 32 Tryz.underlying49 hi0 hz0 hz1 hz2 rfl (by omega) _ j xs (by rfl) (O5.out.alloc _) ⟨u4.heap.size, 0, none⟩ 1 1 [.bool (sgnN zn), .slice A7 n7 c7] (by rfl) rfl ?c1 ?c2 (by omega) ?c3 ?c4 ?c5 (u4.heap.size + 1) (by simp) ?_)
     case c1 => exact World.news_of_block (heap_alloc_new u4 _)
     case c2 => intro u hu; simp at hu; rcases hu with rfl | rfl <;> rfl
     case c3 => unfold maxLen; omega
     case c4 => omega
     case c5 => simp; omega
     intro g cg w6 ho6 hg6 hat hlt6
     have hob : ∀ b, _ = some b → wq.heap.size ≤ b := fun b hb => ownBlock_ge (O5.out) hb
     have B6 := Lib.hid (Below.grown (B5.out.alloc (by omega) (.cells #[.bool (sgnN zn), .slice A7 n7 c7] 35)) hg6 (by simp; omega) (fun b hb => hob b hb))
     have hc6 : RowC (fun b => wq.heap.size ≤ b ∧ some b ≠ some g) w6 (xs ++ [.bool (sgnN zn), .slice A7 n7 c7]) (wholeZ Q k (j + 1)) := by
      rw [HP.out.2.2.2.2.2]
      have hb5 : Below u4.heap.size u4 (u4.alloc (.cells #[.bool (sgnN zn), .slice A7 n7 c7] 35)) := (Below.refl _ _).alloc (Nat.le_refl _) _
      refine RowC.grown hg6 (fun b hb hX => ⟨hX.2.1, hX.1, fun e => by
       cases e
       rcases hat with h | h
       ·exact hX.2.1 h.symm
       ·have := hX.2.2; omega⟩) (X := fun b => wq.heap.size ≤ b ∧ some b ≠ u8.ownBlock ∧ b < u4.heap.size) (RowC.snoc ?_ (HN.out.below hb5) (C5.out.below hb5))
      exact ⟨_, _, _, rfl, fun b off e => by
       have h9 := OB.out b off e
       exact ⟨by simp; omega, by omega, fun e => by have := OL.out _ e.symm; omega, h9.2⟩⟩
     have HC6 := Lib.hid hc6
     have HO6 := Lib.hid ho6
     clear hc6 ho6 hg6 hat hob r12 r12c
     go_wp2
     go_roundw
     case rel => exact ⟨j + 1, _, by omega, by go_num, B6.out, HO6.out, HC6.out⟩
     case measure => simp [intOf]; omega
    ·have hj2 : j = k := by omega
     subst hj2
     have q := row_of (X := fun b => w.heap.size ≤ b) (wholeZ_len Q j j) HO.out (RowC.move (Nat.le_refl _) (fun b _ hX => ⟨rfl, by omega⟩) HC.out) (fun b h _ => by omega)
     have HR := Lib.hid q
     obtain ⟨Ao, co, rfl, -⟩ := q
     have HW := Lib.hid hbw0
     clear hbw0
     go_wp2
     go_ret
     exact ⟨⟨_, rfl, HR.out⟩, HW.out⟩
end Go.Proofs.YtflgngjocgiojaaGreat
