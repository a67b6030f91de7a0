/- The reference's ratio: Frac; half. -/
import Derived.Test.YtflgngjocgiojaaGreatMatN
import Derived.Test.YtflgngjocgiojaaGreatRatJ
import Derived.Test.YtflgngjocgiojaaGreatMatJ
import Derived.Test.YtflgngjocgiojaaGreatMatN0
namespace Go.Proofs.YtflgngjocgiojaaGreat
open Go.RowKit

set_option maxRecDepth 100000 in
set_option maxHeartbeats 2000000 in
theorem times_bad {w : World} {s1 s2 : Bool} {A1 A2 : Option Addr} {n1 c1 n2 c2 : Nat} {p q : Int} (h1 : NumAt w (.agg #[.bool s1, .slice A1 n1 c1]) p) (h2 : NumAt w (.agg #[.bool s2, .slice A2 n2 c2]) q) :
  Calls Tryz.prog 45 #[.agg #[.bool s1, .slice A1 n1 c1, .bool s2, .slice A2 n2 c2]] w fun e w' => e = .returned (.bool (!goodQ p q)) ∧ Below w.heap.size w w' := by
 obtain ⟨o, ho⟩ : ∃ o, goodQ p q = o := ⟨_, rfl⟩
 rw [ho]
 have HO := Lib.hid ho
 have H := Lib.hid (And.intro h1 h2)
 clear h1 h2 ho
 go_enter Tryz.func45, Tryz.ntmps45
 have hW := (Below.refl w.heap.size w).alloc (Nat.le_refl _) (.cells #[.bool s1, .slice A1 n1 c1, .bool s2, .slice A2 n2 c2] 37)
 go_wp2_with fail
 have q := ratio_Right (w := w.alloc (.cells #[.bool s1, .slice A1 n1 c1, .bool s2, .slice A2 n2 c2] 37)) ⟨_, _, _, _, _, _, _, _, rfl, H.out.1.below hW, H.out.2.below hW⟩
 rw [HO.out] at q
 refine Calls.mono q ?_
 clear q
 rintro e w2 ⟨rfl, hb⟩
 have HB := Lib.hid (hW.trans (hb.mono hW.size))
 clear hb hW
 go_wp2
 go_ret
 exact ⟨rfl, HB.out⟩
set_option maxRecDepth 100000 in
set_option maxHeartbeats 2000000 in
theorem index_bad {w : World} {A : Option Addr} {n : Nat} {Q : Nat → QI} {p : Nat → Bool} (c : Nat) (hc : RatsA w A n Q) (hp : ∀ i, i < n → p i = !goodQ (Q i).1 (Q i).2) (hn : n ≤ 1000000) :
  Calls Tryz.prog 96 #[.slice A n c, .func (.func 45) #[] #[]] w fun e w' => ∃ r : Int, e = .returned (.int .i64 r) ∧ decide (0 ≤ r) = anyF p n ∧ Below w.heap.size w w' := by
 have HP := Lib.hid hp
 have HC := Lib.hid hc
 clear hp hc
 have hni : (n : Int) ≤ 1000000 := by omega
 go_enter Tryz.func96, Tryz.ntmps96
 go_wp2
 go_loopw [8] (fun i wr => ∃ k : Nat, k ≤ n ∧ i = .int .i64 k ∧ anyF p k = false ∧ Below w.heap.size w wr) (fun i _ => n - (intOf i).toNat)
 case atStart => exact ⟨0, by omega, rfl, rfl, Below.refl _ _⟩
 case round =>
  obtain ⟨k, hk, rfl, hA, hbel⟩ := hrel
  have HA := Lib.hid hA
  have hkb := hbel.size
  clear hA
  by_cases hlt : k < n
  ·have hlt2 : (k : Int) < (n : Int) := by omega
   obtain ⟨b, off, rfl, hb, hcell⟩ := HC.out (by omega)
   obtain ⟨s1, A1, n1, c1, s2, A2, n2, c2, f1, f2, f3, f4, NA, ND⟩ := hcell k hlt
   have hbk := hbel.block b hb
   have e1 := (World.cell?_of_block (w := w) (a := ⟨b, off + k * 4, none⟩) hbk).trans f1
   have e2 := (World.cell?_of_block (w := w) (a := ⟨b, off + k * 4 + 1, none⟩) hbk).trans f2
   have e3 := (World.cell?_of_block (w := w) (a := ⟨b, off + k * 4 + 2, none⟩) hbk).trans f3
   have e4 := (World.cell?_of_block (w := w) (a := ⟨b, off + k * 4 + 3, none⟩) hbk).trans f4
   have HN := Lib.hid (And.intro (NA.below hbel) (ND.below hbel))
   clear NA ND f1 f2 f3 f4 hbk
   replace hcell := ()
   go_wp2_with fail
   have q := times_bad (w := wr) HN.out.1 HN.out.2
   rw [← HP.out k hlt] at q
   obtain ⟨o, ho⟩ : ∃ o, p k = o := ⟨_, rfl⟩
   rw [ho] at q
   refine Calls.mono q ?_
   clear q
   rintro e w2 ⟨rfl, hb2⟩
   have B2 := Lib.hid (hbel.trans (hb2.mono hkb))
   have HO := Lib.hid ho
   clear hb2 hcell ho
   cases o
   ·go_wp2
    go_roundw
    case rel => exact ⟨k + 1, by omega, by go_num, by rw [anyF, HA.out, HO.out]; rfl, B2.out⟩
    case measure => simp [intOf]; omega
   ·go_wp2
    go_ret
    exact ⟨_, rfl, by rw [anyF_of hlt HO.out]; exact decide_eq_true (by omega), B2.out⟩
  ·have hk2 : k = n := by omega
   subst hk2
   go_wp2
   go_ret
   exact ⟨_, rfl, by rw [HA.out]; rfl, hbel⟩
set_option maxRecDepth 100000 in
set_option maxHeartbeats 2000000 in
theorem contains_bad {w : World} {A : Option Addr} {n : Nat} {Q : Nat → QI} {p : Nat → Bool} (c : Nat) (hc : RatsA w A n Q) (hp : ∀ i, i < n → p i = !goodQ (Q i).1 (Q i).2) (hn : n ≤ 1000000) :
  Calls Tryz.prog 48 #[.slice A n c, .func (.func 45) #[] #[]] w fun e w' => e = .returned (.bool (anyF p n)) ∧ Below w.heap.size w w' := by
 have q := index_bad c hc hp hn
 obtain ⟨o, ho⟩ : ∃ o, anyF p n = o := ⟨_, rfl⟩
 rw [ho] at q ⊢
 have Q := Lib.hid q
 clear q ho hp hc
 go_enter Tryz.func48, Tryz.ntmps48
 go_wp2_with fail
 refine Calls.mono Q.out ?_
 rintro e w2 ⟨r, rfl, hr, hb⟩
 have HR := Lib.hid hr
 have HB := Lib.hid hb
 clear hr hb
 by_cases h0 : 0 ≤ r
 ·have hr2 : o = true := by rw [← HR.out]; exact decide_eq_true h0
  subst hr2
  go_wp2
  go_ret
  exact ⟨rfl, HB.out⟩
 ·have hr2 : o = false := by rw [← HR.out]; exact decide_eq_false h0
  subst hr2
  go_wp2
  go_ret
  exact ⟨ret_bool (decide_eq_false (by omega)), HB.out⟩
/-- The inner product of a row's first j elements and x. -/
def sumT (R : List Int) (x : Nat → QI) : Nat → QI
 | 0 => (0, 1)
 | j + 1 => addQ (sumT R x j) (mulQ (iAt R j, 1) (x j))
structure TimesQ (M : List (List Int)) (x : Nat → QI) (m : Nat) : Prop where
 val : ∀ j, j < m → SmQ (x j)
 part : ∀ k, k < M.length → ∀ j, j < m → SmQ (mulQ (iAt (rAt M k) j, 1) (x j))
 sum : ∀ k, k < M.length → ∀ j, j ≤ m → SmQ (sumT (rAt M k) x j)
theorem p_64 : 2 ^ 64 < 2 ^ 1000 := by decide +kernel
theorem sm_i64 {z : Int} (h1 : -9223372036854775808 ≤ z) (h2 : z ≤ 9223372036854775807) : Sm z := by
 unfold Sm
 have : z.natAbs < 2 ^ 64 := by omega
 exact Nat.lt_trans this p_64
end Go.Proofs.YtflgngjocgiojaaGreat
namespace Go.Proofs.YtflgngjocgiojaaGreat

theorem goodQ_iff {p q : Int} : goodQ p q = true ↔ 0 < q ∧ Nat.gcd p.natAbs q.natAbs = 1 := by
 unfold goodQ
 simp
theorem of_spec (n : Int) {d : Int} (h : d ≠ 0) : goodQ (ofN n d) (ofD n d) = true ∧ ofN n d * d = n * ofD n d ∧ (ofN n d).natAbs ≤ n.natAbs ∧ (ofD n d).natAbs ≤ d.natAbs := by
 have hg : 0 < Nat.gcd n.natAbs d.natAbs := Nat.gcd_pos_of_pos_right _ (by omega)
 obtain ⟨g, hgg⟩ : ∃ g, Nat.gcd n.natAbs d.natAbs = g := ⟨_, rfl⟩
 rw [hgg] at hg
 have key : ∀ (n' d' : Int), n'.natAbs = n.natAbs → d'.natAbs = d.natAbs → 0 < d' → n' * d = n * d' → goodQ (n' / (g : Int)) (d' / (g : Int)) = true ∧ n' / (g : Int) * d = n * (d' / (g : Int)) ∧ (n' / (g : Int)).natAbs ≤ n.natAbs ∧ (d' / (g : Int)).natAbs ≤ d.natAbs := fun n' d' h1 h2 h3 h4 => by
  have d1 : (g : Int) ∣ n' := Int.ofNat_dvd_left.2 (by rw [h1, ← hgg]; exact Nat.gcd_dvd_left _ _)
  have d2 : (g : Int) ∣ d' := Int.ofNat_dvd_left.2 (by rw [h2, ← hgg]; exact Nat.gcd_dvd_right _ _)
  obtain ⟨a, ha⟩ := d1
  obtain ⟨b, hb⟩ := d2
  have hg0 : (g : Int) ≠ 0 := by omega
  rw [ha, hb, Int.mul_ediv_cancel_left _ hg0, Int.mul_ediv_cancel_left _ hg0]
  have e1 : n.natAbs = g * a.natAbs := by rw [← h1, ha, Int.natAbs_mul]; rfl
  have e2 : d.natAbs = g * b.natAbs := by rw [← h2, hb, Int.natAbs_mul]; rfl
  refine ⟨goodQ_iff.2 ⟨?_, ?_⟩, ?_, ?_, ?_⟩
  ·rw [hb] at h3
   exact Int.pos_of_mul_pos_right h3 (by omega) |> fun h => h
  ·have h5 := hgg
   rw [e1, e2, Nat.gcd_mul_left] at h5
   exact Nat.eq_of_mul_eq_mul_left hg (by omega)
  ·rw [ha, hb] at h4
   have : (g : Int) * (a * d) = (g : Int) * (n * b) := by grind
   exact Int.eq_of_mul_eq_mul_left hg0 this
  ·rw [e1]; exact Nat.le_mul_of_pos_left _ hg
  ·rw [e2]; exact Nat.le_mul_of_pos_left _ hg
 unfold ofN ofD
 rw [hgg]
 by_cases hd : d < 0
 ·rw [if_pos hd, if_pos hd]
  exact key (-n) (-d) (Int.natAbs_neg n) (Int.natAbs_neg d) (by omega) (by grind)
 ·rw [if_neg hd, if_neg hd]
  exact key n d rfl rfl (by omega) rfl
theorem good_uniq {p q p' q' : Int} (h : goodQ p q = true) (h' : goodQ p' q' = true) (e : p * q' = p' * q) : p = p' ∧ q = q' := by
 obtain ⟨h1, h2⟩ := goodQ_iff.1 h
 obtain ⟨h3, h4⟩ := goodQ_iff.1 h'
 have en : p.natAbs * q'.natAbs = p'.natAbs * q.natAbs := by rw [← Int.natAbs_mul, ← Int.natAbs_mul, e]
 have d1 : q.natAbs ∣ q'.natAbs := Nat.Coprime.dvd_of_dvd_mul_left (show Nat.Coprime q.natAbs p.natAbs from (Nat.gcd_comm _ _).trans h2) ⟨p'.natAbs, by rw [en, Nat.mul_comm]⟩
 have d2 : q'.natAbs ∣ q.natAbs := Nat.Coprime.dvd_of_dvd_mul_left (show Nat.Coprime q'.natAbs p'.natAbs from (Nat.gcd_comm _ _).trans h4) ⟨p.natAbs, by rw [← en, Nat.mul_comm]⟩
 have eq : q = q' := by have := Nat.dvd_antisymm d1 d2; omega
 subst eq
 exact ⟨Int.eq_of_mul_eq_mul_right (by omega) e, rfl⟩
/-- The fraction n / d. -/
def toQ (n d : Int) : QI := (ofN n d, ofD n d)
theorem toQ_eq {n d n' d' : Int} (h : d ≠ 0) (h' : d' ≠ 0) (e : n * d' = n' * d) : toQ n d = toQ n' d' := by
 obtain ⟨g1, e1, _⟩ := of_spec n h
 obtain ⟨g2, e2, _⟩ := of_spec n' h'
 have q1 := (goodQ_iff.1 g1).1
 have q2 := (goodQ_iff.1 g2).1
 have : ofN n d * ofD n' d' = ofN n' d' * ofD n d := by
  have h3 : (d * d') * (ofN n d * ofD n' d') = (d * d') * (ofN n' d' * ofD n d) := by
   have a1 : ofN n d * d * (d' * ofD n' d') = n * ofD n d * (d' * ofD n' d') := by rw [e1]
   have a2 : ofN n' d' * d' * (d * ofD n d) = n' * ofD n' d' * (d * ofD n d) := by rw [e2]
   have a3 : n * d' * (ofD n d * ofD n' d') = n' * d * (ofD n d * ofD n' d') := by rw [e]
   grind
  exact Int.eq_of_mul_eq_mul_left (Int.mul_ne_zero h h') h3
 obtain ⟨r1, r2⟩ := good_uniq g1 g2 this
 exact Prod.ext r1 r2
theorem toQ_one (z : Int) : toQ z 1 = (z, 1) := Prod.ext (ofN_one z) (ofD_one z)
theorem toQ_sm {n d : Int} (h : d ≠ 0) (hn : Sm n) (hd : Sm d) : SmQ (toQ n d) := by
 obtain ⟨g, _, h1, h2⟩ := of_spec n h
 exact ⟨g, Nat.lt_of_le_of_lt h1 hn, Nat.lt_of_le_of_lt h2 hd⟩
section
variable {a b c d : Int}
theorem ofD_ne (n : Int) (h : d ≠ 0) : ofD n d ≠ 0 := by have := (goodQ_iff.1 (of_spec n h).1).1; omega
theorem mul_toQ (hb : b ≠ 0) (hd : d ≠ 0) : mulQ (toQ a b) (toQ c d) = toQ (a * c) (b * d) := by
 have e1 := (of_spec a hb).2.1
 have e2 := (of_spec c hd).2.1
 refine toQ_eq (Int.mul_ne_zero (ofD_ne a hb) (ofD_ne c hd)) (Int.mul_ne_zero hb hd) ?_
 show ofN a b * ofN c d * (b * d) = a * c * (ofD a b * ofD c d)
 have : (ofN a b * b) * (ofN c d * d) = (a * ofD a b) * (c * ofD c d) := by rw [e1, e2]
 grind
theorem sub_toQ (hb : b ≠ 0) (hd : d ≠ 0) : subQ (toQ a b) (toQ c d) = toQ (a * d - c * b) (b * d) := by
 have e1 := (of_spec a hb).2.1
 have e2 := (of_spec c hd).2.1
 refine toQ_eq (Int.mul_ne_zero (ofD_ne a hb) (ofD_ne c hd)) (Int.mul_ne_zero hb hd) ?_
 show (ofN a b * ofD c d + -ofN c d * ofD a b) * (b * d) = (a * d - c * b) * (ofD a b * ofD c d)
 have h1 : (ofN a b * b) * (ofD c d * d) = (a * ofD a b) * (ofD c d * d) := by rw [e1]
 have h2 : (ofN c d * d) * (ofD a b * b) = (c * ofD c d) * (ofD a b * b) := by rw [e2]
 grind
theorem add_toQ (hb : b ≠ 0) (hd : d ≠ 0) : addQ (toQ a b) (toQ c d) = toQ (a * d + c * b) (b * d) := by
 have e1 := (of_spec a hb).2.1
 have e2 := (of_spec c hd).2.1
 refine toQ_eq (Int.mul_ne_zero (ofD_ne a hb) (ofD_ne c hd)) (Int.mul_ne_zero hb hd) ?_
 show (ofN a b * ofD c d + ofN c d * ofD a b) * (b * d) = (a * d + c * b) * (ofD a b * ofD c d)
 have h1 : (ofN a b * b) * (ofD c d * d) = (a * ofD a b) * (ofD c d * d) := by rw [e1]
 have h2 : (ofN c d * d) * (ofD a b * b) = (c * ofD c d) * (ofD a b * b) := by rw [e2]
 grind
theorem div_toQ (hb : b ≠ 0) (hc : c ≠ 0) : divQ (toQ a b) (c, 1) = toQ a (b * c) := by
 have e1 := (of_spec a hb).2.1
 refine toQ_eq (Int.mul_ne_zero (ofD_ne a hb) hc) (Int.mul_ne_zero hb hc) ?_
 show ofN a b * 1 * (b * c) = a * (ofD a b * c)
 grind
end
end Go.Proofs.YtflgngjocgiojaaGreat
namespace Go.Proofs.YtflgngjocgiojaaGreat
open Go.RowKit

def pk3 (C1 b2 C2 : Nat) : Nat := C1 + 18446744073709551616 * (C2 + 18446744073709551616 * b2)
def un1 (p : Nat) : Nat := p % 18446744073709551616
def un2 (p : Nat) : Nat := p / 18446744073709551616 % 18446744073709551616
def un3 (p : Nat) : Nat := p / 18446744073709551616 / 18446744073709551616
theorem un_pk {C1 b2 C2 : Nat} (h1 : C1 < 18446744073709551616) (h2 : C2 < 18446744073709551616) : un1 (pk3 C1 b2 C2) = C1 ∧ un2 (pk3 C1 b2 C2) = C2 ∧ un3 (pk3 C1 b2 C2) = b2 := by
 unfold un1 un2 un3 pk3
 refine ⟨by omega, by omega, by omega⟩
/-- A maker: a ratio of the reference, and true. -/
def ratCB (T : List Nat) (B : Nat) (z y : Int) : EBS T where
 val p := .tuple #[ratC z y p.1 (un1 p.2) (un3 p.2) (un2 p.2), .bool true]
 R p u := p.1 ∉ T ∧ un3 p.2 ∉ T ∧ NumC u p.1 (un1 p.2) z ∧ NumC u (un3 p.2) (un2 p.2) y ∧ B ≤ un3 p.2 ∧ un3 p.2 < u.heap.size
 st _ _ _ h k := ⟨h.1, h.2.1, h.2.2.1.upd h.1 k, h.2.2.2.1.upd h.2.1 k, h.2.2.2.2.1, Nat.lt_of_lt_of_le h.2.2.2.2.2 k.size⟩
theorem ratCB_val {T : List Nat} {B : Nat} {z y : Int} {p : Nat × Nat} : (ratCB T B z y).val p = .tuple #[ratC z y p.1 (un1 p.2) (un3 p.2) (un2 p.2), .bool true] := rfl
theorem NumC.cap {w : World} {b C : Nat} {z : Int} (h : NumC w b C z) : ∃ C', C' < 18446744073709551616 ∧ slC z b C' = slC z b C ∧ NumC w b C' z := by
 by_cases h1 : fits z = true ∧ z ≠ 0
 ·exact ⟨C, by have := (h h1.1 h1.2).2.1; omega, rfl, h⟩
 ·refine ⟨0, by omega, ?_, fun a b => absurd ⟨a, b⟩ h1⟩
  unfold slC
  rw [if_neg h1, if_neg h1]
/-- A block of digits is no block of cells of another kind. -/
theorem NumC.apart {w : World} {b C : Nat} {z : Int} (h : NumC w b C z) (hf : fits z = true) (h0 : z ≠ 0) {e : Nat} {cs : Array Value} (ho : Own w e cs) (hn : noU cs) : b ≠ e := fun he => by
 subst he
 obtain ⟨_, _, h3⟩ := h hf h0
 have hp : 0 < (digs z.natAbs).length := by
  rcases Nat.eq_zero_or_pos (digs z.natAbs).length with h4 | h4
  ·have := digs_nil.1 (List.eq_nil_of_length_eq_zero h4)
   omega
  ·exact h4
 obtain ⟨b', off, e', _, hc⟩ := h3.row hp
 cases e'
 have h4 := hc 0 hp
 rw [ho.cell] at h4
 exact hn _ _ h4
set_option maxRecDepth 100000 in
set_option maxHeartbeats 4000000 in
theorem ref3_Frac {w : World} (n d : Int) (h1 : -9223372036854775808 ≤ n) (h2 : n ≤ 9223372036854775807) (h3 : 1 ≤ d) (h4 : d ≤ 9223372036854775807) :
  Calls Tryz.prog 40 #[.agg #[.int .i64 n, .int .i64 d]] w (RetY w (ofN n d) (ofD n d)) := by
 obtain ⟨z, hz⟩ : ∃ z, ofN n d = z := ⟨_, rfl⟩
 obtain ⟨y, hy⟩ : ∃ z, ofD n d = z := ⟨_, rfl⟩
 rw [hz, hy]
 obtain ⟨g1, _, g3, g4⟩ := of_spec n (d := d) (by omega)
 rw [hz] at g1 g3
 rw [hy] at g1 g4
 have hy0 : 0 < y := (goodQ_iff.1 g1).1
 have HF : Hid (fits z = true ∧ fits y = true ∧ y ≠ 0 ∧ fits n = true ∧ fits d = true) := Lib.hid ⟨fits_small (by omega), fits_small (by omega), by omega, fits_small (by omega), fits_small (by omega)⟩
 have HE : Hid (ofN n d = z ∧ ofD n d = y ∧ easyD n.natAbs ∧ easyD d.natAbs) := Lib.hid ⟨hz, hy, by unfold easyD; omega, by unfold easyD; omega⟩
 have hd1 : ¬ d < 1 := by omega
 have HN := Lib.hid (And.intro h1 (And.intro h2 (And.intro h3 h4)))
 clear hz hy g1 g3 g4 hy0 h1 h2 h3 h4
 have hW := ((Below.refl w.heap.size w).alloc (Nat.le_refl _) (.cells #[.int .i64 n, .int .i64 d] 79)).alloc (by simp) (.cells #[.bool false, .slice none 0 0, .bool false, .slice none 0 0] 37)
 have o1 : Own ((w.alloc (.cells #[.int .i64 n, .int .i64 d] 79)).alloc (.cells #[.bool false, .slice none 0 0, .bool false, .slice none 0 0] 37)) w.heap.size #[.int .i64 n, .int .i64 d] := (by repeat' (first | ((refine Own.new ?_); (focus (first | rfl | omega | (simp; done) | (simp; omega)))) | assumption | refine Own.alloc ?_ _ | refine Own.drew ?_ | (refine Own.far ?_ ?_ _; rotate_left; (focus (first | rfl | omega | (simp; done) | (simp; omega))))))
 have o2 : Own ((w.alloc (.cells #[.int .i64 n, .int .i64 d] 79)).alloc (.cells #[.bool false, .slice none 0 0, .bool false, .slice none 0 0] 37)) (w.heap.size + 1) #[.bool false, .slice none 0 0, .bool false, .slice none 0 0] := (by repeat' (first | ((refine Own.new ?_); (focus (first | rfl | omega | (simp; done) | (simp; omega)))) | assumption | refine Own.alloc ?_ _ | refine Own.drew ?_ | (refine Own.far ?_ ?_ _; rotate_left; (focus (first | rfl | omega | (simp; done) | (simp; omega))))))
 go_enter Tryz.func40, Tryz.ntmps40
 go_wp2
 generalize ((w.alloc (.cells #[.int .i64 n, .int .i64 d] 79)).alloc (.cells #[.bool false, .slice none 0 0, .bool false, .slice none 0 0] 37)) = W0 at *
 have hzW := hW.size
 have o2l := o2.lt
 refine region_gen (T := []) [.make 2 [] (numCB [] n), .make 5 [] (numCB [] d), .make 6 [2, 5] (ratCB [] W0.heap.size z y), .need 7 [6], .need 9 [], .make 10 [] (ownB [] #[.bool false, .slice none 0 0, .bool false, .slice none 0 0] (fun p => .pointer (some ⟨p, 0, none⟩)))] 11 0 40 (fun _ _ => True) (fun _ _ _ _ _ => trivial) trivial (by kernel_rfl) (by kernel_rfl) (by rfl) ?_
 unfold genWalk
 apply Exists.intro
 apply And.intro
 ·apply Piece.mk
  ·intro f v hv hr hne
   simp only [List.take_succ_cons, List.take_zero, List.drop_zero, Nat.reduceSub]
   have d1 := fun y => (o1.later (v := v) (T := []) (by simp) y).cell
   repeat (go_big_quiet_step (fail))
   refine wpQuiet_nil ?_
   exact rfl
  ·intro f; kernel_rfl
  ·intro f f' hf; kernel_rfl
 simp only [List.take_succ_cons, List.take_zero, List.drop_succ_cons, List.drop_zero, Nat.reduceAdd, oneOp]
 refine ⟨fun f => ⟨rfl, fun u hu _ => ?_⟩, ?_⟩
 ·refine make_call (f := 43) (args := #[.int .i64 n]) (by (try simp only [Act.put, List.setIfInBounds_toArray, List.set_cons_zero, List.set_cons_succ]); (try simp only [newB_val, numB_val, ownB_val, numCB_val, ratCB_val]); go_simp) ?_
  have q := ref3_whole (w := u) n HN.out.1 HN.out.2.1
  refine q.mono ?_
  rintro e wx ⟨⟨b, C, rfl, q1, q2, q3⟩, hbx⟩
  exact ⟨(b, C), rfl, q2, q3, hbx, by simp, q1⟩
 unfold genWalk
 apply Exists.intro
 apply And.intro
 ·apply Piece.mk
  ·intro f v hv hr hne
   simp only [List.take_succ_cons, List.take_zero, List.drop_succ_cons, List.drop_zero, Nat.reduceSub]
   (try simp only [Act.put, List.setIfInBounds_toArray, List.set_cons_zero, List.set_cons_succ])
   (try simp only [numCB_val])
   have d1 := fun y => (o1.later (v := v) (T := []) (by simp) y).cell
   repeat (go_big_quiet_step (fail))
   refine wpQuiet_nil ?_
   exact rfl
  ·intro f; kernel_rfl
  ·intro f f' hf; simp
 simp only [List.take_succ_cons, List.take_zero, List.drop_succ_cons, List.drop_zero, Nat.reduceAdd, oneOp]
 refine ⟨fun f => ⟨rfl, fun u hu _ => ?_⟩, ?_⟩
 ·refine make_call (f := 43) (args := #[.int .i64 d]) (by (try simp only [Act.put, List.setIfInBounds_toArray, List.set_cons_zero, List.set_cons_succ]); (try simp only [newB_val, numB_val, ownB_val, numCB_val, ratCB_val]); go_simp) ?_
  have q := ref3_whole (w := u) d (by have := HN.out.2.2.1; omega) HN.out.2.2.2
  refine q.mono ?_
  rintro e wx ⟨⟨b, C, rfl, q1, q2, q3⟩, hbx⟩
  exact ⟨(b, C), rfl, q2, q3, hbx, by simp, q1⟩
 unfold genWalk
 apply Exists.intro
 apply And.intro
 ·apply Piece.mk
  ·intro f v hv hr hne
   simp only [List.take_zero, List.drop_succ_cons, List.drop_zero, Nat.reduceSub]
   (try simp only [Act.put, List.setIfInBounds_toArray, List.set_cons_zero, List.set_cons_succ])
   (try simp only [numCB_val])
   repeat (go_big_quiet_step (fail))
   refine wpQuiet_nil ?_
   exact rfl
  ·intro f; kernel_rfl
  ·intro f f' hf; simp
 simp only [List.take_succ_cons, List.take_zero, List.drop_succ_cons, List.drop_zero, Nat.reduceAdd, oneOp]
 refine ⟨fun f => ⟨rfl, fun u hu hm => ?_⟩, ?_⟩
 ·refine make_call (f := 44) (args := #[numC n (f 2).1 (f 2).2, numC d (f 5).1 (f 5).2]) (by (try simp only [Act.put, List.setIfInBounds_toArray, List.set_cons_zero, List.set_cons_succ]); (try simp only [newB_val, numB_val, ownB_val, numCB_val, ratCB_val]); go_simp) ?_
  have m2 : NumC u (f 2).1 (f 2).2 n := (hm 2 (by simp)).2
  have m5 : NumC u (f 5).1 (f 5).2 d := (hm 5 (by simp)).2
  have q := ref3_Of (m2.at_ HF.out.2.2.2.1) (m5.at_ HF.out.2.2.2.2) HE.out.2.2.1 HE.out.2.2.2 (by have := HN.out.2.2.1; omega)
  rw [HE.out.1, HE.out.2.1] at q
  refine q.mono ?_
  rintro e wx ⟨⟨b1, C1, b2, C2, rfl, q1, q2, q3, q4, q5, q6⟩, hbx⟩
  obtain ⟨D1, k1, k2, k3⟩ := q1.cap
  obtain ⟨D2, k4, k5, k6⟩ := q2.cap
  obtain ⟨e1, e2, e3⟩ := un_pk (b2 := b2) k1 k4
  refine ⟨(b1, pk3 D1 b2 D2), ?_, q3, q4, hbx, by simp, by simp, ?_, ?_, ?_, ?_⟩
  ·rw [ratCB_val, ratC, ratC]
   simp only [e1, e2, e3]
   rw [k2, k5]
  ·simp only [e1]; exact k3
  ·simp only [e2, e3]; exact k6
  ·simp only [e3]; have := hu.1; omega
  ·simp only [e3]; exact q6
 unfold genWalk
 apply Exists.intro
 apply And.intro
 ·apply Piece.mk
  ·intro f v hv hr hne
   simp only [List.take_zero, List.drop_succ_cons, List.drop_zero, Nat.reduceSub]
   (try simp only [Act.put, List.setIfInBounds_toArray, List.set_cons_zero, List.set_cons_succ])
   (try simp only [ratCB_val])
   repeat (go_big_quiet_step (fail))
   refine wpQuiet_nil ?_
   exact rfl
  ·intro f; kernel_rfl
  ·intro f f' hf; simp
 unfold genWalk
 apply Exists.intro
 apply And.intro
 ·apply Piece.mk
  ·intro f v hv hr hne
   simp only [List.take_succ_cons, List.take_zero, List.drop_succ_cons, List.drop_zero, Nat.reduceSub]
   (try simp only [Act.put, List.setIfInBounds_toArray, List.set_cons_zero, List.set_cons_succ])
   (try simp only [newB_val, numB_val, ownB_val, numCB_val, ratCB_val])
   repeat (go_big_quiet_step (fail))
   refine wpQuiet_nil ?_
   exact rfl
  ·intro f; kernel_rfl
  ·intro f f' hf; first | (simp; done) | (simp [hf 6 (by simp)])
 unfold genWalk
 apply Exists.intro
 apply And.intro
 ·apply Piece.mk
  ·intro f v hv hr hne
   simp only [List.take_succ_cons, List.take_zero, List.drop_succ_cons, List.drop_zero, Nat.reduceSub]
   (try simp only [Act.put, List.setIfInBounds_toArray, List.set_cons_zero, List.set_cons_succ])
   (try simp only [newB_val, numB_val, ownB_val, numCB_val, ratCB_val])
   repeat (go_big_quiet_step (fail))
   refine wpQuiet_nil ?_
   exact rfl
  ·intro f; kernel_rfl
  ·intro f f' hf; simp
 simp only [List.take_succ_cons, List.take_zero, List.drop_succ_cons, List.drop_zero, Nat.reduceAdd, oneOp]
 refine ⟨fun f => ⟨rfl, fun u hu _ => ?_⟩, ?_⟩
 ·refine make_own (e := 37) (by (try simp only [Act.put, List.setIfInBounds_toArray, List.set_cons_zero, List.set_cons_succ]); (try simp only [newB_val, numB_val, ownB_val, numCB_val, ratCB_val]); go_simp) (by simp)
 unfold genWalk
 apply Exists.intro
 apply And.intro
 ·apply Piece.mk
  ·intro f v hv hr hne
   simp only [List.take_zero, List.drop_succ_cons, List.drop_zero, Nat.reduceSub]
   (try simp only [Act.put, List.setIfInBounds_toArray, List.set_cons_zero, List.set_cons_succ])
   (try simp only [ownB_val])
   repeat (go_big_quiet_step (fail))
   refine wpQuiet_nil ?_
   exact rfl
  ·intro f; kernel_rfl
  ·intro f f' hf; simp
 intro f u' hup hph hmade hdist
 obtain ⟨⟨_, _, oN, oM, loM, hiM⟩, loN, hiN⟩ := hmade 6 (by omega) rfl
 obtain ⟨⟨_, o3⟩, lo3, hi3⟩ := hmade 10 (by omega) rfl
 have hne1 := hdist 6 10 (by omega) (by omega) rfl rfl (by omega)
 replace oN : NumC u' (f 6).1 (un1 (f 6).2) z := oN
 replace oM : NumC u' (un3 (f 6).2) (un2 (f 6).2) y := oM
 replace o3 : Own u' (f 10).1 #[.bool false, .slice none 0 0, .bool false, .slice none 0 0] := o3
 have hne2 := oM.apart HF.out.2.1 HF.out.2.2.1 o3 noU_rat
 clear hmade hdist hph
 simp only
 (try simp only [Act.put, List.setIfInBounds_toArray, List.set_cons_zero, List.set_cons_succ])
 (try simp only [ratC])
 generalize (f 6).1 = b1 at *
 generalize un1 (f 6).2 = C1 at *
 generalize un3 (f 6).2 = b2 at *
 generalize un2 (f 6).2 = C2 at *
 generalize (f 10).1 = b3 at *
 generalize numC n (f 2).1 (f 2).2 = y2 at *
 generalize numC d (f 5).1 (f 5).2 = y5 at *
 clear f
 have hwU : Below w.heap.size w u' := Upd.below hW hup (by simp)
 have q4 := o2.upd hup (by simp)
 have hkT := Upd.keeps (Keeps.refl _ _) hup
 obtain ⟨A7, n7, c7, hs7⟩ := slC_form z b1 C1
 obtain ⟨A8, n8, c8, hs8⟩ := slC_form y b2 C2
 rw [hs7, hs8]
 have HSL := Lib.hid (And.intro hs7 hs8)
 have o3c := o3.cell
 have o3f := o3.thaw
 have hB2 : w.heap.size + 1 < b3 := by omega
 have hB3 : w.heap.size + 1 < b1 := by omega
 have hB4 : w.heap.size + 1 < b2 := by omega
 clear hs7 hs8 o1 o2 hup hW
 refine effc_mem (by rfl) (fun K hK => ?_)
 go_simp
 refine hK _ _ ((((hkT.new (p := ⟨b3, 0, none⟩) lo3 (.bool (sgnN z))).new (p := ⟨b3, 1, none⟩) lo3 (.slice A7 n7 c7)).new (p := ⟨b3, 2, none⟩) lo3 (.bool (sgnN y))).new (p := ⟨b3, 3, none⟩) lo3 (.slice A8 n8 c8)) (fun u3 hu3 => ?_)
 clear hK K
 have hs3 := hu3.size
 simp [World.setCell] at hs3
 have hw2 := (((((hwU.setCell (p := ⟨b3, 0, none⟩) (by simp; omega) (.bool (sgnN z))).setCell (p := ⟨b3, 1, none⟩) (by simp; omega) (.slice A7 n7 c7)).setCell (p := ⟨b3, 2, none⟩) (by simp; omega) (.bool (sgnN y))).setCell (p := ⟨b3, 3, none⟩) (by simp; omega) (.slice A8 n8 c8))).trans (hu3.mono (by simp [World.setCell]; exact hwU.size))
 have k3 := (((((o3.set 0 (.bool (sgnN z))).set 1 (.slice A7 n7 c7)).set 2 (.bool (sgnN y))).set 3 (.slice A8 n8 c8))).below hu3
 have k4 := (((((q4.far (p := ⟨b3, 0, none⟩) (by simp; omega) (.bool (sgnN z))).far (p := ⟨b3, 1, none⟩) (by simp; omega) (.slice A7 n7 c7)).far (p := ⟨b3, 2, none⟩) (by simp; omega) (.bool (sgnN y))).far (p := ⟨b3, 3, none⟩) (by simp; omega) (.slice A8 n8 c8))).below hu3
 have N1 := Lib.hid (And.intro hB3 (And.intro (Nat.lt_of_lt_of_le hiN hs3) ((((((oN.far (p := ⟨b3, 0, none⟩) (by simp; omega) (.bool (sgnN z))).far (p := ⟨b3, 1, none⟩) (by simp; omega) (.slice A7 n7 c7)).far (p := ⟨b3, 2, none⟩) (by simp; omega) (.bool (sgnN y))).far (p := ⟨b3, 3, none⟩) (by simp; omega) (.slice A8 n8 c8))).below hu3)))
 have N2 := Lib.hid (And.intro hB4 (And.intro (Nat.lt_of_lt_of_le hiM hs3) ((((((oM.far (p := ⟨b3, 0, none⟩) (by simp; omega) (.bool (sgnN z))).far (p := ⟨b3, 1, none⟩) (by simp; omega) (.slice A7 n7 c7)).far (p := ⟨b3, 2, none⟩) (by simp; omega) (.bool (sgnN y))).far (p := ⟨b3, 3, none⟩) (by simp; omega) (.slice A8 n8 c8))).below hu3)))
 have hk1 := (((((hkT.new (p := ⟨b3, 0, none⟩) lo3 (.bool (sgnN z))).new (p := ⟨b3, 1, none⟩) lo3 (.slice A7 n7 c7)).new (p := ⟨b3, 2, none⟩) lo3 (.bool (sgnN y))).new (p := ⟨b3, 3, none⟩) lo3 (.slice A8 n8 c8))).later hu3
 clear o3 o3c o3f q4 oN oM hkT hu3 hwU
 refine effc_mem (by rfl) (fun K hK => ?_)
 go_simp
 refine hK _ _ hk1 (fun u4 hu4 => ?_)
 clear hK K
 refine effc_nil ?_
 (try simp only [Act.put, List.setIfInBounds_toArray, List.set_cons_zero, List.set_cons_succ])
 have hw3 := hw2.trans (hu4.mono hw2.size)
 have j3 := k3.below hu4
 have j4 := k4.below hu4
 have J1 := Lib.hid (And.intro N1.out.1 (And.intro (Nat.lt_of_lt_of_le N1.out.2.1 hu4.size) (N1.out.2.2.below hu4)))
 have J2 := Lib.hid (And.intro N2.out.1 (And.intro (Nat.lt_of_lt_of_le N2.out.2.1 hu4.size) (N2.out.2.2.below hu4)))
 have j3c := j3.cell
 have j4c := j4.cell
 have j4f := j4.thaw
 have j4z := j4.lt
 clear k3 k4 N1 N2 hu4 hw2 hk1
 go_wp2
 have hz3 := hw3.size
 refine retC (b := w.heap.size + 1) (v := .agg #[(.bool (sgnN z)), (.slice A7 n7 c7), (.bool (sgnN y)), (.slice A8 n8 c8)]) ((((j4.set 0 (.bool (sgnN z))).set 1 (.slice A7 n7 c7)).set 2 (.bool (sgnN y))).set 3 (.slice A8 n8 c8)) (fun w' hw' => by simp [results, Tryz.results40, go_sem, hw']) rfl ⟨⟨_, _, _, _, _, _, _, _, rfl, ratX_ref (((((J1.out.2.2.far (p := ⟨w.heap.size + 1, 0, none⟩) (by simp; omega) (.bool (sgnN z))).far (p := ⟨w.heap.size + 1, 1, none⟩) (by simp; omega) (.slice A7 n7 c7)).far (p := ⟨w.heap.size + 1, 2, none⟩) (by simp; omega) (.bool (sgnN y))).far (p := ⟨w.heap.size + 1, 3, none⟩) (by simp; omega) (.slice A8 n8 c8))) (((((J2.out.2.2.far (p := ⟨w.heap.size + 1, 0, none⟩) (by simp; omega) (.bool (sgnN z))).far (p := ⟨w.heap.size + 1, 1, none⟩) (by simp; omega) (.slice A7 n7 c7)).far (p := ⟨w.heap.size + 1, 2, none⟩) (by simp; omega) (.bool (sgnN y))).far (p := ⟨w.heap.size + 1, 3, none⟩) (by simp; omega) (.slice A8 n8 c8))) HF.out.1 HF.out.2.1 (by have := J1.out.2.1; simp [World.setCell]; omega) (by have := J2.out.2.1; simp [World.setCell]; omega) (by show _ ≤ _; omega) (by show _ ≤ _; omega) HSL.out.1 HSL.out.2⟩, ((((hw3.setCell (p := ⟨w.heap.size + 1, 0, none⟩) (by simp) (.bool (sgnN z))).setCell (p := ⟨w.heap.size + 1, 1, none⟩) (by simp) (.slice A7 n7 c7)).setCell (p := ⟨w.heap.size + 1, 2, none⟩) (by simp) (.bool (sgnN y))).setCell (p := ⟨w.heap.size + 1, 3, none⟩) (by simp) (.slice A8 n8 c8))⟩
set_option maxRecDepth 100000 in
set_option maxHeartbeats 4000000 in
theorem law05_half {w : World} (n : Int) (h1 : -9223372036854775808 ≤ n) (h2 : n ≤ 9223372036854775807) : Calls Tryz.prog 33 #[.int .i64 n] w (RetY w (ofN n 2) (ofD n 2)) := by
 obtain ⟨z, hz⟩ : ∃ z, ofN n 2 = z := ⟨_, rfl⟩
 obtain ⟨y, hy⟩ : ∃ z, ofD n 2 = z := ⟨_, rfl⟩
 rw [hz, hy]
 have HE := Lib.hid (And.intro hz (And.intro hy (And.intro h1 h2)))
 clear hz hy h1 h2
 have hW := (Below.refl w.heap.size w).alloc (Nat.le_refl _) (.cells #[.bool false, .slice none 0 0, .bool false, .slice none 0 0] 37)
 have o2 : Own (w.alloc (.cells #[.bool false, .slice none 0 0, .bool false, .slice none 0 0] 37)) w.heap.size #[.bool false, .slice none 0 0, .bool false, .slice none 0 0] := (by repeat' (first | ((refine Own.new ?_); (focus (first | rfl | omega | (simp; done) | (simp; omega)))) | assumption | refine Own.alloc ?_ _ | refine Own.drew ?_ | (refine Own.far ?_ ?_ _; rotate_left; (focus (first | rfl | omega | (simp; done) | (simp; omega))))))
 go_enter Tryz.func33, Tryz.ntmps33
 go_wp2_with fail
 generalize (w.alloc (.cells #[.bool false, .slice none 0 0, .bool false, .slice none 0 0] 37)) = W0 at *
 have q := ref3_Frac (w := W0) n 2 HE.out.2.2.1 HE.out.2.2.2 (by omega) (by omega)
 rw [HE.out.1, HE.out.2.1] at q
 refine Calls.mono q ?_
 clear q
 rintro e u1 ⟨⟨s1, A1, n1, c1, s2, A2, n2, c2, rfl, hx⟩, hb⟩
 have hw1 := hW.trans (hb.mono hW.size)
 have p2 := o2.below hb
 have p2c := p2.cell
 have p2f := p2.thaw
 have p2z := p2.lt
 have HX := Lib.hid (And.intro o2.lt hx)
 clear hb hW o2 hx
 go_wp2
 refine retC (b := w.heap.size) (v := .agg #[.bool s1, .slice A1 n1 c1, .bool s2, .slice A2 n2 c2]) ((((p2.set 0 _).set 1 _).set 2 _).set 3 _) (fun w' hw' => by simp [results, Tryz.results33, go_sem, hw']) rfl ⟨⟨_, _, _, _, _, _, _, _, rfl, HX.out.2.move (by simp [World.setCell]) fun b _ hX => ⟨?_, ?_⟩⟩, (((hw1.setCell (Nat.le_refl _) _).setCell (Nat.le_refl _) _).setCell (Nat.le_refl _) _).setCell (Nat.le_refl _) _⟩
 ·have hX : W0.heap.size ≤ b := hX
  have h9 : b ≠ w.heap.size := by have := HX.out.1; omega
  exact (((Below.heap_setCell _ _ _ b h9).trans (Below.heap_setCell _ _ _ b h9)).trans (Below.heap_setCell _ _ _ b h9)).trans (Below.heap_setCell _ _ _ b h9)
 ·have hX : W0.heap.size ≤ b := hX
  show w.heap.size ≤ b
  have := HX.out.1
  omega
end Go.Proofs.YtflgngjocgiojaaGreat
