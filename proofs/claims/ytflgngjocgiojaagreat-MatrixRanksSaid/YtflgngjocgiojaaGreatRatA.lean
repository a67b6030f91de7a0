/- Ratio: zero, one, quotient, minus. -/
import Derived.Test.YtflgngjocgiojaaGreatNumS
namespace Go.Proofs.YtflgngjocgiojaaGreat
open Go.RowKit

theorem fits_small {z : Int} (h : z.natAbs < 18446744073709551616) : fits z = true := by
 have : (digs z.natAbs).length ≤ 2 := digs_len.2 (by omega)
 exact decide_eq_true (by omega)
set_option maxRecDepth 100000 in
set_option maxHeartbeats 2000000 in
theorem num_Of {w : World} (n : Int) (h1 : -9223372036854775808 ≤ n) (h2 : n ≤ 9223372036854775807) : Calls Tryz.prog 21 #[.int .i64 n] w fun r w' => (∃ b, r = .returned (numV n b) ∧ NumO w' b n ∧ w.heap.size ≤ b ∧ b < w'.heap.size) ∧ Below w.heap.size w w' := by
 obtain ⟨m, hm⟩ : ∃ m, n.natAbs = m := ⟨_, rfl⟩
 obtain ⟨lo, hlo⟩ : ∃ l, m % 4294967296 = l := ⟨_, rfl⟩
 obtain ⟨hi, hhi⟩ : ∃ l, m / 4294967296 = l := ⟨_, rfl⟩
 have hmb : m < 18446744073709551616 := by omega
 have hlo1 : lo < 4294967296 := by omega
 have hhi1 : hi < 4294967296 := by omega
 have hc1 : IntKind.u32.wrap (m : Int) = (lo : Int) := by rw [IntKind.wrap_u32]; omega
 have hc2 : (m : Int) / 4294967296 = (hi : Int) := by omega
 have hc3 : IntKind.u32.wrap (hi : Int) = (hi : Int) := by rw [IntKind.wrap_u32]; omega
 have HM := Lib.hid (And.intro hm (And.intro hlo hhi))
 have hW := ((Below.refl w.heap.size w).alloc (Nat.le_refl _) (.cells #[.bool false, .slice none 0 0] 35)).alloc (by simp) (.cells #[.int .u32 lo, .int .u32 hi] 97)
 have o2 : Own ((w.alloc (.cells #[.bool false, .slice none 0 0] 35)).alloc (.cells #[.int .u32 lo, .int .u32 hi] 97)) w.heap.size #[.bool false, .slice none 0 0] := (by repeat' (first | ((refine Own.new ?_); (focus (first | rfl | omega | (simp; done) | (simp; omega)))) | assumption | refine Own.alloc ?_ _ | refine Own.drew ?_ | (refine Own.far ?_ ?_ _; rotate_left; (focus (first | rfl | omega | (simp; done) | (simp; omega))))))
 have oD : OwnD ((w.alloc (.cells #[.bool false, .slice none 0 0] 35)).alloc (.cells #[.int .u32 lo, .int .u32 hi] 97)) (w.heap.size + 1) [lo, hi] := Own.new (by simp)
 have hD := oD.digs (fun d hd => by
  simp at hd
  rcases hd with rfl | rfl <;> assumption)
 have HD := Lib.hid hD
 clear oD hD
 by_cases hn : n < 0
 ·obtain ⟨x, hx⟩ : ∃ x, 18446744073709551616 - m = x := ⟨_, rfl⟩
  have hc4 : IntKind.u64.wrap n = (x : Int) := by rw [IntKind.wrap_u64]; omega
  have hc5 : IntKind.u64.wrap (-(x : Int)) = (m : Int) := by rw [IntKind.wrap_u64]; omega
  clear hm hlo hhi hx
  go_enter Tryz.func21, Tryz.ntmps21
  go_wp2_with fail
  have hz0 := hW.size
  generalize ((w.alloc (.cells #[.bool false, .slice none 0 0] 35)).alloc (.cells #[.int .u32 lo, .int .u32 hi] 97)) = W0 at *
  refine Calls.mono (HD.out.number (z := n) 2 (Nat.le_refl _) (by omega) (by rw [vD_cons, vD_cons, vD_nil, Nat.mul_zero, Nat.add_zero]; have e := HM.out; unfold sg; simp; omega)) ?_
  rintro e u6 ⟨⟨b, rfl, hb1, hb2, hb3⟩, hb4⟩
  have hbA := hb4.trans ((Below.refl u6.heap.size u6).alloc (Nat.le_refl _) (.cells #[.bool (sgnN n), slN n b] 35) |>.mono hb4.size)
  have N1 := Lib.hid (And.intro (Nat.lt_of_lt_of_le o2.lt hb1) (And.intro hb2 (hb3.below ((Below.refl u6.heap.size u6).alloc (Nat.le_refl _) (.cells #[.bool (sgnN n), slN n b] 35)))))
  have hzA : (u6.alloc (.cells #[.bool (sgnN n), slN n b] 35)).heap.size = u6.heap.size + 1 := by simp
  obtain ⟨A9, n9, c9, hsl⟩ := slN_form n b
  simp only [numV]
  rw [hsl] at hbA N1 hzA ⊢
  have HSL := Lib.hid hsl
  have p2 := o2.below hbA
  have p2c := p2.cell
  have p2f := p2.thaw
  have p2z := p2.lt
  have hW9 := hW.trans (hbA.mono hz0)
  clear hsl hb1 hb2 hb3 hb4
  go_wp2
  refine retC (b := w.heap.size) (v := .agg #[.bool (sgnN n), .slice A9 n9 c9]) ((p2.set 0 _).set 1 _) (fun w' hw' => by simp [results, Tryz.results21, go_sem, hw']) rfl ⟨⟨b, by rw [numV, HSL.out], (N1.out.2.2.far (p := ⟨w.heap.size, 0, none⟩) (by simp; have := N1.out.1; omega) _).far (p := ⟨w.heap.size, 1, none⟩) (by simp; have := N1.out.1; omega) _, by have := N1.out.1; omega, by have := N1.out.2.1; simp; omega⟩, (hW9.setCell (by simp) _).setCell (by simp) _⟩
 ·have hc4 : IntKind.u64.wrap n = (m : Int) := by rw [IntKind.wrap_u64]; omega
  clear hm hlo hhi
  go_enter Tryz.func21, Tryz.ntmps21
  go_wp2_with fail
  have hz0 := hW.size
  generalize ((w.alloc (.cells #[.bool false, .slice none 0 0] 35)).alloc (.cells #[.int .u32 lo, .int .u32 hi] 97)) = W0 at *
  refine Calls.mono (HD.out.number (z := n) 2 (Nat.le_refl _) (by omega) (by rw [vD_cons, vD_cons, vD_nil, Nat.mul_zero, Nat.add_zero]; have e := HM.out; unfold sg; simp; omega)) ?_
  rintro e u6 ⟨⟨b, rfl, hb1, hb2, hb3⟩, hb4⟩
  have hbA := hb4.trans ((Below.refl u6.heap.size u6).alloc (Nat.le_refl _) (.cells #[.bool (sgnN n), slN n b] 35) |>.mono hb4.size)
  have N1 := Lib.hid (And.intro (Nat.lt_of_lt_of_le o2.lt hb1) (And.intro hb2 (hb3.below ((Below.refl u6.heap.size u6).alloc (Nat.le_refl _) (.cells #[.bool (sgnN n), slN n b] 35)))))
  have hzA : (u6.alloc (.cells #[.bool (sgnN n), slN n b] 35)).heap.size = u6.heap.size + 1 := by simp
  obtain ⟨A9, n9, c9, hsl⟩ := slN_form n b
  simp only [numV]
  rw [hsl] at hbA N1 hzA ⊢
  have HSL := Lib.hid hsl
  have p2 := o2.below hbA
  have p2c := p2.cell
  have p2f := p2.thaw
  have p2z := p2.lt
  have hW9 := hW.trans (hbA.mono hz0)
  clear hsl hb1 hb2 hb3 hb4
  go_wp2
  refine retC (b := w.heap.size) (v := .agg #[.bool (sgnN n), .slice A9 n9 c9]) ((p2.set 0 _).set 1 _) (fun w' hw' => by simp [results, Tryz.results21, go_sem, hw']) rfl ⟨⟨b, by rw [numV, HSL.out], (N1.out.2.2.far (p := ⟨w.heap.size, 0, none⟩) (by simp; have := N1.out.1; omega) _).far (p := ⟨w.heap.size, 1, none⟩) (by simp; have := N1.out.1; omega) _, by have := N1.out.1; omega, by have := N1.out.2.1; simp; omega⟩, (hW9.setCell (by simp) _).setCell (by simp) _⟩
end Go.Proofs.YtflgngjocgiojaaGreat
namespace Go.Proofs.YtflgngjocgiojaaGreat
open Go.RowKit

def digOf : Option Value → Nat
 | some (.int .u32 d) => d.toNat
 | _ => 0
/-- The value that a slice reads as. -/
def slVal (w : World) : Value → Nat
 | .slice (some a) n _ => vD ((List.range n).map fun i => digOf (w.cell? ⟨a.block, a.off + i, none⟩))
 | _ => 0
theorem SlD.val {w : World} {v : Value} {M : Nat} (h : SlD w v M) : slVal w v = M := by
 obtain ⟨A, n, c, rfl, h1, h2, h3⟩ := h
 rcases Nat.eq_zero_or_pos n with h0 | h0
 ·subst h0
  have e : digs M = [] := List.eq_nil_of_length_eq_zero h3.len
  rw [digs_nil.1 e]
  cases A <;> rfl
 ·obtain ⟨b, off, rfl, hb, hc⟩ := h3.row h0
  unfold slVal
  have e : ((List.range n).map fun i => digOf (w.cell? ⟨b, off + i, none⟩)) = digs M := by
   refine List.ext_getElem (by simp [h3.len]) (fun i g1 g2 => ?_)
   simp at g1
   rw [List.getElem_map, List.getElem_range, hc i g1, ← dAt_in g2]
   simp [digOf]
  show vD ((List.range n).map fun i => digOf (w.cell? ⟨b, off + i, none⟩)) = M
  rw [e, digs_val]
set_option maxRecDepth 100000 in
set_option maxHeartbeats 2000000 in
theorem num_Gcd {w : World} {v1 v2 : Value} {z1 z2 : Int} (h1 : NumAt w v1 z1) (h2 : NumAt w v2 z2) : Calls Tryz.prog 23 #[v1, v2] w (RetN w (Nat.gcd z1.natAbs z2.natAbs : Nat)) := by
 obtain ⟨z, hz⟩ : ∃ z, ((Nat.gcd z1.natAbs z2.natAbs : Nat) : Int) = z := ⟨_, rfl⟩
 rw [hz]
 have G1 := Lib.hid h1
 have G2 := Lib.hid h2
 obtain ⟨r1, k1⟩ := h1.raw
 obtain ⟨r2, k2⟩ := h2.raw
 obtain ⟨A1, n1, c1, rfl, hc1, hm1, hl1, d1⟩ := h1
 obtain ⟨A2, n2, c2, rfl, hc2, hm2, hl2, d2⟩ := h2
 obtain ⟨s1, hs1⟩ : ∃ s, decide (z1 < 0) = s := ⟨_, rfl⟩
 obtain ⟨s2, hs2⟩ : ∃ s, decide (z2 < 0) = s := ⟨_, rfl⟩
 rw [hs1] at r1 k1 G1 ⊢
 rw [hs2] at r2 k2 G2 ⊢
 have H := Lib.hid (And.intro hz (And.intro hs1 hs2))
 have D1 := Lib.hid d1
 have D2 := Lib.hid d2
 have R1 := Lib.hid (And.intro r1 k1)
 have R2 := Lib.hid (And.intro r2 k2)
 clear hz hs1 hs2 d1 d2 r1 k1 r2 k2
 go_enter Tryz.func23, Tryz.ntmps23
 have hW := ((((Below.refl w.heap.size w).alloc (Nat.le_refl _) (.cells #[.bool s1, .slice A1 n1 c1] 35)).alloc (by simp) (.cells #[.bool s2, .slice A2 n2 c2] 35)).alloc (by simp; omega) (.cells #[.bool false, .slice none 0 0] 35))
 go_wp2_with fail
 have o3 : Own (((w.alloc (.cells #[.bool s1, .slice A1 n1 c1] 35)).alloc (.cells #[.bool s2, .slice A2 n2 c2] 35)).alloc (.cells #[.bool false, .slice none 0 0] 35)) w.heap.size #[.bool s1, .slice A1 n1 c1] := (by repeat' (first | ((refine Own.new ?_); (focus (first | rfl | omega | (simp; done) | (simp; omega)))) | assumption | refine Own.alloc ?_ _ | refine Own.drew ?_ | (refine Own.far ?_ ?_ _; rotate_left; (focus (first | rfl | omega | (simp; done) | (simp; omega))))))
 have o4 : Own (((w.alloc (.cells #[.bool s1, .slice A1 n1 c1] 35)).alloc (.cells #[.bool s2, .slice A2 n2 c2] 35)).alloc (.cells #[.bool false, .slice none 0 0] 35)) (w.heap.size + 1) #[.bool s2, .slice A2 n2 c2] := (by repeat' (first | ((refine Own.new ?_); (focus (first | rfl | omega | (simp; done) | (simp; omega)))) | assumption | refine Own.alloc ?_ _ | refine Own.drew ?_ | (refine Own.far ?_ ?_ _; rotate_left; (focus (first | rfl | omega | (simp; done) | (simp; omega))))))
 have o6 : Own (((w.alloc (.cells #[.bool s1, .slice A1 n1 c1] 35)).alloc (.cells #[.bool s2, .slice A2 n2 c2] 35)).alloc (.cells #[.bool false, .slice none 0 0] 35)) (w.heap.size + 1 + 1) #[.bool false, .slice none 0 0] := (by repeat' (first | ((refine Own.new ?_); (focus (first | rfl | omega | (simp; done) | (simp; omega)))) | assumption | refine Own.alloc ?_ _ | refine Own.drew ?_ | (refine Own.far ?_ ?_ _; rotate_left; (focus (first | rfl | omega | (simp; done) | (simp; omega))))))
 generalize (((w.alloc (.cells #[.bool s1, .slice A1 n1 c1] 35)).alloc (.cells #[.bool s2, .slice A2 n2 c2] 35)).alloc (.cells #[.bool false, .slice none 0 0] 35)) = W0 at *
 refine Calls.mono (right_ok ⟨R1.out.1.below hW, R1.out.2⟩) ?_
 rintro e u1 ⟨rfl, hb1⟩
 have hz0 := hW.size
 have hW1 := hW.trans (hb1.mono hz0)
 have p3 := o3.below hb1
 have p4 := o4.below hb1
 have p6 := o6.below hb1
 clear o3 o4 o6 hb1
 have p4c := p4.cell
 go_wp2_with fail
 refine Calls.mono (right_ok ⟨R2.out.1.below hW1, R2.out.2⟩) ?_
 rintro e u2 ⟨rfl, hb2⟩
 have hz1 := hW1.size
 have hWW := hW1.trans (hb2.mono hz1)
 replace p3 := p3.below hb2
 replace p4 := p4.below hb2
 replace p6 := p6.below hb2
 clear p4c hb2 hW1
 have X1 := Lib.hid (D1.out.below hWW)
 have X2 := Lib.hid (D2.out.below hWW)
 have hzW := hWW.size
 have p6z := p6.lt
 clear D1 D2 R1 R2 hz0 hz1 hW
 have p3c := p3.cell
 have p4c := p4.cell
 go_wp2
 refine region_late 4 [] (by kernel_rfl) (by kernel_rfl) (by rfl) ?_
 apply Exists.intro
 refine ⟨fun v hv hne => ?_, fun u hu => ?_⟩
 ·simp only [List.take_succ_cons, List.take_zero]
  have d3 := fun y => (p3.later (v := v) (T := []) (by simp) y).cell
  have d4 := fun y => (p4.later (v := v) (T := []) (by simp) y).cell
  repeat (go_big_quiet_step (fail))
  refine wpQuiet_nil ?_
  exact rfl
 simp only [List.drop_succ_cons, List.drop_zero]
 refine late_mem (fun K hK => ?_)
 go_simp
 refine hK _ _ (Keeps.of_below hu) (fun u3 hu3 => ?_)
 clear hK K
 replace hu := hu.trans (hu3.mono hu.size)
 clear hu3
 refine late_mem (fun K hK => ?_)
 go_simp
 refine hK _ _ (Keeps.of_below hu) (fun u4 hu4 => ?_)
 clear hK K
 replace hu := hu.trans (hu4.mono hu.size)
 replace hWW := hWW.trans (hu.mono hzW)
 replace hzW := hWW.size
 replace p6 := p6.below hu
 have S1 : SlD u4 (.slice A1 n1 c1) z1.natAbs := ⟨A1, n1, c1, rfl, hc1, hm1, X1.out.below hu⟩
 have S2 : SlD u4 (.slice A2 n2 c2) z2.natAbs := ⟨A2, n2, c2, rfl, hc2, hm2, X2.out.below hu⟩
 obtain ⟨z1a, hz1a⟩ : ∃ x, z1.natAbs = x := ⟨_, rfl⟩
 obtain ⟨z2a, hz2a⟩ : ∃ x, z2.natAbs = x := ⟨_, rfl⟩
 have hB1 : z1a < 4294967296 ^ 64 := by rw [← hz1a]; exact digs_len.1 (by rw [X1.out.len]; exact hl1)
 have hB2 : z2a < 4294967296 ^ 64 := by rw [← hz2a]; exact digs_len.1 (by rw [X2.out.len]; exact hl2)
 have HH := H.out.1
 rw [hz1a] at S1 HH
 rw [hz2a] at S2 HH
 have HG := Lib.hid (And.intro HH (And.intro hB1 hB2))
 clear hz1a hz2a HH hB1 hB2 H X1 X2 hu hu4 p3 p4 p3c p4c p6z G1 G2
 generalize Value.slice A1 n1 c1 = V1 at *
 generalize Value.slice A2 n2 c2 = V2 at *
 refine late_nil ?_
 (try simp only [Act.put, List.setIfInBounds_toArray, List.set_cons_zero, List.set_cons_succ])
 go_wp2
 go_loopw [6, 7] (fun x y wr => ∃ (a b : Nat), ((Nat.gcd a b : Nat) : Int) = z ∧ a < 4294967296 ^ 64 ∧ b < 4294967296 ^ 64 ∧ SlD wr x a ∧ SlD wr y b ∧ Below w.heap.size w wr ∧ Own wr (w.heap.size + 1 + 1) #[.bool false, .slice none 0 0]) (fun _ y wr => slVal wr y)
 case atStart => exact ⟨z1a, z2a, HG.out.1, HG.out.2.1, HG.out.2.2, S1, S2, hWW, p6⟩
 case round =>
  clear hWW hzW p6 S1 S2 HG
  obtain ⟨a, b, hg, ha, hb, hx, hy, hW5, q6⟩ := hrel
  have HX := Lib.hid hx
  have HY := Lib.hid hy
  obtain ⟨A7, n7, c7, rfl, l7, m7, d7⟩ := hx
  obtain ⟨A8, n8, c8, rfl, l8, m8, d8⟩ := hy
  have hn7 : n7 ≤ 64 := by rw [← d7.len]; exact digs_len.2 ha
  have hn8 : n8 ≤ 64 := by rw [← d8.len]; exact digs_len.2 hb
  have D7 := Lib.hid d7
  have D8 := Lib.hid d8
  have HG := Lib.hid (And.intro hg (And.intro ha hb))
  have hz5 := hW5.size
  have q6z := q6.lt
  clear hg ha hb d7 d8
  obtain ⟨mx, hmx⟩ : ∃ mx : Nat, max n7 n8 = mx := ⟨_, rfl⟩
  have hmxi : max (n7 : Int) (n8 : Int) = (mx : Int) := by omega
  have HMX := Lib.hid hmx
  clear hmx
  rcases Nat.eq_zero_or_pos n8 with h0 | h0
  ·subst h0
   have HZ : Hid (z = sg false a) := Lib.hid (by
    have e : b = 0 := digs_nil.1 (List.eq_nil_of_length_eq_zero D8.out.len)
    rw [← HG.out.1, e, Nat.gcd_zero_right]
    rfl)
   by_cases hm2 : 2 < mx
   ·have hm2i : (2 : Int) < (mx : Int) := by omega
    go_wp2_with fail
    refine Calls.mono (D7.out.number (z := z) c7 l7 m7 (by rw [digs_val]; exact HZ.out.symm)) ?_
    rintro e w9 ⟨⟨b9, rfl, hb1, hb2, hb3⟩, hb4⟩
    have hbB := hW5.trans (hb4.mono hz5)
    have r6 := q6.below hb4
    have r6c := r6.cell
    have r6f := r6.thaw
    have r6z := r6.lt
    have HB := Lib.hid (And.intro hb1 (And.intro hb2 hb3))
    clear q6 hb1 hb2 hb3 hb4
    obtain ⟨A9, n9, c9, hsl⟩ := slN_form z b9
    simp only [numV]
    rw [hsl]
    have HSL := Lib.hid hsl
    clear hsl
    go_wp2
    refine retC (b := w.heap.size + 1 + 1) (v := .tuple #[.agg #[.bool (sgnN z), .slice A9 n9 c9], .bool (fits z)]) ((r6.set 0 _).set 1 _) (fun w' hw' => by simp [results, Tryz.results23, go_sem, hw']) rfl ⟨⟨b9, by rw [numV, HSL.out], Nat.le_trans hz5 HB.out.1, by simp; exact HB.out.2.1, (HB.out.2.2.far (p := ⟨w.heap.size + 1 + 1, 0, none⟩) (by simp; have := HB.out.1; omega) _).far (p := ⟨w.heap.size + 1 + 1, 1, none⟩) (by simp; have := HB.out.1; omega) _⟩, (hbB.setCell (by simp; omega) _).setCell (by simp; omega) _⟩
   ·have hm2i : ¬ (2 : Int) < (mx : Int) := by omega
    go_wp2_with fail
    refine Calls.mono (D7.out.number (z := z) c7 l7 m7 (by rw [digs_val]; exact HZ.out.symm)) ?_
    rintro e w9 ⟨⟨b9, rfl, hb1, hb2, hb3⟩, hb4⟩
    have hbB := hW5.trans (hb4.mono hz5)
    have r6 := q6.below hb4
    have r6c := r6.cell
    have r6f := r6.thaw
    have r6z := r6.lt
    have HB := Lib.hid (And.intro hb1 (And.intro hb2 hb3))
    clear q6 hb1 hb2 hb3 hb4
    obtain ⟨A9, n9, c9, hsl⟩ := slN_form z b9
    simp only [numV]
    rw [hsl]
    have HSL := Lib.hid hsl
    clear hsl
    go_wp2
    refine retC (b := w.heap.size + 1 + 1) (v := .tuple #[.agg #[.bool (sgnN z), .slice A9 n9 c9], .bool (fits z)]) ((r6.set 0 _).set 1 _) (fun w' hw' => by simp [results, Tryz.results23, go_sem, hw']) rfl ⟨⟨b9, by rw [numV, HSL.out], Nat.le_trans hz5 HB.out.1, by simp; exact HB.out.2.1, (HB.out.2.2.far (p := ⟨w.heap.size + 1 + 1, 0, none⟩) (by simp; have := HB.out.1; omega) _).far (p := ⟨w.heap.size + 1 + 1, 1, none⟩) (by simp; have := HB.out.1; omega) _⟩, (hbB.setCell (by simp; omega) _).setCell (by simp; omega) _⟩
  ·have h0i : (0 : Int) < (n8 : Int) := by omega
   have h0n : ¬ (n8 : Int) = 0 := by omega
   by_cases hm2 : 2 < mx
   ·have hm2i : (2 : Int) < (mx : Int) := by omega
    have hb0 : 0 < b := by
     apply Classical.byContradiction
     intro h
     have e : b = 0 := by omega
     have := D8.out.len
     rw [e] at this
     simp [digs_zero] at this
     omega
    have HB0 := Lib.hid hb0
    clear hb0
    go_wp2_with fail
    refine Calls.mono (mag_over c7 c8 D7.out D8.out (by omega) (by omega) l7 m7 HB0.out) ?_
    rintro e w5 ⟨⟨x1, x2, rfl, e1, e2⟩, hb5⟩
    have hY5 := Lib.hid (HY.out.below hb5)
    have hW6 := hW5.trans (hb5.mono hz5)
    have q7 := q6.below hb5
    have E2 := Lib.hid e2
    clear e1 e2
    go_wp2
    go_roundw
    case rel => exact ⟨b, a % b, by rw [← HG.out.1, Nat.gcd_comm b (a % b), ← Nat.gcd_rec, Nat.gcd_comm], HG.out.2.2, Nat.lt_trans (Nat.mod_lt _ HB0.out) HG.out.2.2, hY5.out, E2.out, hW6, q7⟩
    case measure => rw [E2.out.val, HY.out.val]; exact Nat.mod_lt _ HB0.out
   ·have hm2i : ¬ (2 : Int) < (mx : Int) := by omega
    have hs7 : n7 ≤ 2 := by have := HMX.out; omega
    have hs8 : n8 ≤ 2 := by have := HMX.out; omega
    have ha2 : a < 18446744073709551616 := by
     have := digs_len.1 (show (digs a).length ≤ 2 by rw [D7.out.len]; exact hs7)
     omega
    have hb2 : b < 18446744073709551616 := by
     have := digs_len.1 (show (digs b).length ≤ 2 by rw [D8.out.len]; exact hs8)
     omega
    have HAB := Lib.hid (And.intro ha2 hb2)
    clear ha2 hb2
    go_wp2_with fail
    have qq := mag_word (w := wr) c7 D7.out hs7 l7 m7
    rw [digs_val] at qq
    refine Calls.mono qq ?_
    clear qq
    rintro e w5 ⟨rfl, hb5⟩
    have D8b := Lib.hid (D8.out.below hb5)
    go_wp2_with fail
    have qq := mag_word (w := w5) c8 D8b.out hs8 l8 m8
    rw [digs_val] at qq
    refine Calls.mono qq ?_
    clear qq
    rintro e w6 ⟨rfl, hb6⟩
    have hW6 := (hW5.trans (hb5.mono hz5)).trans (hb6.mono (by have := hb5.size; omega))
    have r6 := (q6.below hb5).below hb6
    clear hb5 hb6 q6 q6z hW5 hz5 HX HY D7 D8 D8b hm2 hm2i h0 h0i h0n hmxi HMX l7 m7 l8 m8 hn7 hn8 hs7 hs8
    generalize Value.slice A7 n7 c7 = V7 at *
    generalize Value.slice A8 n8 c8 = V8 at *
    go_wp2
    go_loopw [10, 11] (fun x y wr => ∃ (n m : Nat), x = .int .u64 n ∧ y = .int .u64 m ∧ ((Nat.gcd n m : Nat) : Int) = z ∧ n < 18446744073709551616 ∧ m < 18446744073709551616 ∧ Below w.heap.size w wr ∧ Own wr (w.heap.size + 1 + 1) #[.bool false, .slice none 0 0]) (fun _ y _ => (intOf y).toNat)
    case atStart => exact ⟨a, b, rfl, rfl, HG.out.1, HAB.out.1, HAB.out.2, hW6, r6⟩
    case round =>
     clear hW6 r6 HG HAB
     obtain ⟨n, m, rfl, rfl, hg, hn, hm, hW7, q7⟩ := hrel
     have HG := Lib.hid hg
     have hz7 := hW7.size
     have q7z := q7.lt
     clear hg
     rcases Nat.eq_zero_or_pos m with h0 | h0
     ·subst h0
      obtain ⟨lo, hlo⟩ : ∃ l, n % 4294967296 = l := ⟨_, rfl⟩
      obtain ⟨hi, hhi⟩ : ∃ l, n / 4294967296 = l := ⟨_, rfl⟩
      have hlo1 : lo < 4294967296 := by omega
      have hhi1 : hi < 4294967296 := by omega
      have hc1 : IntKind.u32.wrap (n : Int) = (lo : Int) := by rw [IntKind.wrap_u32]; omega
      have hc2 : (n : Int) / 4294967296 = (hi : Int) := by omega
      have hc3 : IntKind.u32.wrap (hi : Int) = (hi : Int) := by rw [IntKind.wrap_u32]; omega
      have hbA := (Below.refl wr.heap.size wr).alloc (Nat.le_refl _) (.cells #[.int .u32 lo, .int .u32 hi] 97)
      have hW5 := hW7.trans (hbA.mono hz7)
      have q6 := q7.below hbA
      have oD : OwnD (wr.alloc (.cells #[.int .u32 lo, .int .u32 hi] 97)) wr.heap.size [lo, hi] := Own.new rfl
      have hD := oD.digs (fun d hd => by
       simp at hd
       rcases hd with rfl | rfl <;> assumption)
      have HD := Lib.hid hD
      have HZ : Hid (sg false (vD [lo, hi]) = z) := Lib.hid (by
       rw [vD_cons, vD_cons, vD_nil, Nat.mul_zero, Nat.add_zero, ← HG.out, Nat.gcd_zero_right]
       unfold sg
       simp
       omega)
      have hz5 := hW5.size
      have q6z := q6.lt
      clear oD hD hlo hhi hbA
      go_wp2_with fail
      generalize (wr.alloc (.cells #[.int .u32 lo, .int .u32 hi] 97)) = W9 at *
      refine Calls.mono (HD.out.number (z := z) 2 (Nat.le_refl _) (by omega) HZ.out) ?_
      rintro e w9 ⟨⟨b9, rfl, hb1, hb2, hb3⟩, hb4⟩
      have hbB := hW5.trans (hb4.mono hz5)
      have r6 := q6.below hb4
      have r6c := r6.cell
      have r6f := r6.thaw
      have r6z := r6.lt
      have HB := Lib.hid (And.intro hb1 (And.intro hb2 hb3))
      clear q6 hb1 hb2 hb3 hb4
      obtain ⟨A9, n9, c9, hsl⟩ := slN_form z b9
      simp only [numV]
      rw [hsl]
      have HSL := Lib.hid hsl
      clear hsl
      go_wp2
      refine retC (b := w.heap.size + 1 + 1) (v := .tuple #[.agg #[.bool (sgnN z), .slice A9 n9 c9], .bool (fits z)]) ((r6.set 0 _).set 1 _) (fun w' hw' => by simp [results, Tryz.results23, go_sem, hw']) rfl ⟨⟨b9, by rw [numV, HSL.out], Nat.le_trans hz5 HB.out.1, by simp; exact HB.out.2.1, (HB.out.2.2.far (p := ⟨w.heap.size + 1 + 1, 0, none⟩) (by simp; have := HB.out.1; omega) _).far (p := ⟨w.heap.size + 1 + 1, 1, none⟩) (by simp; have := HB.out.1; omega) _⟩, (hbB.setCell (by simp; omega) _).setCell (by simp; omega) _⟩
     ·have h0i : (0 : Int) < (m : Int) := by omega
      have h0n : ¬ (m : Int) = 0 := by omega
      obtain ⟨r, hr⟩ : ∃ r, n % m = r := ⟨_, rfl⟩
      have hr1 : Int.tmod (n : Int) (m : Int) = (r : Int) := by rw [← hr]; exact (Int.ofNat_tmod n m).symm
      have hr2 : (n : Int) % (m : Int) = (r : Int) := by rw [← hr]; exact (Int.natCast_emod n m).symm
      have hrm : r < m := by rw [← hr]; exact Nat.mod_lt _ h0
      have HR := Lib.hid hr
      clear hr
      go_wp2
      refine region_late 4 [] (by kernel_rfl) (by kernel_rfl) (by rfl) ?_
      apply Exists.intro
      refine ⟨fun v hv hne => ?_, fun u hu => ?_⟩
      ·simp only [List.take_succ_cons, List.take_zero]
       repeat (go_big_quiet_step (fail))
       refine wpQuiet_nil ?_
       exact rfl
      simp only [List.drop_succ_cons, List.drop_zero]
      refine late_mem (fun K hK => ?_)
      go_simp
      refine hK _ _ (Keeps.of_below hu) (fun u3 hu3 => ?_)
      clear hK K
      replace hu := hu.trans (hu3.mono hu.size)
      clear hu3
      refine late_mem (fun K hK => ?_)
      go_simp
      refine hK _ _ (Keeps.of_below hu) (fun u4 hu4 => ?_)
      clear hK K
      replace hu := hu.trans (hu4.mono hu.size)
      have hW8 := hW7.trans (hu.mono hz7)
      have q8 := q7.below hu
      refine late_nil ?_
      (try simp only [Act.put, List.setIfInBounds_toArray, List.set_cons_zero, List.set_cons_succ])
      go_wp2
      go_roundw
      case rel => exact ⟨m, r, rfl, rfl, by rw [← HG.out, ← HR.out, Nat.gcd_comm m (n % m), ← Nat.gcd_rec, Nat.gcd_comm], hm, by omega, hW8, q8⟩
      case measure => simp [intOf]; omega
end Go.Proofs.YtflgngjocgiojaaGreat
namespace Go.Proofs.YtflgngjocgiojaaGreat
open Go.RowKit

/-- What a function returns that returns a number. -/
def RetV (w : World) (z : Int) (r : Ending) (w' : World) : Prop := (∃ b, r = .returned (numV z b) ∧ NumO w' b z ∧ w.heap.size ≤ b ∧ b < w'.heap.size) ∧ Below w.heap.size w w'
theorem of_val {w : World} (n : Int) (h1 : -9223372036854775808 ≤ n) (h2 : n ≤ 9223372036854775807) : Calls Tryz.prog 21 #[.int .i64 n] w (RetV w n) := num_Of n h1 h2
set_option maxRecDepth 100000 in
set_option maxHeartbeats 2000000 in
theorem ratio_zero {w : World} : Calls Tryz.prog 63 #[] w fun r w' => r = .returned zeroN ∧ Below w.heap.size w w' := by
 have hW := (Below.refl w.heap.size w).alloc (Nat.le_refl _) (.cells #[.bool false, .slice none 0 0] 35)
 have o2 : Own (w.alloc (.cells #[.bool false, .slice none 0 0] 35)) w.heap.size #[.bool false, .slice none 0 0] := (by repeat' (first | ((refine Own.new ?_); (focus (first | rfl | omega | (simp; done) | (simp; omega)))) | assumption | refine Own.alloc ?_ _ | refine Own.drew ?_ | (refine Own.far ?_ ?_ _; rotate_left; (focus (first | rfl | omega | (simp; done) | (simp; omega))))))
 have hz := hW.size
 go_enter Tryz.func63, Tryz.ntmps63
 go_wp2_with fail
 refine Calls.mono (num_Of 0 (by omega) (by omega)) ?_
 rintro e u1 ⟨⟨b, rfl, _, _, _⟩, hb⟩
 have e0 : numV 0 b = .agg #[.bool false, .slice none 0 0] := rfl
 rw [e0]
 have hw := hW.trans (hb.mono hz)
 have p2 := o2.below hb
 have p2c := p2.cell
 have p2f := p2.thaw
 have p2z := p2.lt
 clear e0 hb
 go_wp2
 refine retC (b := w.heap.size) (v := zeroN) ((p2.set 0 _).set 1 _) (fun w' hw' => by simp [results, Tryz.results63, go_sem, hw', zeroN]) rfl ⟨rfl, (hw.setCell (by simp) _).setCell (by simp) _⟩
set_option maxRecDepth 100000 in
set_option maxHeartbeats 2000000 in
theorem ratio_one {w : World} : Calls Tryz.prog 69 #[] w (RetV w 1) := by
 have hW := (Below.refl w.heap.size w).alloc (Nat.le_refl _) (.cells #[.bool false, .slice none 0 0] 35)
 have o2 : Own (w.alloc (.cells #[.bool false, .slice none 0 0] 35)) w.heap.size #[.bool false, .slice none 0 0] := (by repeat' (first | ((refine Own.new ?_); (focus (first | rfl | omega | (simp; done) | (simp; omega)))) | assumption | refine Own.alloc ?_ _ | refine Own.drew ?_ | (refine Own.far ?_ ?_ _; rotate_left; (focus (first | rfl | omega | (simp; done) | (simp; omega))))))
 have hz := hW.size
 go_enter Tryz.func69, Tryz.ntmps69
 go_wp2_with fail
 refine Calls.mono (num_Of 1 (by omega) (by omega)) ?_
 rintro e u1 ⟨⟨b, rfl, h1, h2, h3⟩, hb⟩
 have hw := hW.trans (hb.mono hz)
 have p2 := o2.below hb
 have p2c := p2.cell
 have p2f := p2.thaw
 have p2z := p2.lt
 have HB := Lib.hid (And.intro (Nat.lt_of_lt_of_le o2.lt h2) (And.intro h3 h1))
 clear hb h1 h2 h3
 obtain ⟨A9, n9, c9, hsl⟩ := slN_form 1 b
 simp only [numV]
 rw [hsl]
 have HSL := Lib.hid hsl
 clear hsl
 go_wp2
 refine retC (b := w.heap.size) (v := .agg #[.bool (sgnN 1), .slice A9 n9 c9]) ((p2.set 0 _).set 1 _) (fun w' hw' => by simp [results, Tryz.results69, go_sem, hw']) rfl ⟨⟨b, by rw [numV, HSL.out], (HB.out.2.2.far (p := ⟨w.heap.size, 0, none⟩) (by simp; have := HB.out.1; omega) _).far (p := ⟨w.heap.size, 1, none⟩) (by simp; have := HB.out.1; omega) _, by have := HB.out.1; omega, by simp; exact HB.out.2.1⟩, (hw.setCell (by simp) _).setCell (by simp) _⟩
set_option maxRecDepth 100000 in
set_option maxHeartbeats 2000000 in
theorem ratio_quotient {w : World} {v1 v2 : Value} {z1 z2 : Int} (h1 : NumAt w v1 z1) (h2 : NumAt w v2 z2) (h0 : z2 ≠ 0) : Calls Tryz.prog 65 #[v1, v2] w (RetV w (z1 / z2)) := by
 obtain ⟨z, hz⟩ : ∃ z, z1 / z2 = z := ⟨_, rfl⟩
 rw [hz]
 have G1 := Lib.hid h1
 have G2 := Lib.hid h2
 obtain ⟨r1, k1⟩ := h1.raw
 obtain ⟨r2, k2⟩ := h2.raw
 obtain ⟨A1, n1, c1, rfl, hc1, hm1, hl1, d1⟩ := h1
 obtain ⟨A2, n2, c2, rfl, hc2, hm2, hl2, d2⟩ := h2
 obtain ⟨s1, hs1⟩ : ∃ s, decide (z1 < 0) = s := ⟨_, rfl⟩
 obtain ⟨s2, hs2⟩ : ∃ s, decide (z2 < 0) = s := ⟨_, rfl⟩
 rw [hs1] at r1 k1 G1 ⊢
 rw [hs2] at r2 k2 G2 ⊢
 have H := Lib.hid (And.intro hz (And.intro hs1 hs2))
 have D1 := Lib.hid d1
 have D2 := Lib.hid d2
 have R1 := Lib.hid (And.intro r1 k1)
 have R2 := Lib.hid (And.intro r2 k2)
 clear hz hs1 hs2 d1 d2 r1 k1 r2 k2
 go_enter Tryz.func65, Tryz.ntmps65
 have hW := ((((Below.refl w.heap.size w).alloc (Nat.le_refl _) (.cells #[.bool s1, .slice A1 n1 c1] 35)).alloc (by simp) (.cells #[.bool s2, .slice A2 n2 c2] 35)).alloc (by simp; omega) (.cells #[.bool false, .slice none 0 0] 35))
 go_wp2_with fail
 have o3 : Own (((w.alloc (.cells #[.bool s1, .slice A1 n1 c1] 35)).alloc (.cells #[.bool s2, .slice A2 n2 c2] 35)).alloc (.cells #[.bool false, .slice none 0 0] 35)) w.heap.size #[.bool s1, .slice A1 n1 c1] := (by repeat' (first | ((refine Own.new ?_); (focus (first | rfl | omega | (simp; done) | (simp; omega)))) | assumption | refine Own.alloc ?_ _ | refine Own.drew ?_ | (refine Own.far ?_ ?_ _; rotate_left; (focus (first | rfl | omega | (simp; done) | (simp; omega))))))
 have o4 : Own (((w.alloc (.cells #[.bool s1, .slice A1 n1 c1] 35)).alloc (.cells #[.bool s2, .slice A2 n2 c2] 35)).alloc (.cells #[.bool false, .slice none 0 0] 35)) (w.heap.size + 1) #[.bool s2, .slice A2 n2 c2] := (by repeat' (first | ((refine Own.new ?_); (focus (first | rfl | omega | (simp; done) | (simp; omega)))) | assumption | refine Own.alloc ?_ _ | refine Own.drew ?_ | (refine Own.far ?_ ?_ _; rotate_left; (focus (first | rfl | omega | (simp; done) | (simp; omega))))))
 have o6 : Own (((w.alloc (.cells #[.bool s1, .slice A1 n1 c1] 35)).alloc (.cells #[.bool s2, .slice A2 n2 c2] 35)).alloc (.cells #[.bool false, .slice none 0 0] 35)) (w.heap.size + 1 + 1) #[.bool false, .slice none 0 0] := (by repeat' (first | ((refine Own.new ?_); (focus (first | rfl | omega | (simp; done) | (simp; omega)))) | assumption | refine Own.alloc ?_ _ | refine Own.drew ?_ | (refine Own.far ?_ ?_ _; rotate_left; (focus (first | rfl | omega | (simp; done) | (simp; omega))))))
 generalize (((w.alloc (.cells #[.bool s1, .slice A1 n1 c1] 35)).alloc (.cells #[.bool s2, .slice A2 n2 c2] 35)).alloc (.cells #[.bool false, .slice none 0 0] 35)) = W0 at *
 have q := num_Div (G1.out.below hW) (G2.out.below hW) h0
 rw [H.out.1] at q
 refine Calls.mono q ?_
 rintro e u1 ⟨⟨b, b2, rfl, g1, g2, g3, g4, g5, g6⟩, hb⟩
 obtain ⟨A9, n9, c9, hsl⟩ := slN_form z b
 obtain ⟨A0, n0, c0, hsl2⟩ := slN_form (z1 % z2) b2
 simp only [numV]
 rw [hsl, hsl2]
 obtain ⟨s9, hs9⟩ : ∃ s, sgnN (z1 % z2) = s := ⟨_, rfl⟩
 rw [hs9]
 have HSL := Lib.hid hsl
 have hk := ((Below.refl u1.heap.size u1).alloc (Nat.le_refl _) (.cells #[.bool (sgnN z), .slice A9 n9 c9] 35)).alloc (by simp) (.cells #[.bool s9, .slice A0 n0 c0] 35)
 have hbz := hb.size
 have HB := Lib.hid (And.intro (Nat.lt_of_lt_of_le o6.lt g3) (And.intro g5 (g1.below hk)))
 have hw := hW.trans ((hb.trans (hk.mono hbz)).mono hW.size)
 have p2 := (o6.below hb).below hk
 have p2c := p2.cell
 have p2f := p2.thaw
 have p2z := p2.lt
 clear hsl hsl2 hs9 g1 g2 g3 g4 g5 g6 hk hb o3 o4
 go_wp2
 refine retC (b := w.heap.size + 1 + 1) (v := .agg #[.bool (sgnN z), .slice A9 n9 c9]) ((p2.set 0 _).set 1 _) (fun w' hw' => by simp [results, Tryz.results65, go_sem, hw']) rfl ⟨⟨b, by rw [numV, HSL.out], (HB.out.2.2.far (p := ⟨w.heap.size + 1 + 1, 0, none⟩) (by simp; have := HB.out.1; omega) _).far (p := ⟨w.heap.size + 1 + 1, 1, none⟩) (by simp; have := HB.out.1; omega) _, by have := HB.out.1; omega, by have := HB.out.2.1; simp; omega⟩, (hw.setCell (by simp; omega) _).setCell (by simp; omega) _⟩
end Go.Proofs.YtflgngjocgiojaaGreat
