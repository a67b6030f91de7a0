/- Products of digits. -/
import Derived.Test.YtflgngjocgiojaaGreatNumB
namespace Go.Proofs.YtflgngjocgiojaaGreat
open Go.RowKit

set_option maxRecDepth 100000 in
set_option maxHeartbeats 2000000 in
theorem mag_plus {w : World} {A1 A2 : Option Addr} {n1 n2 : Nat} {D1 D2 : List Nat} (c1 c2 : Nat) (h1 : DigsAt w A1 n1 D1) (h2 : DigsAt w A2 n2 D2) (hm : n1 ≤ 1000) (hm2 : n2 ≤ 1000) :
  Calls Tryz.prog 128 #[.slice A1 n1 c1, .slice A2 n2 c2] w fun e w' => NewD w (vD D1 + vD D2) e w' ∧ Below w.heap.size w w' := by
 have hl1 := h1.len
 have hl2 := h2.len
 have H1 := Lib.hid h1
 have H2 := Lib.hid h2
 have HL := Lib.hid (And.intro hl1 hl2)
 clear h1 h2 hl1 hl2
 have hmi : (n1 : Int) ≤ 1000 := by omega
 have hmi2 : (n2 : Int) ≤ 1000 := by omega
 go_enter Tryz.func128, Tryz.ntmps128
 by_cases hsw : n1 < n2
 ·have hswi : (n1 : Int) < (n2 : Int) := by omega
  have hle : n1 ≤ n2 := by omega
  have hmk := fun w => make_mag (n2 + 1) (by omega) w
  have hcast : ((n2 + 1 : Nat) : Int) = (n2 : Int) + 1 := by omega
  rw [hcast] at hmk
  obtain ⟨N, hN⟩ : ∃ N, n2 + 1 = N := ⟨_, rfl⟩
  rw [hN] at hmk
  have hNi : (n2 : Int) < (N : Int) := by omega
  go_wp2
  have hw := (Below.refl w.heap.size w).alloc (Nat.le_refl _) (.cells (encU (List.replicate N 0)) 97)
  have oo : OwnD (w.alloc (.cells (encU (List.replicate N 0)) 97)) w.heap.size (List.replicate N 0) := OwnD.new _ _
  generalize (w.alloc (.cells (encU (List.replicate N 0)) 97)) = w1 at *
  clear hmk
  go_loopw [6, 23] (fun c i wr => ∃ (k s : Nat) (R : List Nat), k ≤ n2 ∧ i = .int .i64 k ∧ c = .int .u32 s ∧ s ≤ 1 ∧ R.length = k ∧ Dg R ∧ vD R + 4294967296 ^ k * s = vD (D2.take k) + vD (D1.take k) ∧ Below w.heap.size w wr ∧ OwnD wr w.heap.size (R ++ List.replicate (N - k) 0)) (fun _ i _ => n2 - (intOf i).toNat)
  case atStart => exact ⟨0, 0, [], by omega, rfl, rfl, by omega, rfl, Dg.nil, by simp [vD_nil], hw, by simpa using oo⟩
  case round =>
   clear hw oo
   obtain ⟨k, s, R, hk, rfl, rfl, hs1, hR, hdg, hval, hw, oo⟩ := hrel
   have HV := Lib.hid hval
   have HD := Lib.hid (And.intro hR hdg)
   clear hval hR hdg
   have ooz := Own.lt oo
   have oof := Own.thaw oo
   by_cases hlt : k < n2
   ·have hlt2 : (k : Int) < (n2 : Int) := by omega
    have hltN : (k : Int) < (N : Int) := by omega
    have hltNn : k < N := by omega
    obtain ⟨d, hd⟩ : ∃ d, dAt D2 k = d := ⟨_, rfl⟩
    obtain ⟨e, he⟩ : ∃ d, dAt D1 k = d := ⟨_, rfl⟩
    obtain ⟨b, off, hA, hb, a1⟩ := (H2.out.below hw).cells hlt hd
    subst hA
    have hd1 : d < 4294967296 := by rw [← hd]; exact H2.out.dg.at_ k
    have he1 : e < 4294967296 := by rw [← he]; exact H1.out.dg.at_ k
    have hsub := fun W => bits_Add32 d e s hd1 he1 hs1 W
    obtain ⟨r, hr⟩ : ∃ r, (d + e + s) % 4294967296 = r := ⟨_, rfl⟩
    obtain ⟨t, ht⟩ : ∃ r, (d + e + s) / 4294967296 = r := ⟨_, rfl⟩
    have hrs : r + 4294967296 * t = d + e + s := by omega
    have hr1 : r < 4294967296 := by omega
    have ht1 : t ≤ 1 := by omega
    rw [hr, ht] at hsub
    have HSUB := Lib.hid hsub
    have HN := Lib.hid (add_step (B := 4294967296) (k := k) rfl HV.out hrs)
    have HNV : Hid (vD (R ++ [r]) + 4294967296 ^ (k + 1) * t = vD (D2.take (k + 1)) + vD (D1.take (k + 1))) := Lib.hid (by
     rw [vD_snoc, vD_take', vD_take', hd, he, HD.out.1]; exact HN.out)
    have HNR : Hid ((R ++ [r]).length = k + 1 ∧ Dg (R ++ [r])) := Lib.hid ⟨by rw [List.length_append, HD.out.1]; rfl, HD.out.2.append (Dg.one hr1)⟩
    have HSE := Lib.hid (set_rep (r := r) HD.out.1 hltNn)
    have ooL : k < (R ++ List.replicate (N - k) 0).length := by rw [List.length_append, List.length_replicate, HD.out.1]; omega
    obtain ⟨z, hz⟩ : ∃ z, dAt (R ++ List.replicate (N - k) 0) k = z := ⟨_, rfl⟩
    have oc := oo.cell ooL hz
    clear hr ht hd hsub hrs HN hz ooL HV HD
    by_cases hk2 : k < n1
    ·have hk2i : (k : Int) < (n1 : Int) := by omega
     obtain ⟨b2, off2, hA, hb2, a2⟩ := (H1.out.below hw).cells hk2 he
     subst hA
     clear he
     go_wp2_with fail
     refine Calls.mono (HSUB.out _) ?_
     rintro e w2 ⟨rfl, rfl⟩
     go_wp2
     go_roundw
     case rel => exact ⟨k + 1, t, R ++ [r], by omega, by go_num, rfl, ht1, HNR.out.1, HNR.out.2, HNV.out, hw.setCell (Nat.le_refl _) _, oo.set HSE.out⟩
     case measure => simp [intOf]; omega
    ·have hk2i : ¬ (k : Int) < (n1 : Int) := by omega
     obtain rfl : 0 = e := by rw [← he, dAt_out (by rw [HL.out.1]; omega)]
     clear he
     go_wp2_with fail
     refine Calls.mono (HSUB.out _) ?_
     rintro e w2 ⟨rfl, rfl⟩
     go_wp2
     go_roundw
     case rel => exact ⟨k + 1, t, R ++ [r], by omega, by go_num, rfl, ht1, HNR.out.1, HNR.out.2, HNV.out, hw.setCell (Nat.le_refl _) _, oo.set HSE.out⟩
     case measure => simp [intOf]; omega
   ·obtain rfl : k = n2 := by omega
    obtain ⟨hR, hdg⟩ := HD.out
    have hval := HV.out
    rw [List.take_of_length_le (by rw [HL.out.2]; exact Nat.le_refl _), List.take_of_length_le (by rw [HL.out.1]; exact hle)] at hval
    have HSE := Lib.hid (set_rep (n := N) (r := s) hR (by omega))
    have hvR : vD (R ++ [s]) = vD D1 + vD D2 := by rw [vD_snoc, hR, hval]; exact Nat.add_comm _ _
    have hdR : Dg (R ++ [s]) := hdg.append (Dg.one (by omega))
    have HVR := Lib.hid hvR
    have HDR := Lib.hid hdR
    have ooL : k < (R ++ List.replicate (N - k) 0).length := by rw [List.length_append, List.length_replicate, hR]; omega
    obtain ⟨z, hz⟩ : ∃ z, dAt (R ++ List.replicate (N - k) 0) k = z := ⟨_, rfl⟩
    have oc := oo.cell ooL hz
    have hkN : k < N := by omega
    have hw2 := hw.setCell (p := ⟨w.heap.size, k, none⟩) (Nat.le_refl _) (.int .u32 (s : Nat))
    have oo2 : OwnD (wr.setCell ⟨w.heap.size, k, none⟩ (.int .u32 (s : Nat))) w.heap.size (R ++ [s]) := by
     refine oo.set ?_
     rw [HSE.out, show N - (k + 1) = 0 by omega, List.replicate_zero, List.append_nil]
    have hlen : (R ++ [s]).length = N := by rw [List.length_append, hR]; exact hN
    have HO2 := Lib.hid oo2
    have HLT := Lib.hid (Own.lt oo2)
    have HW2 := Lib.hid hw2
    have HLN := Lib.hid hlen
    clear hval hvR hdR hR hdg HV HD hz ooL oo2 hw2 hlen HSE
    go_wp2_with fail
    generalize (wr.setCell ⟨w.heap.size, k, none⟩ (.int .u32 (s : Nat))) = w3 at *
    have hdig := HO2.out.digs HDR.out
    rw [HLN.out] at hdig
    have HG := Lib.hid hdig
    clear hdig
    refine Calls.mono (mag_trim N HG.out (Nat.le_refl _) (by omega)) ?_
    rintro e w2 ⟨rfl, hbx⟩
    have hwe := HW2.out.trans (hbx.mono HW2.out.size)
    go_wp2
    go_ret
    exact ⟨NewD.of (HG.out.below hbx) (by omega) HVR.out (Nat.lt_of_lt_of_le HLT.out hbx.size), hwe⟩
 ·have hswi : ¬ (n1 : Int) < (n2 : Int) := by omega
  have hle : n2 ≤ n1 := by omega
  have hmk := fun w => make_mag (n1 + 1) (by omega) w
  have hcast : ((n1 + 1 : Nat) : Int) = (n1 : Int) + 1 := by omega
  rw [hcast] at hmk
  obtain ⟨N, hN⟩ : ∃ N, n1 + 1 = N := ⟨_, rfl⟩
  rw [hN] at hmk
  have hNi : (n1 : Int) < (N : Int) := by omega
  go_wp2
  have hw := (Below.refl w.heap.size w).alloc (Nat.le_refl _) (.cells (encU (List.replicate N 0)) 97)
  have oo : OwnD (w.alloc (.cells (encU (List.replicate N 0)) 97)) w.heap.size (List.replicate N 0) := OwnD.new _ _
  generalize (w.alloc (.cells (encU (List.replicate N 0)) 97)) = w1 at *
  clear hmk
  go_loopw [6, 23] (fun c i wr => ∃ (k s : Nat) (R : List Nat), k ≤ n1 ∧ i = .int .i64 k ∧ c = .int .u32 s ∧ s ≤ 1 ∧ R.length = k ∧ Dg R ∧ vD R + 4294967296 ^ k * s = vD (D1.take k) + vD (D2.take k) ∧ Below w.heap.size w wr ∧ OwnD wr w.heap.size (R ++ List.replicate (N - k) 0)) (fun _ i _ => n1 - (intOf i).toNat)
  case atStart => exact ⟨0, 0, [], by omega, rfl, rfl, by omega, rfl, Dg.nil, by simp [vD_nil], hw, by simpa using oo⟩
  case round =>
   clear hw oo
   obtain ⟨k, s, R, hk, rfl, rfl, hs1, hR, hdg, hval, hw, oo⟩ := hrel
   have HV := Lib.hid hval
   have HD := Lib.hid (And.intro hR hdg)
   clear hval hR hdg
   have ooz := Own.lt oo
   have oof := Own.thaw oo
   by_cases hlt : k < n1
   ·have hlt2 : (k : Int) < (n1 : Int) := by omega
    have hltN : (k : Int) < (N : Int) := by omega
    have hltNn : k < N := by omega
    obtain ⟨d, hd⟩ : ∃ d, dAt D1 k = d := ⟨_, rfl⟩
    obtain ⟨e, he⟩ : ∃ d, dAt D2 k = d := ⟨_, rfl⟩
    obtain ⟨b, off, hA, hb, a1⟩ := (H1.out.below hw).cells hlt hd
    subst hA
    have hd1 : d < 4294967296 := by rw [← hd]; exact H1.out.dg.at_ k
    have he1 : e < 4294967296 := by rw [← he]; exact H2.out.dg.at_ k
    have hsub := fun W => bits_Add32 d e s hd1 he1 hs1 W
    obtain ⟨r, hr⟩ : ∃ r, (d + e + s) % 4294967296 = r := ⟨_, rfl⟩
    obtain ⟨t, ht⟩ : ∃ r, (d + e + s) / 4294967296 = r := ⟨_, rfl⟩
    have hrs : r + 4294967296 * t = d + e + s := by omega
    have hr1 : r < 4294967296 := by omega
    have ht1 : t ≤ 1 := by omega
    rw [hr, ht] at hsub
    have HSUB := Lib.hid hsub
    have HN := Lib.hid (add_step (B := 4294967296) (k := k) rfl HV.out hrs)
    have HNV : Hid (vD (R ++ [r]) + 4294967296 ^ (k + 1) * t = vD (D1.take (k + 1)) + vD (D2.take (k + 1))) := Lib.hid (by
     rw [vD_snoc, vD_take', vD_take', hd, he, HD.out.1]; exact HN.out)
    have HNR : Hid ((R ++ [r]).length = k + 1 ∧ Dg (R ++ [r])) := Lib.hid ⟨by rw [List.length_append, HD.out.1]; rfl, HD.out.2.append (Dg.one hr1)⟩
    have HSE := Lib.hid (set_rep (r := r) HD.out.1 hltNn)
    have ooL : k < (R ++ List.replicate (N - k) 0).length := by rw [List.length_append, List.length_replicate, HD.out.1]; omega
    obtain ⟨z, hz⟩ : ∃ z, dAt (R ++ List.replicate (N - k) 0) k = z := ⟨_, rfl⟩
    have oc := oo.cell ooL hz
    clear hr ht hd hsub hrs HN hz ooL HV HD
    by_cases hk2 : k < n2
    ·have hk2i : (k : Int) < (n2 : Int) := by omega
     obtain ⟨b2, off2, hA, hb2, a2⟩ := (H2.out.below hw).cells hk2 he
     subst hA
     clear he
     go_wp2_with fail
     refine Calls.mono (HSUB.out _) ?_
     rintro e w2 ⟨rfl, rfl⟩
     go_wp2
     go_roundw
     case rel => exact ⟨k + 1, t, R ++ [r], by omega, by go_num, rfl, ht1, HNR.out.1, HNR.out.2, HNV.out, hw.setCell (Nat.le_refl _) _, oo.set HSE.out⟩
     case measure => simp [intOf]; omega
    ·have hk2i : ¬ (k : Int) < (n2 : Int) := by omega
     obtain rfl : 0 = e := by rw [← he, dAt_out (by rw [HL.out.2]; omega)]
     clear he
     go_wp2_with fail
     refine Calls.mono (HSUB.out _) ?_
     rintro e w2 ⟨rfl, rfl⟩
     go_wp2
     go_roundw
     case rel => exact ⟨k + 1, t, R ++ [r], by omega, by go_num, rfl, ht1, HNR.out.1, HNR.out.2, HNV.out, hw.setCell (Nat.le_refl _) _, oo.set HSE.out⟩
     case measure => simp [intOf]; omega
   ·obtain rfl : k = n1 := by omega
    obtain ⟨hR, hdg⟩ := HD.out
    have hval := HV.out
    rw [List.take_of_length_le (by rw [HL.out.1]; exact Nat.le_refl _), List.take_of_length_le (by rw [HL.out.2]; exact hle)] at hval
    have HSE := Lib.hid (set_rep (n := N) (r := s) hR (by omega))
    have hvR : vD (R ++ [s]) = vD D1 + vD D2 := by rw [vD_snoc, hR, hval]
    have hdR : Dg (R ++ [s]) := hdg.append (Dg.one (by omega))
    have HVR := Lib.hid hvR
    have HDR := Lib.hid hdR
    have ooL : k < (R ++ List.replicate (N - k) 0).length := by rw [List.length_append, List.length_replicate, hR]; omega
    obtain ⟨z, hz⟩ : ∃ z, dAt (R ++ List.replicate (N - k) 0) k = z := ⟨_, rfl⟩
    have oc := oo.cell ooL hz
    have hkN : k < N := by omega
    have hw2 := hw.setCell (p := ⟨w.heap.size, k, none⟩) (Nat.le_refl _) (.int .u32 (s : Nat))
    have oo2 : OwnD (wr.setCell ⟨w.heap.size, k, none⟩ (.int .u32 (s : Nat))) w.heap.size (R ++ [s]) := by
     refine oo.set ?_
     rw [HSE.out, show N - (k + 1) = 0 by omega, List.replicate_zero, List.append_nil]
    have hlen : (R ++ [s]).length = N := by rw [List.length_append, hR]; exact hN
    have HO2 := Lib.hid oo2
    have HLT := Lib.hid (Own.lt oo2)
    have HW2 := Lib.hid hw2
    have HLN := Lib.hid hlen
    clear hval hvR hdR hR hdg HV HD hz ooL oo2 hw2 hlen HSE
    go_wp2_with fail
    generalize (wr.setCell ⟨w.heap.size, k, none⟩ (.int .u32 (s : Nat))) = w3 at *
    have hdig := HO2.out.digs HDR.out
    rw [HLN.out] at hdig
    have HG := Lib.hid hdig
    clear hdig
    refine Calls.mono (mag_trim N HG.out (Nat.le_refl _) (by omega)) ?_
    rintro e w2 ⟨rfl, hbx⟩
    have hwe := HW2.out.trans (hbx.mono HW2.out.size)
    go_wp2
    go_ret
    exact ⟨NewD.of (HG.out.below hbx) (by omega) HVR.out (Nat.lt_of_lt_of_le HLT.out hbx.size), hwe⟩
end Go.Proofs.YtflgngjocgiojaaGreat
namespace Go.Proofs.YtflgngjocgiojaaGreat
open Go.RowKit

theorem dAt_set {L : List Nat} {i j r : Nat} (h : i < L.length) : dAt (L.set i r) j = if j = i then r else dAt L j := by
 unfold dAt
 rw [List.getD_eq_getElem?_getD, List.getD_eq_getElem?_getD, List.getElem?_set]
 by_cases e : i = j
 ·subst e; simp [h]
 ·rw [if_neg e, if_neg (fun h => e h.symm)]
theorem Dg.set {L : List Nat} (h : Dg L) (i r : Nat) (hr : r < 4294967296) : Dg (L.set i r) := fun d hd => by
 rcases List.mem_or_eq_of_mem_set hd with h1 | h1
 ·exact h d h1
 ·rw [h1]; exact hr
theorem vD_set {L : List Nat} {j : Nat} (r : Nat) (h : j < L.length) : vD (L.set j r) + 4294967296 ^ j * dAt L j = vD L + 4294967296 ^ j * r := by
 have := valD_set 4294967296 L j r h
 rw [dAt_in h] at this
 exact this
theorem Dg.zeros (n : Nat) : Dg (List.replicate n 0) := fun d hd => by rw [List.eq_of_mem_replicate hd]; omega
theorem dAt_zeros (n i : Nat) : dAt (List.replicate n 0) i = 0 := by
 unfold dAt; rw [List.getD_eq_getElem?_getD, List.getElem?_replicate]; split <;> rfl
theorem vD_zeros (n : Nat) : vD (List.replicate n 0) = 0 := valD_zeros _ n
/-- What is known of the product's digits: i digits of the first factor are done; of the next one, x, the first k digits of the second. -/
structure TimesAt (D1 D2 L : List Nat) (n i k x c : Nat) : Prop where
 len : L.length = n
 dg : Dg L
 val : vD L + 4294967296 ^ (i + k) * c = vD (D1.take i) * vD D2 + 4294967296 ^ i * (x * vD (D2.take k))
 zero : ∀ j, i + D2.length ≤ j → dAt L j = 0
theorem TimesAt.step {D1 D2 L : List Nat} {n i k x c d y r s : Nat} (t : TimesAt D1 D2 L n i k x c) (hj : i + k < n) (hk : k < D2.length) (hd : dAt L (i + k) = d) (hy : dAt D2 k = y) (hr : r < 4294967296) (hrs : r + 4294967296 * s = c + d + x * y) :
  TimesAt D1 D2 (L.set (i + k) r) n i (k + 1) x s := by
 refine ⟨by rw [List.length_set]; exact t.len, t.dg.set _ _ hr, ?_, fun j hj2 => ?_⟩
 ·have h1 := vD_set (L := L) (j := i + k) r (by rw [t.len]; exact hj)
  rw [hd] at h1
  have h2 := mul_step h1 hrs t.val
  have e1 : 4294967296 ^ (i + (k + 1)) = 4294967296 ^ (i + k) * 4294967296 := by rw [← Nat.add_assoc, Nat.pow_succ]
  rw [e1, h2, vD_take', hy, Nat.pow_add]
  grind
 ·rw [dAt_set (by rw [t.len]; exact hj), if_neg (by omega)]
  exact t.zero j hj2
theorem TimesAt.done {D1 D2 L : List Nat} {n i x c : Nat} (t : TimesAt D1 D2 L n i D2.length x c) (hj : i + D2.length < n) (hx : dAt D1 i = x) (hc : c < 4294967296) :
  TimesAt D1 D2 (L.set (i + D2.length) c) n (i + 1) 0 0 0 := by
 refine ⟨by rw [List.length_set]; exact t.len, t.dg.set _ _ hc, ?_, fun j hj2 => ?_⟩
 ·have h1 := vD_set (L := L) (j := i + D2.length) c (by rw [t.len]; exact hj)
  rw [t.zero _ (Nat.le_refl _), Nat.mul_zero, Nat.add_zero, t.val, List.take_length] at h1
  rw [h1, vD_take', hx, Nat.mul_zero, Nat.zero_mul, Nat.mul_zero, Nat.add_zero, Nat.add_zero, Nat.add_mul, Nat.mul_assoc]
 ·rw [dAt_set (by rw [t.len]; exact hj), if_neg (by omega)]
  exact t.zero j (by omega)
theorem TimesAt.next {D1 D2 L : List Nat} {n i : Nat} (t : TimesAt D1 D2 L n i 0 0 0) (x : Nat) : TimesAt D1 D2 L n i 0 x 0 :=
 ⟨t.len, t.dg, by have := t.val; simp [vD_nil] at this ⊢; exact this, t.zero⟩
theorem prod_lt {x y : Nat} (hx : x < 4294967296) (hy : y < 4294967296) : x * y ≤ 18446744065119617025 := by
 have h1 := Nat.mul_le_mul_right y (show x ≤ 4294967295 by omega)
 have h2 := Nat.mul_le_mul_left 4294967295 (show y ≤ 4294967295 by omega)
 omega
set_option maxRecDepth 100000 in
set_option maxHeartbeats 2000000 in
theorem mag_times {w : World} {A1 A2 : Option Addr} {n1 n2 : Nat} {D1 D2 : List Nat} (c1 c2 : Nat) (h1 : DigsAt w A1 n1 D1) (h2 : DigsAt w A2 n2 D2) (hm : n1 ≤ 1000) (hm2 : n2 ≤ 1000) :
  Calls Tryz.prog 127 #[.slice A1 n1 c1, .slice A2 n2 c2] w fun e w' => NewD w (vD D1 * vD D2) e w' ∧ Below w.heap.size w w' := by
 have hl1 := h1.len
 have hl2 := h2.len
 have H1 := Lib.hid h1
 have H2 := Lib.hid h2
 have HL := Lib.hid (And.intro hl1 hl2)
 clear h1 h2 hl1 hl2
 have hmi : (n1 : Int) ≤ 1000 := by omega
 have hmi2 : (n2 : Int) ≤ 1000 := by omega
 have hmk := fun w => make_mag (n1 + n2) (by omega) w
 obtain ⟨N, hN⟩ : ∃ N, n1 + n2 = N := ⟨_, rfl⟩
 have hcast : ((n1 + n2 : Nat) : Int) = (n1 : Int) + (n2 : Int) := by omega
 rw [hcast, hN] at hmk
 have HN := Lib.hid hN
 clear hN hcast
 go_enter Tryz.func127, Tryz.ntmps127
 go_wp2
 have hw := (Below.refl w.heap.size w).alloc (Nat.le_refl _) (.cells (encU (List.replicate N 0)) 97)
 have oo : OwnD (w.alloc (.cells (encU (List.replicate N 0)) 97)) w.heap.size (List.replicate N 0) := OwnD.new _ _
 generalize (w.alloc (.cells (encU (List.replicate N 0)) 97)) = w1 at *
 clear hmk
 go_loopw [19] (fun i wr => ∃ (k : Nat) (L : List Nat), k ≤ n1 ∧ i = .int .i64 k ∧ TimesAt D1 D2 L N k 0 0 0 ∧ Below w.heap.size w wr ∧ OwnD wr w.heap.size L) (fun i _ => n1 - (intOf i).toNat)
 case atStart => exact ⟨0, _, by omega, rfl, ⟨List.length_replicate, Dg.zeros _, by simp [vD_zeros, vD_nil], fun j _ => dAt_zeros _ _⟩, hw, oo⟩
 case round =>
  clear hw oo
  obtain ⟨i, L, hk, rfl, ht, hw, oo⟩ := hrel
  have HT := Lib.hid ht
  clear ht
  by_cases hlt : i < n1
  ·have hlt2 : (i : Int) < (n1 : Int) := by omega
   obtain ⟨x, hx⟩ : ∃ d, dAt D1 i = d := ⟨_, rfl⟩
   obtain ⟨b, off, hA, hb, a1⟩ := (H1.out.below hw).cells hlt hx
   subst hA
   have hx1 : x < 4294967296 := by rw [← hx]; exact H1.out.dg.at_ i
   have hxi : (x : Int) < 4294967296 := by omega
   have HX := Lib.hid hx
   clear hx
   go_wp2
   go_loopw [8, 26] (fun c j wr => ∃ (k s : Nat) (L : List Nat), k ≤ n2 ∧ j = .int .i64 k ∧ c = .int .u64 s ∧ s < 4294967296 ∧ TimesAt D1 D2 L N i k x s ∧ Below w.heap.size w wr ∧ OwnD wr w.heap.size L) (fun _ j _ => n2 - (intOf j).toNat)
   case atStart => exact ⟨0, 0, L, by omega, rfl, rfl, by omega, HT.out.next x, hw, oo⟩
   case round =>
    clear hw oo HT a1
    obtain ⟨k, c, L, hk, rfl, rfl, hc1, ht, hw, oo⟩ := hrel
    have HT := Lib.hid ht
    have ooz := Own.lt oo
    have oof := Own.thaw oo
    have hll := ht.len
    have hci : (c : Int) < 4294967296 := by omega
    clear ht
    by_cases hlk : k < n2
    ·have hlk2 : (k : Int) < (n2 : Int) := by omega
     obtain ⟨y, hy⟩ : ∃ d, dAt D2 k = d := ⟨_, rfl⟩
     obtain ⟨b2, off2, hA, hb2, a2⟩ := (H2.out.below hw).cells hlk hy
     subst hA
     have hy1 : y < 4294967296 := by rw [← hy]; exact H2.out.dg.at_ k
     have hyi : (y : Int) < 4294967296 := by omega
     obtain ⟨j, hj⟩ : ∃ j, i + k = j := ⟨_, rfl⟩
     have hjN : j < N := by have := HN.out; omega
     have hjNi : (j : Int) < (N : Int) := by omega
     have hji : (i : Int) + (k : Int) = (j : Int) := by omega
     obtain ⟨d, hd⟩ : ∃ d, dAt L j = d := ⟨_, rfl⟩
     have oc := oo.cell (by rw [hll]; exact hjN) hd
     have hd1 : d < 4294967296 := by rw [← hd]; exact HT.out.dg.at_ j
     have hdi : (d : Int) < 4294967296 := by omega
     obtain ⟨p, hp⟩ : ∃ p, x * y = p := ⟨_, rfl⟩
     have hpb : p ≤ 18446744065119617025 := by rw [← hp]; exact prod_lt hx1 hy1
     have hpbi : (p : Int) ≤ 18446744065119617025 := by omega
     have hpi : (x : Int) * (y : Int) = (p : Int) := by rw [← hp]; exact (Int.natCast_mul x y).symm
     obtain ⟨S, hS⟩ : ∃ S, c + (d + p) = S := ⟨_, rfl⟩
     have hSb : S < 18446744073709551616 := by omega
     have hSi : (c : Int) + ((d : Int) + (p : Int)) = (S : Int) := by omega
     have hSbi : (S : Int) < 18446744073709551616 := by omega
     obtain ⟨r, hr⟩ : ∃ r, S % 4294967296 = r := ⟨_, rfl⟩
     obtain ⟨s, hs⟩ : ∃ s, S / 4294967296 = s := ⟨_, rfl⟩
     have hri : (S : Int) % 4294967296 = (r : Int) := by omega
     have hsi : (S : Int) / 4294967296 = (s : Int) := by omega
     have hr1 : r < 4294967296 := by omega
     have hs1 : s < 4294967296 := by omega
     have hr1i : (r : Int) < 4294967296 := by omega
     have hs1i : (s : Int) < 4294967296 := by omega
     have HNT := Lib.hid (HT.out.step (r := r) (s := s) (d := d) (by rw [hj]; exact hjN) (by rw [HL.out.2]; exact hlk) (by rw [hj]; exact hd) hy hr1 (by rw [hp]; omega))
     rw [hj] at HNT
     clear hy hd hp hS hr hs hj HT
     go_wp2
     go_roundw
     case rel => exact ⟨k + 1, s, L.set j r, by omega, by go_num, rfl, hs1, HNT.out, hw.setCell (Nat.le_refl _) _, oo.set rfl⟩
     case measure => simp [intOf]; omega
    ·obtain rfl : k = n2 := by omega
     obtain ⟨j, hj⟩ : ∃ j, i + k = j := ⟨_, rfl⟩
     have hjN : j < N := by have := HN.out; omega
     have hjNi : (j : Int) < (N : Int) := by omega
     have hji : (i : Int) + (k : Int) = (j : Int) := by omega
     obtain ⟨d, hd⟩ : ∃ d, dAt L j = d := ⟨_, rfl⟩
     have oc := oo.cell (by rw [hll]; exact hjN) hd
     have ht2 := HT.out
     rw [← HL.out.2] at ht2
     have ht3 := ht2.done (by rw [HL.out.2, hj]; exact hjN) HX.out hc1
     rw [HL.out.2, hj] at ht3
     have HNT := Lib.hid ht3
     clear ht2 ht3 hj hd HT
     go_wp2
     go_roundw
     case rel => exact ⟨i + 1, L.set j c, by omega, by go_num, HNT.out, hw.setCell (Nat.le_refl _) _, oo.set rfl⟩
     case measure => simp [intOf]; omega
  ·obtain rfl : i = n1 := by omega
   have hval := HT.out.val
   rw [List.take_of_length_le (by rw [HL.out.1]; exact Nat.le_refl _)] at hval
   have hvR : vD L = vD D1 * vD D2 := by simp at hval; exact hval
   have hdig := oo.digs HT.out.dg
   rw [HT.out.len] at hdig
   have HG := Lib.hid hdig
   have HVR := Lib.hid hvR
   have HLT := Lib.hid (Own.lt oo)
   have hNb : N ≤ 2000 := by have := HN.out; omega
   clear hval hvR hdig HT
   go_wp2_with fail
   refine Calls.mono (mag_trim N HG.out (Nat.le_refl _) (by omega)) ?_
   rintro e w2 ⟨rfl, hbx⟩
   have hwe := hw.trans (hbx.mono hw.size)
   go_wp2
   go_ret
   exact ⟨NewD.of (HG.out.below hbx) (by omega) HVR.out (Nat.lt_of_lt_of_le HLT.out hbx.size), hwe⟩
end Go.Proofs.YtflgngjocgiojaaGreat
