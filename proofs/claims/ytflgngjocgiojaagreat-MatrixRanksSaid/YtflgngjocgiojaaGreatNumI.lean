/- One step of a long division. -/
import Derived.Test.YtflgngjocgiojaaGreatNumH
namespace Go.Proofs.YtflgngjocgiojaaGreat
open Go.RowKit

theorem mid_at {P W S : List Nat} {k0 j : Nat} (hP : P.length = k0) (hj : j < W.length) : dAt (P ++ W ++ S) (k0 + j) = dAt W j := by
 unfold dAt
 rw [List.getD_eq_getElem?_getD, List.getD_eq_getElem?_getD, List.append_assoc, List.getElem?_append_right (by omega), List.getElem?_append_left (by omega), hP, Nat.add_sub_cancel_left]
theorem mid_set {P W S : List Nat} {k0 j : Nat} (hP : P.length = k0) (hj : j < W.length) (r : Nat) : (P ++ W ++ S).set (k0 + j) r = P ++ W.set j r ++ S := by
 rw [List.append_assoc, List.set_append_right _ _ (by omega), hP, Nat.add_sub_cancel_left, List.set_append_left _ _ hj, List.append_assoc]
theorem mid_len {P W S : List Nat} {k0 j : Nat} (hP : P.length = k0) (hj : j < W.length) : k0 + j < (P ++ W ++ S).length := by
 rw [List.length_append, List.length_append, hP]; omega
theorem OwnD.keeps {T : List Nat} {w w' : World} {b : Nat} {L : List Nat} (h : OwnD w b L) (hk : Keeps T w w') (hb : b ∉ T) : OwnD w' b L := Own.keeps h hk hb
theorem mask32 {C : Nat} (h : C < 18446744073709551616) : bits .and .u64 (C : Int) 4294967295 = ((C % 4294967296 : Nat) : Int) := by
 have q := u64_and_nat C 4294967295 h (by omega)
 have e : C &&& 4294967295 = C % 4294967296 := Nat.and_two_pow_sub_one_eq_mod C 32
 rw [e] at q
 exact q
/-- A difference of words to the base 2 ^ 64, as the program has it. -/
theorem sub64 {x lo bb : Nat} (hx : x < 4294967296) (hlo : lo < 4294967296) (hb : bb ≤ 1) : ∃ X1 X2 r b' : Nat, IntKind.u64.wrap ((x : Int) - (lo : Int)) = (X1 : Int) ∧ IntKind.u64.wrap ((X1 : Int) - (bb : Int)) = (X2 : Int) ∧ (X2 : Int) % 4294967296 = (r : Int) ∧ (X2 : Int) / 9223372036854775808 = (b' : Int) ∧
  X1 < 18446744073709551616 ∧ X2 < 18446744073709551616 ∧ r < 4294967296 ∧ b' ≤ 1 ∧ r + lo + bb = x + 4294967296 * b' := by
 simp only [IntKind.wrap_u64]
 obtain ⟨X1, h1⟩ : ∃ X1 : Nat, ((x : Int) - (lo : Int)) % 18446744073709551616 = (X1 : Int) := ⟨(((x : Int) - (lo : Int)) % 18446744073709551616).toNat, by omega⟩
 obtain ⟨X2, h2⟩ : ∃ X2 : Nat, ((X1 : Int) - (bb : Int)) % 18446744073709551616 = (X2 : Int) := ⟨(((X1 : Int) - (bb : Int)) % 18446744073709551616).toNat, by omega⟩
 exact ⟨X1, X2, X2 % 4294967296, X2 / 9223372036854775808, h1, h2, by omega, by omega, by omega, by omega, by omega, by omega, by omega⟩
set_option maxRecDepth 100000 in
set_option maxHeartbeats 8000000 in
theorem num_step {w : World} {P W S V : List Nat} (bu bv k0 n N cu cv : Nat) (hN : n + 1 = N) (hu : OwnD w bu (P ++ W ++ S)) (hP : P.length = k0) (hv : OwnD w bv V) (hne : bv ≠ bu) (hW : W.length = n + 1) (hV : V.length = n) (hn1 : 1 ≤ n) (hn : n ≤ 1000) (hk : k0 ≤ 1000) (gW : Dg W) (gV : Dg V) (htop : 0 < dAt V (n - 1)) :
  Calls Tryz.prog 110 #[.slice (some ⟨bu, k0, none⟩) N cu, .slice (some ⟨bv, 0, none⟩) n cv] w fun e w' => (∃ W' g, e = .returned (.int .u32 (g : Nat)) ∧ OwnD w' bu (P ++ W' ++ S) ∧ W'.length = N ∧ Dg W' ∧ g = min (vD W / vD V) 4294967295 ∧ vD W' + g * vD V = vD W) ∧ Keeps [bu] w w' ∧ Below bu w w' := by
 have hvpos : 0 < vD V := val_pos (k := n - 1) (by omega) htop
 have hest := est_first hW hV hn1 gW gV htop
 have hni : (n : Int) ≤ 1000 := by omega
 have hn1i : (1 : Int) ≤ (n : Int) := by omega
 obtain ⟨m, hm⟩ : ∃ m, m + 1 = n := ⟨n - 1, by omega⟩
 have hmi : (n : Int) - 1 = (m : Int) := by omega
 have hmn : (m : Int) < (n : Int) := by omega
 have hmn2 : m < n := by omega
 have hm1 : n - 1 = m := by omega
 rw [hm1] at hest htop
 obtain ⟨un, hun⟩ : ∃ d, dAt W n = d := ⟨_, rfl⟩
 obtain ⟨um, hum⟩ : ∃ d, dAt W m = d := ⟨_, rfl⟩
 obtain ⟨vm, hvm⟩ : ∃ d, dAt V m = d := ⟨_, rfl⟩
 rw [hun, hum, hvm] at hest
 rw [hvm] at htop
 have cun := hu.cell (mid_len (S := S) hP (show n < W.length by omega)) ((mid_at hP (by omega)).trans hun)
 have cum := hu.cell (mid_len (S := S) hP (show m < W.length by omega)) ((mid_at hP (by omega)).trans hum)
 have cvm := hv.cell (show m < V.length by omega) hvm
 have bun : un < 4294967296 := by rw [← hun]; exact gW.at_ n
 have bum : um < 4294967296 := by rw [← hum]; exact gW.at_ m
 have bvm : vm < 4294967296 := by rw [← hvm]; exact gV.at_ m
 have HU := Lib.hid hu
 have HVO := Lib.hid hv
 have HP := Lib.hid (And.intro hP (And.intro hW hV))
 have HG := Lib.hid (And.intro gW gV)
 have HVP := Lib.hid hvpos
 have ltu := ownD_lt hu
 have ltv := ownD_lt hv
 clear hun hum hvm hP hW hV gW gV hvpos hm hm1 hu hv
 have hNi : (n : Int) < (N : Int) := by omega
 have hmNi : (m : Int) < (N : Int) := by omega
 have HN := Lib.hid hN
 clear hN
 go_enter Tryz.func110, Tryz.ntmps110
 go_wp2
 by_cases hlt : un < vm
 ·have hlti : (un : Int) < (vm : Int) := by omega
  obtain ⟨g, hg⟩ : ∃ g, (un * 4294967296 + um) / vm = g := ⟨_, rfl⟩
  have hdiv := fun W => bits_Div32 un um vm hlt bum bvm W
  obtain ⟨rm, hrm⟩ : ∃ r, (un * 4294967296 + um) % vm = r := ⟨_, rfl⟩
  rw [hg, hrm] at hdiv
  rw [hg] at hest
  have hg1 : g ≤ 4294967295 := by
   have : g < 4294967296 := by rw [← hg]; exact (Nat.div_lt_iff_lt_mul htop).2 (by have := Nat.mul_le_mul_right 4294967296 (show un + 1 ≤ vm by omega); omega)
   omega
  have HEST : Hid (min (vD W / vD V) 4294967295 ≤ g ∧ g ≤ 4294967295) := Lib.hid ⟨by have := hest; omega, hg1⟩
  have hgi : (g : Int) < 4294967296 := by omega
  have HDIV := Lib.hid hdiv
  clear hg hdiv hest hrm
  go_wp2_with fail
  refine region_late 10 [] (by kernel_rfl) (by kernel_rfl) (by rfl) ?_
  apply Exists.intro
  refine ⟨fun v hv hne => ?_, fun u hu => ?_⟩
  ·simp only [List.take_succ_cons, List.take_zero]
   have d1 := later_cell (v := v) (T := []) ltu (by simp) cun
   have d3 := later_cell (v := v) (T := []) ltv (by simp) cvm
   repeat (go_big_quiet_step (fail))
   refine wpQuiet_nil ?_
   exact rfl
  ·simp only [List.drop_succ_cons, List.drop_zero]
   refine late_nil ?_
   (try simp only [Act.put, List.setIfInBounds_toArray, List.set_cons_zero, List.set_cons_succ])
   have hkp : Keeps [bu] w u := Keeps.of_below hu
   have hbl : Below bu w u := hu.mono (by omega)
   replace cun := (hu.cell (p := ⟨bu, _, none⟩) ltu).trans cun
   replace cum := (hu.cell (p := ⟨bu, _, none⟩) ltu).trans cum
   replace cvm := (hu.cell (p := ⟨bv, _, none⟩) ltv).trans cvm
   have luu : bu < u.heap.size := Nat.lt_of_lt_of_le ltu hu.size
   have lvu : bv < u.heap.size := Nat.lt_of_lt_of_le ltv hu.size
   have oo : OwnD u bu (P ++ W ++ S) := HU.out.below hu
   clear hu
   go_wp2
   refine region_late 20 [] (by kernel_rfl) (by kernel_rfl) (by rfl) ?_
   apply Exists.intro
   refine ⟨fun v hv hne => ?_, fun u2 hu => ?_⟩
   ·simp only [List.take_succ_cons, List.take_zero]
    have d1 := later_cell (v := v) (T := []) luu (by simp) cun
    have d2 := later_cell (v := v) (T := []) luu (by simp) cum
    have d3 := later_cell (v := v) (T := []) lvu (by simp) cvm
    repeat (go_big_quiet_step ((go_at_call 130; with_reducible exact lateB (HDIV.out _))))
    refine wpQuiet_nil ?_
    exact rfl
   ·simp only [List.drop_succ_cons, List.drop_zero]
    refine late_nil ?_
    (try simp only [Act.put, List.setIfInBounds_toArray, List.set_cons_zero, List.set_cons_succ])
    replace hkp := hkp.later hu
    replace hbl := hbl.trans (hu.mono (by omega))
    replace oo := oo.below hu
    clear hu cun cum cvm luu lvu HDIV
    generalize u2 = u at *
    clear hlti
    go_wp2
    go_loopw [9, 10, 53] (fun c b i wr => ∃ (k cc bb : Nat) (X : List Nat), k ≤ n ∧ i = .int .i64 k ∧ c = .int .u64 cc ∧ b = .int .u64 bb ∧ cc < 4294967296 ∧ bb ≤ 1 ∧ SubAt W X V n k g (cc + bb) ∧ Keeps [bu] w wr ∧ Below bu w wr ∧ OwnD wr bu (P ++ X ++ S)) (fun _ _ i _ => n - (intOf i).toNat)
    case atStart => exact ⟨0, 0, 0, W, by omega, rfl, rfl, rfl, by omega, by omega, SubAt.start HP.out.2.1 HG.out.1, hkp, hbl, oo⟩
    case round =>
     clear hkp hbl oo
     obtain ⟨k, cc, bb, X, hk', rfl, rfl, rfl, hcc, hbb, hsub, hkp, hbl, oo⟩ := hrel
     have HS := Lib.hid hsub
     clear hsub
     have oov := HVO.out.keeps hkp (by simp; exact hne)
     have oof := Own.thaw oo
     have oolt := ownD_lt oo
     by_cases hlk : k < n
     ·have hlki : (k : Int) < (n : Int) := by omega
      have hlkN : (k : Int) < (N : Int) := by omega
      obtain ⟨d, hd⟩ : ∃ d, dAt V k = d := ⟨_, rfl⟩
      obtain ⟨x, hx⟩ : ∃ d, dAt X k = d := ⟨_, rfl⟩
      have cd := oov.cell (by rw [HP.out.2.2]; exact hlk) hd
      have cx := oo.cell (mid_len HP.out.1 (by rw [HS.out.len]; omega)) ((mid_at HP.out.1 (by rw [HS.out.len]; omega)).trans hx)
      have hd1 : d < 4294967296 := by rw [← hd]; exact HG.out.2.at_ k
      have hx1 : x < 4294967296 := by rw [← hx]; exact HS.out.dg.at_ k
      have hg1 : g < 4294967296 := by omega
      obtain ⟨p, hp⟩ : ∃ p, g * d = p := ⟨_, rfl⟩
      have hpb : p ≤ 18446744065119617025 := by rw [← hp]; exact prod_lt hg1 hd1
      have hpi : (g : Int) * (d : Int) = (p : Int) := by rw [← hp]; exact (Int.natCast_mul g d).symm
      obtain ⟨C, hC⟩ : ∃ C, cc + p = C := ⟨_, rfl⟩
      have hCi : (cc : Int) + (p : Int) = (C : Int) := by omega
      have hCb : C < 18446744073709551616 := by omega
      have hCbi : (C : Int) < 18446744073709551616 := by omega
      obtain ⟨lo, hlo⟩ : ∃ l, C % 4294967296 = l := ⟨_, rfl⟩
      obtain ⟨hi, hhi⟩ : ∃ l, C / 4294967296 = l := ⟨_, rfl⟩
      have hand : bits .and .u64 (C : Int) 4294967295 = (lo : Int) := by rw [mask32 hCb, hlo]
      have hshr : (C : Int) / 4294967296 = (hi : Int) := by omega
      have hlo1 : lo < 4294967296 := by omega
      have hhi1 : hi < 4294967296 := by omega
      have hxi : (x : Int) < 4294967296 := by omega
      have hloi : (lo : Int) < 4294967296 := by omega
      have hbbi : (bb : Int) ≤ 1 := by omega
      obtain ⟨X1, X2, r, b1, hX1, hX2, hX3, hX4, hX5, hX6, hr1, hb1, hsum⟩ := sub64 (bb := bb) hx1 hlo1 hbb
      have hX5i : (X1 : Int) < 18446744073709551616 := by omega
      have hX6i : (X2 : Int) < 18446744073709551616 := by omega
      have hri : (r : Int) < 4294967296 := by omega
      have HNS := Lib.hid (HS.out.step (hi := hi) (lo := lo) hlk hd hx hr1 (by rw [hp]; omega) hsum)
      have HMS := Lib.hid (mid_set (S := S) (r := r) HP.out.1 (show k < X.length by rw [HS.out.len]; omega))
      clear hd hx hp hC hlo hhi hsum HS
      go_wp2
      go_roundw
      case rel => exact ⟨k + 1, hi, b1, X.set k r, by omega, by go_num, rfl, rfl, hhi1, hb1, HNS.out, hkp.set (by simp) _, hbl.setCell (Nat.le_refl _) _, oo.set HMS.out⟩
      case measure => simp [intOf]; omega
     ·obtain rfl : k = n := by omega
      obtain ⟨x, hx⟩ : ∃ d, dAt X k = d := ⟨_, rfl⟩
      have cx := oo.cell (mid_len (S := S) HP.out.1 (by rw [HS.out.len]; omega)) ((mid_at HP.out.1 (by rw [HS.out.len]; omega)).trans hx)
      have hx1 : x < 4294967296 := by rw [← hx]; exact HS.out.dg.at_ k
      obtain ⟨X1, X2, r, b1, hX1, hX2, hX3, hX4, hX5, hX6, hr1, hb1, hsum⟩ := sub64 (bb := bb) hx1 hcc hbb
      obtain ⟨t1, t2, t3⟩ := HS.out.top (r := r) (neg := b1) HP.out.2.2 hx hr1 (by omega)
      have HE0 : Hid (EstAt W (X.set k r) V k g b1) := Lib.hid ⟨t1, t2, t3, HEST.out.1, HEST.out.2⟩
      have HMS := Lib.hid (mid_set (S := S) (r := r) HP.out.1 (show k < X.length by rw [HS.out.len]; omega))
      have hxi : (x : Int) < 4294967296 := by omega
      have hcci : (cc : Int) < 4294967296 := by omega
      have hX5i : (X1 : Int) < 18446744073709551616 := by omega
      have hX6i : (X2 : Int) < 18446744073709551616 := by omega
      have hri : (r : Int) < 4294967296 := by omega
      obtain ⟨q, hq⟩ : ∃ q, decide ((0 : Int) < (b1 : Int)) = q := ⟨_, rfl⟩
      have hq2 : (b1 = 1 ∧ q = true) ∨ (b1 = 0 ∧ q = false) := by
       have : b1 = 0 ∨ b1 = 1 := by omega
       rcases this with h | h
       ·exact .inr ⟨h, by rw [← hq, h]; rfl⟩
       ·exact .inl ⟨h, by rw [← hq, h]; rfl⟩
      have HQ2 := Lib.hid hq2
      have hq3 : decide (0 < b1) = q := by rw [← hq]; simp
      clear hx t1 t2 t3 hsum hq2 HS
      go_wp2
      have hkp2 : Keeps [bu] w (wr.setCell ⟨bu, k0 + k, none⟩ (.int .u32 (r : Nat))) := hkp.set (by simp) _
      have hbl2 : Below bu w (wr.setCell ⟨bu, k0 + k, none⟩ (.int .u32 (r : Nat))) := hbl.setCell (Nat.le_refl _) _
      have oo2 : OwnD (wr.setCell ⟨bu, k0 + k, none⟩ (.int .u32 (r : Nat))) bu (P ++ X.set k r ++ S) := oo.set HMS.out
      clear cx hkp hbl oo oof oolt oov hX1 hX2 hX3 hX4 hX5 hX6 hX5i hX6i hq hq3 HMS hcc hcci
      generalize (wr.setCell ⟨bu, k0 + k, none⟩ (.int .u32 (r : Nat))) = w2 at *
      go_loopw [6, 15] (fun e s wr => ∃ (g : Nat) (neg : Nat) (q : Bool) (X : List Nat), e = .int .u64 g ∧ s = .bool q ∧ ((neg = 1 ∧ q = true) ∨ (neg = 0 ∧ q = false)) ∧ EstAt W X V k g neg ∧ Keeps [bu] w wr ∧ Below bu w wr ∧ OwnD wr bu (P ++ X ++ S)) (fun e _ _ => (intOf e).toNat)
      case atStart => exact ⟨g, b1, q, X.set k r, rfl, rfl, HQ2.out, HE0.out, hkp2, hbl2, oo2⟩
      case round =>
       clear hkp2 hbl2 oo2 HE0 HQ2 hgi HEST
       obtain ⟨g, neg, q, X, rfl, rfl, hq, hE, hkp, hbl, oo⟩ := hrel
       have HE := Lib.hid hE
       have hg1 := hE.le
       have hgi : (g : Int) ≤ 4294967295 := by omega
       clear hE
       rcases hq with ⟨rfl, rfl⟩ | ⟨rfl, rfl⟩
       ·have hg0 := (HE.out.less HVP.out).2
        obtain ⟨h, hh⟩ : ∃ h, g - 1 = h := ⟨_, rfl⟩
        have hhi : (g : Int) - 1 = (h : Int) := by omega
        have hh1 : (h : Int) < 4294967295 := by omega
        have hgi0 : (1 : Int) ≤ (g : Int) := by omega
        have hhw : IntKind.u64.wrap ((g : Int) - 1) = (h : Int) := by rw [IntKind.wrap_u64]; omega
        have HH := Lib.hid hh
        have HG0 := Lib.hid hg0
        have hel := HE.out.len
        have hed := HE.out.dg
        have HEL := Lib.hid (And.intro hel hed)
        have lu := ownD_lt oo
        clear hh hg0 hel hed
        go_wp2
        go_loopw [16, 106] (fun c i wr => ∃ (j mm : Nat) (Y : List Nat), j ≤ k ∧ i = .int .i64 j ∧ c = .int .u32 mm ∧ mm ≤ 1 ∧ AddAt X Y V k j mm ∧ Keeps [bu] w wr ∧ Below bu w wr ∧ OwnD wr bu (P ++ Y ++ S)) (fun _ i _ => k - (intOf i).toNat)
        case atStart => exact ⟨0, 0, X, by omega, rfl, rfl, by omega, AddAt.start HEL.out.1 HEL.out.2, hkp, hbl, oo⟩
        case round =>
         clear hkp hbl oo lu
         obtain ⟨j, mm, Y, hj, rfl, rfl, hmm, hA, hkp, hbl, oo⟩ := hrel
         have HA := Lib.hid hA
         clear hA
         have oov := HVO.out.keeps hkp (by simp; exact hne)
         have oof := Own.thaw oo
         have oolt := ownD_lt oo
         obtain ⟨x, hx⟩ : ∃ d, dAt Y j = d := ⟨_, rfl⟩
         have cx := oo.cell (mid_len (S := S) HP.out.1 (by rw [HA.out.len]; omega)) ((mid_at HP.out.1 (by rw [HA.out.len]; omega)).trans hx)
         have hx1 : x < 4294967296 := by rw [← hx]; exact HA.out.dg.at_ j
         have HMS := fun r => Lib.hid (mid_set (S := S) (r := r) HP.out.1 (show j < Y.length by rw [HA.out.len]; omega))
         obtain ⟨d, hd⟩ : ∃ d, dAt V j = d := ⟨_, rfl⟩
         have hd1 : d < 4294967296 := by rw [← hd]; exact HG.out.2.at_ j
         have hadd := fun W => bits_Add32 x d mm hx1 hd1 hmm W
         obtain ⟨r, hr⟩ : ∃ r, (x + d + mm) % 4294967296 = r := ⟨_, rfl⟩
         obtain ⟨s, hs⟩ : ∃ s, (x + d + mm) / 4294967296 = s := ⟨_, rfl⟩
         have hr1 : r < 4294967296 := by omega
         have hs1 : s ≤ 1 := by omega
         have hri : (r : Int) < 4294967296 := by omega
         rw [hr, hs] at hadd
         have HADD := Lib.hid hadd
         have HNA := Lib.hid (HA.out.step hj hd hx hr1 (m' := s) (by omega))
         by_cases hlj : j < k
         ·have hlji : (j : Int) < (k : Int) := by omega
          have hljN : (j : Int) < (N : Int) := by omega
          have cd := oov.cell (by rw [HP.out.2.2]; exact hlj) hd
          clear hx hd hr hs hadd HA
          go_wp2_with fail
          refine Calls.mono (HADD.out _) ?_
          rintro e w5 ⟨rfl, rfl⟩
          go_wp2
          go_roundw
          case rel => exact ⟨j + 1, s, Y.set j r, by omega, by go_num, rfl, hs1, HNA.out, hkp.set (by simp) _, hbl.setCell (Nat.le_refl _) _, oo.set (HMS r).out⟩
          case measure => simp [intOf]; omega
         ·obtain rfl : j = k := by omega
          obtain rfl : 0 = d := by rw [← hd, dAt_out (by rw [HP.out.2.2]; exact Nat.le_refl _)]
          have HNE := Lib.hid (HE.out.back HVP.out HNA.out HP.out.2.2 hs1)
          rw [HH.out] at HNE
          clear hx hd hr hs hadd HA
          go_wp2_with fail
          refine Calls.mono (HADD.out _) ?_
          rintro e w5 ⟨rfl, rfl⟩
          have hs2 : s = 0 ∨ s = 1 := by omega
          rcases hs2 with rfl | rfl
          ·go_wp2
           go_roundw
           case rel => exact ⟨h, 1, true, Y.set j r, rfl, rfl, .inl ⟨rfl, rfl⟩, HNE.out, hkp.set (by simp) _, hbl.setCell (Nat.le_refl _) _, oo.set (HMS r).out⟩
           case measure => have := HH.out; have := HG0.out; simp [intOf]; omega
          ·go_wp2
           go_roundw
           case rel => exact ⟨h, 0, false, Y.set j r, rfl, rfl, .inr ⟨rfl, rfl⟩, HNE.out, hkp.set (by simp) _, hbl.setCell (Nat.le_refl _) _, oo.set (HMS r).out⟩
           case measure => have := HH.out; have := HG0.out; simp [intOf]; omega
       ·obtain ⟨d1, d2⟩ := HE.out.done HVP.out
        have HD1 := Lib.hid (And.intro d1 d2)
        clear d1 d2
        go_wp2
        go_ret
        exact ⟨⟨X, g, rfl, oo, by rw [← HN.out]; exact HE.out.len, HE.out.dg, HD1.out.1, HD1.out.2⟩, hkp, hbl⟩
 ·have hlti : ¬ (un : Int) < (vm : Int) := by omega
  obtain ⟨g, hg⟩ : ∃ g, 4294967295 = g := ⟨_, rfl⟩
  have HEST : Hid (min (vD W / vD V) 4294967295 ≤ g ∧ g ≤ 4294967295) := Lib.hid ⟨by omega, by omega⟩
  have hgi : (g : Int) < 4294967296 := by omega
  have hgc : (4294967295 : Int) = (g : Int) := by omega
  clear hest hg
  refine region_late 10 [] (by kernel_rfl) (by kernel_rfl) (by rfl) ?_
  apply Exists.intro
  refine ⟨fun v hv hne => ?_, fun u hu => ?_⟩
  ·simp only [List.take_succ_cons, List.take_zero]
   have d1 := later_cell (v := v) (T := []) ltu (by simp) cun
   have d3 := later_cell (v := v) (T := []) ltv (by simp) cvm
   repeat (go_big_quiet_step (fail))
   refine wpQuiet_nil ?_
   exact rfl
  ·simp only [List.drop_succ_cons, List.drop_zero]
   refine late_nil ?_
   (try simp only [Act.put, List.setIfInBounds_toArray, List.set_cons_zero, List.set_cons_succ])
   have hkp : Keeps [bu] w u := Keeps.of_below hu
   have hbl : Below bu w u := hu.mono (by omega)
   have oo : OwnD u bu (P ++ W ++ S) := HU.out.below hu
   clear hu cun cum cvm
   rw [hgc]
   clear hgc
   clear hlti
   go_wp2
   go_loopw [9, 10, 53] (fun c b i wr => ∃ (k cc bb : Nat) (X : List Nat), k ≤ n ∧ i = .int .i64 k ∧ c = .int .u64 cc ∧ b = .int .u64 bb ∧ cc < 4294967296 ∧ bb ≤ 1 ∧ SubAt W X V n k g (cc + bb) ∧ Keeps [bu] w wr ∧ Below bu w wr ∧ OwnD wr bu (P ++ X ++ S)) (fun _ _ i _ => n - (intOf i).toNat)
   case atStart => exact ⟨0, 0, 0, W, by omega, rfl, rfl, rfl, by omega, by omega, SubAt.start HP.out.2.1 HG.out.1, hkp, hbl, oo⟩
   case round =>
    clear hkp hbl oo
    obtain ⟨k, cc, bb, X, hk', rfl, rfl, rfl, hcc, hbb, hsub, hkp, hbl, oo⟩ := hrel
    have HS := Lib.hid hsub
    clear hsub
    have oov := HVO.out.keeps hkp (by simp; exact hne)
    have oof := Own.thaw oo
    have oolt := ownD_lt oo
    by_cases hlk : k < n
    ·have hlki : (k : Int) < (n : Int) := by omega
     have hlkN : (k : Int) < (N : Int) := by omega
     obtain ⟨d, hd⟩ : ∃ d, dAt V k = d := ⟨_, rfl⟩
     obtain ⟨x, hx⟩ : ∃ d, dAt X k = d := ⟨_, rfl⟩
     have cd := oov.cell (by rw [HP.out.2.2]; exact hlk) hd
     have cx := oo.cell (mid_len HP.out.1 (by rw [HS.out.len]; omega)) ((mid_at HP.out.1 (by rw [HS.out.len]; omega)).trans hx)
     have hd1 : d < 4294967296 := by rw [← hd]; exact HG.out.2.at_ k
     have hx1 : x < 4294967296 := by rw [← hx]; exact HS.out.dg.at_ k
     have hg1 : g < 4294967296 := by omega
     obtain ⟨p, hp⟩ : ∃ p, g * d = p := ⟨_, rfl⟩
     have hpb : p ≤ 18446744065119617025 := by rw [← hp]; exact prod_lt hg1 hd1
     have hpi : (g : Int) * (d : Int) = (p : Int) := by rw [← hp]; exact (Int.natCast_mul g d).symm
     obtain ⟨C, hC⟩ : ∃ C, cc + p = C := ⟨_, rfl⟩
     have hCi : (cc : Int) + (p : Int) = (C : Int) := by omega
     have hCb : C < 18446744073709551616 := by omega
     have hCbi : (C : Int) < 18446744073709551616 := by omega
     obtain ⟨lo, hlo⟩ : ∃ l, C % 4294967296 = l := ⟨_, rfl⟩
     obtain ⟨hi, hhi⟩ : ∃ l, C / 4294967296 = l := ⟨_, rfl⟩
     have hand : bits .and .u64 (C : Int) 4294967295 = (lo : Int) := by rw [mask32 hCb, hlo]
     have hshr : (C : Int) / 4294967296 = (hi : Int) := by omega
     have hlo1 : lo < 4294967296 := by omega
     have hhi1 : hi < 4294967296 := by omega
     have hxi : (x : Int) < 4294967296 := by omega
     have hloi : (lo : Int) < 4294967296 := by omega
     have hbbi : (bb : Int) ≤ 1 := by omega
     obtain ⟨X1, X2, r, b1, hX1, hX2, hX3, hX4, hX5, hX6, hr1, hb1, hsum⟩ := sub64 (bb := bb) hx1 hlo1 hbb
     have hX5i : (X1 : Int) < 18446744073709551616 := by omega
     have hX6i : (X2 : Int) < 18446744073709551616 := by omega
     have hri : (r : Int) < 4294967296 := by omega
     have HNS := Lib.hid (HS.out.step (hi := hi) (lo := lo) hlk hd hx hr1 (by rw [hp]; omega) hsum)
     have HMS := Lib.hid (mid_set (S := S) (r := r) HP.out.1 (show k < X.length by rw [HS.out.len]; omega))
     clear hd hx hp hC hlo hhi hsum HS
     go_wp2
     go_roundw
     case rel => exact ⟨k + 1, hi, b1, X.set k r, by omega, by go_num, rfl, rfl, hhi1, hb1, HNS.out, hkp.set (by simp) _, hbl.setCell (Nat.le_refl _) _, oo.set HMS.out⟩
     case measure => simp [intOf]; omega
    ·obtain rfl : k = n := by omega
     obtain ⟨x, hx⟩ : ∃ d, dAt X k = d := ⟨_, rfl⟩
     have cx := oo.cell (mid_len (S := S) HP.out.1 (by rw [HS.out.len]; omega)) ((mid_at HP.out.1 (by rw [HS.out.len]; omega)).trans hx)
     have hx1 : x < 4294967296 := by rw [← hx]; exact HS.out.dg.at_ k
     obtain ⟨X1, X2, r, b1, hX1, hX2, hX3, hX4, hX5, hX6, hr1, hb1, hsum⟩ := sub64 (bb := bb) hx1 hcc hbb
     obtain ⟨t1, t2, t3⟩ := HS.out.top (r := r) (neg := b1) HP.out.2.2 hx hr1 (by omega)
     have HE0 : Hid (EstAt W (X.set k r) V k g b1) := Lib.hid ⟨t1, t2, t3, HEST.out.1, HEST.out.2⟩
     have HMS := Lib.hid (mid_set (S := S) (r := r) HP.out.1 (show k < X.length by rw [HS.out.len]; omega))
     have hxi : (x : Int) < 4294967296 := by omega
     have hcci : (cc : Int) < 4294967296 := by omega
     have hX5i : (X1 : Int) < 18446744073709551616 := by omega
     have hX6i : (X2 : Int) < 18446744073709551616 := by omega
     have hri : (r : Int) < 4294967296 := by omega
     obtain ⟨q, hq⟩ : ∃ q, decide ((0 : Int) < (b1 : Int)) = q := ⟨_, rfl⟩
     have hq2 : (b1 = 1 ∧ q = true) ∨ (b1 = 0 ∧ q = false) := by
      have : b1 = 0 ∨ b1 = 1 := by omega
      rcases this with h | h
      ·exact .inr ⟨h, by rw [← hq, h]; rfl⟩
      ·exact .inl ⟨h, by rw [← hq, h]; rfl⟩
     have HQ2 := Lib.hid hq2
     have hq3 : decide (0 < b1) = q := by rw [← hq]; simp
     clear hx t1 t2 t3 hsum hq2 HS
     go_wp2
     have hkp2 : Keeps [bu] w (wr.setCell ⟨bu, k0 + k, none⟩ (.int .u32 (r : Nat))) := hkp.set (by simp) _
     have hbl2 : Below bu w (wr.setCell ⟨bu, k0 + k, none⟩ (.int .u32 (r : Nat))) := hbl.setCell (Nat.le_refl _) _
     have oo2 : OwnD (wr.setCell ⟨bu, k0 + k, none⟩ (.int .u32 (r : Nat))) bu (P ++ X.set k r ++ S) := oo.set HMS.out
     clear cx hkp hbl oo oof oolt oov hX1 hX2 hX3 hX4 hX5 hX6 hX5i hX6i hq hq3 HMS hcc hcci
     generalize (wr.setCell ⟨bu, k0 + k, none⟩ (.int .u32 (r : Nat))) = w2 at *
     go_loopw [6, 15] (fun e s wr => ∃ (g : Nat) (neg : Nat) (q : Bool) (X : List Nat), e = .int .u64 g ∧ s = .bool q ∧ ((neg = 1 ∧ q = true) ∨ (neg = 0 ∧ q = false)) ∧ EstAt W X V k g neg ∧ Keeps [bu] w wr ∧ Below bu w wr ∧ OwnD wr bu (P ++ X ++ S)) (fun e _ _ => (intOf e).toNat)
     case atStart => exact ⟨g, b1, q, X.set k r, rfl, rfl, HQ2.out, HE0.out, hkp2, hbl2, oo2⟩
     case round =>
      clear hkp2 hbl2 oo2 HE0 HQ2 hgi HEST
      obtain ⟨g, neg, q, X, rfl, rfl, hq, hE, hkp, hbl, oo⟩ := hrel
      have HE := Lib.hid hE
      have hg1 := hE.le
      have hgi : (g : Int) ≤ 4294967295 := by omega
      clear hE
      rcases hq with ⟨rfl, rfl⟩ | ⟨rfl, rfl⟩
      ·have hg0 := (HE.out.less HVP.out).2
       obtain ⟨h, hh⟩ : ∃ h, g - 1 = h := ⟨_, rfl⟩
       have hhi : (g : Int) - 1 = (h : Int) := by omega
       have hh1 : (h : Int) < 4294967295 := by omega
       have hgi0 : (1 : Int) ≤ (g : Int) := by omega
       have hhw : IntKind.u64.wrap ((g : Int) - 1) = (h : Int) := by rw [IntKind.wrap_u64]; omega
       have HH := Lib.hid hh
       have HG0 := Lib.hid hg0
       have hel := HE.out.len
       have hed := HE.out.dg
       have HEL := Lib.hid (And.intro hel hed)
       have lu := ownD_lt oo
       clear hh hg0 hel hed
       go_wp2
       go_loopw [16, 106] (fun c i wr => ∃ (j mm : Nat) (Y : List Nat), j ≤ k ∧ i = .int .i64 j ∧ c = .int .u32 mm ∧ mm ≤ 1 ∧ AddAt X Y V k j mm ∧ Keeps [bu] w wr ∧ Below bu w wr ∧ OwnD wr bu (P ++ Y ++ S)) (fun _ i _ => k - (intOf i).toNat)
       case atStart => exact ⟨0, 0, X, by omega, rfl, rfl, by omega, AddAt.start HEL.out.1 HEL.out.2, hkp, hbl, oo⟩
       case round =>
        clear hkp hbl oo lu
        obtain ⟨j, mm, Y, hj, rfl, rfl, hmm, hA, hkp, hbl, oo⟩ := hrel
        have HA := Lib.hid hA
        clear hA
        have oov := HVO.out.keeps hkp (by simp; exact hne)
        have oof := Own.thaw oo
        have oolt := ownD_lt oo
        obtain ⟨x, hx⟩ : ∃ d, dAt Y j = d := ⟨_, rfl⟩
        have cx := oo.cell (mid_len (S := S) HP.out.1 (by rw [HA.out.len]; omega)) ((mid_at HP.out.1 (by rw [HA.out.len]; omega)).trans hx)
        have hx1 : x < 4294967296 := by rw [← hx]; exact HA.out.dg.at_ j
        have HMS := fun r => Lib.hid (mid_set (S := S) (r := r) HP.out.1 (show j < Y.length by rw [HA.out.len]; omega))
        obtain ⟨d, hd⟩ : ∃ d, dAt V j = d := ⟨_, rfl⟩
        have hd1 : d < 4294967296 := by rw [← hd]; exact HG.out.2.at_ j
        have hadd := fun W => bits_Add32 x d mm hx1 hd1 hmm W
        obtain ⟨r, hr⟩ : ∃ r, (x + d + mm) % 4294967296 = r := ⟨_, rfl⟩
        obtain ⟨s, hs⟩ : ∃ s, (x + d + mm) / 4294967296 = s := ⟨_, rfl⟩
        have hr1 : r < 4294967296 := by omega
        have hs1 : s ≤ 1 := by omega
        have hri : (r : Int) < 4294967296 := by omega
        rw [hr, hs] at hadd
        have HADD := Lib.hid hadd
        have HNA := Lib.hid (HA.out.step hj hd hx hr1 (m' := s) (by omega))
        by_cases hlj : j < k
        ·have hlji : (j : Int) < (k : Int) := by omega
         have hljN : (j : Int) < (N : Int) := by omega
         have cd := oov.cell (by rw [HP.out.2.2]; exact hlj) hd
         clear hx hd hr hs hadd HA
         go_wp2_with fail
         refine Calls.mono (HADD.out _) ?_
         rintro e w5 ⟨rfl, rfl⟩
         go_wp2
         go_roundw
         case rel => exact ⟨j + 1, s, Y.set j r, by omega, by go_num, rfl, hs1, HNA.out, hkp.set (by simp) _, hbl.setCell (Nat.le_refl _) _, oo.set (HMS r).out⟩
         case measure => simp [intOf]; omega
        ·obtain rfl : j = k := by omega
         obtain rfl : 0 = d := by rw [← hd, dAt_out (by rw [HP.out.2.2]; exact Nat.le_refl _)]
         have HNE := Lib.hid (HE.out.back HVP.out HNA.out HP.out.2.2 hs1)
         rw [HH.out] at HNE
         clear hx hd hr hs hadd HA
         go_wp2_with fail
         refine Calls.mono (HADD.out _) ?_
         rintro e w5 ⟨rfl, rfl⟩
         have hs2 : s = 0 ∨ s = 1 := by omega
         rcases hs2 with rfl | rfl
         ·go_wp2
          go_roundw
          case rel => exact ⟨h, 1, true, Y.set j r, rfl, rfl, .inl ⟨rfl, rfl⟩, HNE.out, hkp.set (by simp) _, hbl.setCell (Nat.le_refl _) _, oo.set (HMS r).out⟩
          case measure => have := HH.out; have := HG0.out; simp [intOf]; omega
         ·go_wp2
          go_roundw
          case rel => exact ⟨h, 0, false, Y.set j r, rfl, rfl, .inr ⟨rfl, rfl⟩, HNE.out, hkp.set (by simp) _, hbl.setCell (Nat.le_refl _) _, oo.set (HMS r).out⟩
          case measure => have := HH.out; have := HG0.out; simp [intOf]; omega
      ·obtain ⟨d1, d2⟩ := HE.out.done HVP.out
       have HD1 := Lib.hid (And.intro d1 d2)
       clear d1 d2
       go_wp2
       go_ret
       exact ⟨⟨X, g, rfl, oo, by rw [← HN.out]; exact HE.out.len, HE.out.dg, HD1.out.1, HD1.out.2⟩, hkp, hbl⟩
end Go.Proofs.YtflgngjocgiojaaGreat
