/- Package hull: slices.SortFunc by plane.Compare; slices.Clone; distinct. -/
import Derived.Test.YtccnlnkgoaelpaaHullH
import Derived.Test.YtccnlnkgoaelpaaPlaneZ
namespace Go.Proofs.Ytccnlnkgoaelpaa
open Go.RowKit Go.Sort LG

set_option maxRecDepth 100000 in
set_option maxHeartbeats 1000000 in
theorem plane_CompareG (x y z b x' y' z' b' : Int) (w : World) :
    Calls Try.prog 10 #[vP x y z b, vP x' y' z' b'] w fun r w' => r = .returned (.int .i64 (pCompare ⟨⟨x, y, z⟩, b⟩ ⟨⟨x', y', z'⟩, b'⟩)) ∧ Gr w w' := by
  obtain ⟨L, hL⟩ : ∃ L, [(x, x'), (y, y'), (z, z'), (b, b')] = L := ⟨_, rfl⟩
  have hcmp := Lib.hid (show pCompare ⟨⟨x, y, z⟩, b⟩ ⟨⟨x', y', z'⟩, b'⟩ = cmpL (L.drop 0) by rw [← hL]; rfl)
  have hlen : L.length = 4 := by rw [← hL]; rfl
  have hat : ∀ k (h : k < L.length), #[Value.int .i64 x, .int .i64 x', .int .i64 y, .int .i64 y', .int .i64 z, .int .i64 z', .int .i64 b, .int .i64 b'][k * 2]? = some (.int .i64 L[k].1) ∧
      #[Value.int .i64 x, .int .i64 x', .int .i64 y, .int .i64 y', .int .i64 z, .int .i64 z', .int .i64 b, .int .i64 b'][k * 2 + 1]? = some (.int .i64 L[k].2) := by
    intro k h
    subst hL
    match k, h with
    | 0, _ => exact ⟨rfl, rfl⟩
    | 1, _ => exact ⟨rfl, rfl⟩
    | 2, _ => exact ⟨rfl, rfl⟩
    | 3, _ => exact ⟨rfl, rfl⟩
  have HAT := Lib.hid hat
  have HN := Lib.hid hlen
  clear hL hlen hat
  go_enter Try.func10, Try.ntmps10
  go_wp2
  go_step3
  go_wp2
  go_step3
  go_wp2
  have p1 : Own ((((w.alloc (.cells #[.int .i64 x, .int .i64 y, .int .i64 z, .int .i64 b] 33)).alloc (.cells #[.int .i64 x', .int .i64 y', .int .i64 z', .int .i64 b'] 33))).alloc (.cells #[.int .i64 x, .int .i64 x', .int .i64 y, .int .i64 y', .int .i64 z, .int .i64 z', .int .i64 b, .int .i64 b'] 66)) (w.heap.size + 1 + 1) #[.int .i64 x, .int .i64 x', .int .i64 y, .int .i64 y', .int .i64 z, .int .i64 z', .int .i64 b, .int .i64 b'] := (by repeat' (first | ((refine Own.new ?_); (focus (first | rfl | omega | (simp; done) | (simp; omega)))) | assumption | refine Own.alloc ?_ _ | refine Own.drew ?_ | (refine Own.far ?_ ?_ _; rotate_left; (focus (first | rfl | omega | (simp; done) | (simp; omega))))))
  have hw2 : Gr w ((((w.alloc (.cells #[.int .i64 x, .int .i64 y, .int .i64 z, .int .i64 b] 33)).alloc (.cells #[.int .i64 x', .int .i64 y', .int .i64 z', .int .i64 b'] 33))).alloc (.cells #[.int .i64 x, .int .i64 x', .int .i64 y, .int .i64 y', .int .i64 z, .int .i64 z', .int .i64 b, .int .i64 b'] 66)) := (((Gr.refl _).alloc _).alloc _).alloc _
  generalize (((w.alloc (.cells #[.int .i64 x, .int .i64 y, .int .i64 z, .int .i64 b] 33)).alloc (.cells #[.int .i64 x', .int .i64 y', .int .i64 z', .int .i64 b'] 33))).alloc (.cells #[.int .i64 x, .int .i64 x', .int .i64 y, .int .i64 y', .int .i64 z, .int .i64 z', .int .i64 b, .int .i64 b'] 66) = w2 at *
  have P1 := Lib.hid p1
  have HW := Lib.hid hw2
  clear p1 hw2
  go_loopw [5, 36] (fun out i wr => ∃ k : Nat, k ≤ 4 ∧ i = .int .i64 k ∧ out = .int .i64 0 ∧ Gr w wr ∧ Own wr (w.heap.size + 1 + 1) #[.int .i64 x, .int .i64 x', .int .i64 y, .int .i64 y', .int .i64 z, .int .i64 z', .int .i64 b, .int .i64 b'] ∧ cmpL (L.drop k) = cmpL (L.drop 0)) (fun _ i _ => 4 - (intOf i).toNat)
  case atStart => exact ⟨0, by omega, rfl, rfl, HW.out, P1.out, rfl⟩
  case round =>
    obtain ⟨k, hk, rfl, rfl, hbel, hown, hcm⟩ := hrel
    have HC := Lib.hid hcm
    have HB := Lib.hid hbel
    have HO := Lib.hid hown
    have hz := hown.lt
    have hs := (Gr.below hbel).size
    clear hcm hbel
    by_cases hlt : k < 4
    · have hlt2 : k < L.length := by rw [HN.out]; exact hlt
      have hk4 : (k : Int) < 4 := by omega
      have c1 : wr.cell? ⟨w.heap.size + 1 + 1, k * 2, none⟩ = some (.int .i64 L[k].1) := (hown.cell _).trans (HAT.out k hlt2).1
      have c2 : wr.cell? ⟨w.heap.size + 1 + 1, k * 2 + 1, none⟩ = some (.int .i64 L[k].2) := (hown.cell _).trans (HAT.out k hlt2).2
      clear hown
      by_cases a1 : L[k].1 = L[k].2
      · have H1 := Lib.hid (cmp_eq hlt2 a1)
        have H0 := Lib.hid (ordI_zero.2 a1)
        clear a1
        go_wp2_with (go_at_call 34; refine (callv (plane_order _ _ _) (congrArg (Value.int IntKind.i64) H0.out)).mono ?_; rintro e w' ⟨rfl, rfl⟩)
        go_roundw
        case rel => exact ⟨k + 1, by omega, by go_num, rfl, Gr.alloc HB.out _, HO.out.alloc _, H1.out.symm.trans HC.out⟩
        case measure => simp [intOf]; omega
      · have H1 := Lib.hid ((cmp_step hlt2).trans (if_neg a1))
        have H0 : (ordI L[k].1 L[k].2 == 0) = false := by simpa using fun h => a1 (ordI_zero.1 h)
        clear a1
        go_wp2_with (go_at_call 34; refine (plane_order _ _ _).mono ?_; rintro e w' ⟨rfl, rfl⟩)
        rw [Exit.noGoto_ret]
        go_ret
        exact ⟨ret_int (by rw [hcmp.out, ← HC.out, H1.out]), Gr.alloc HB.out _⟩
    · have hk4 : k = 4 := by omega
      subst hk4
      go_wp2
      rw [Exit.noGoto_ret]
      go_ret
      exact ⟨ret_int (by rw [hcmp.out, ← HC.out, List.drop_eq_nil_of_le (by rw [HN.out]; omega)]; rfl), HB.out⟩

theorem pCompare_lt : ltOf pCompare = pLt := rfl
set_option maxHeartbeats 1000000 in
/-- slices.SortFunc by plane.Compare over a row of planes of one's own. -/
theorem sortP_own {w : World} {g : Nat} {M : List Pl} (cap : Nat) (h : RowQ w g M) (hlen : M.length < 1000000000) :
    Calls Try.prog 31 #[.slice (some ⟨g, 0, none⟩) M.length cap, .func (.func 10) #[] #[]] w fun e w' => e = .returned (.tuple #[]) ∧ ∃ M', M'.Perm M ∧ M'.Pairwise (fun a b => pLt b a = false) ∧ RowQ w' g M' ∧ Upd [g] w w' := by
  have eg : ∀ args w, (callFunc 10 args).run Try.prog w = .ok (.enter 10 args) w := enters_of Try.func10 (by kernel_rfl) rfl
  have hcon := AnyQ.slices_SortFunc Try.sortP 4 Try.isAgg33 Try.sizeOf33 encP (fun _ => rfl) (fun x v hv => by simp [encP] at hv; rcases hv with rfl | rfl | rfl | rfl <;> rfl) pCompare (by rw [pCompare_lt]; exact swo_of pLt_strict) 10 #[] g 0 cap M.toArray w eg (fun _ _ _ _ x y => plane_CompareG _ _ _ _ _ _ _ _ _) (holdsP h) h.lt (by simp; omega)
  simp only [List.size_toArray] at hcon
  refine hcon.mono ?_
  rintro e1 w' ⟨rfl, d', n, os, hp, hs, rfl⟩
  obtain ⟨p1, _, p3⟩ := hp
  have p1' : d'.size = M.length := by simpa using p1
  refine ⟨rfl, d'.toList, ?_, ?_, of_holdsP h n d' p1' os, sortWorld_upd _ _ _ _ _ _ _⟩
  · have a1 : d'.extract 0 M.length = d' := by rw [← p1']; simp
    have a2 : M.toArray.extract 0 M.length = M.toArray := by simp
    rw [a1, a2] at p3
    simpa using p3
  · rw [List.pairwise_iff_getElem]
    intro i j hi hj hij
    have hi' : i < d'.size := by simpa using hi
    have hj' : j < d'.size := by simpa using hj
    have := hs i j (by omega) hij (by omega)
    rw [pCompare_lt, arr_at d' hi', arr_at d' hj'] at this
    exact this
/-- .. over no planes. -/
theorem sortP_none (A : Option Addr) (cap : Nat) (w : World) : Calls Try.prog 31 #[.slice A 0 cap, .func (.func 10) #[] #[]] w fun e w' => e = .returned (.tuple #[]) ∧ w' = w :=
  AnyF.slices_SortFunc_none Try.sortP A cap _ w

theorem flat_len (L : List V3) : (L.flatMap encV).length = L.length * 3 := by
  induction L with
  | nil => rfl
  | cons x L ih => simp [encV, ih]; omega
theorem flat_at : ∀ (L : List V3) (i c : Nat), i < L.length → c < 3 → (L.flatMap encV)[i * 3 + c]? = (encV (vAt L i))[c]?
  | [], i, _, h, _ => by simp at h
  | x :: L, 0, c, _, hc => by
    rw [List.flatMap_cons, List.getElem?_append_left (by simp [encV]; omega), Nat.zero_mul, Nat.zero_add]; rfl
  | x :: L, i + 1, c, h, hc => by
    rw [List.flatMap_cons, List.getElem?_append_right (by simp [encV]; omega)]
    rw [show (i + 1) * 3 + c - (encV x).length = i * 3 + c by simp [encV]; omega, flat_at L i c (by simpa using h) hc]
    rfl
theorem ownsRow_pos' {w : World} {base : Nat} {e : TypeId} {size : Nat} {v : Value} {n : Nat} {xs : List Value} (h : w.ownsRow base e size v n xs) (hn : 0 < n) : ∃ g cap, v = .slice (some ⟨g, 0, none⟩) n cap := by
  rcases h.2 with ⟨rfl, h0⟩ | ⟨g, cap, cur, rfl, _⟩
  · omega
  · exact ⟨g, cap, rfl⟩
set_option maxHeartbeats 1000000 in
theorem cloneV {w : World} {A : Option Addr} {n : Nat} {L : List V3} (c : Nat) (hv : VecsAt w A n L) (hn : 0 < n) (hn2 : n ≤ 1000000) :
    Calls Try.prog 46 #[.slice A n c] w fun e w' => ∃ g cap, e = .returned (.slice (some ⟨g, 0, none⟩) n cap) ∧ w.heap.size ≤ g ∧ n ≤ cap ∧ cap ≤ 9223372036854775807 ∧ RowO w' g L ∧ Below w.heap.size w w' := by
  obtain ⟨b, off, rfl, hb, hc⟩ := hv.row hn
  obtain ⟨i0, hi, hz0, hz1, hz2⟩ := info_parts infoVec
  have hl := hv.len
  have hcon := AnyE.slices_Clone Try.cloneV i0 (.agg #[.int .i64 0, .int .i64 0, .int .i64 0]) 3 24 hi hz0 hz1 hz2 rfl (by omega) Try.sizeOf31 b off n c (L.flatMap encV) w (by rw [flat_len, hl]) (by unfold maxLen; omega) (by omega) (fun j u hj => by
    have hj2 : j < n * 3 := by rw [← hl, ← flat_len]; exact (List.getElem?_eq_some_iff.1 hj).1
    obtain ⟨i, k, hk, rfl⟩ : ∃ i k, k < 3 ∧ j = i * 3 + k := ⟨j / 3, j % 3, by omega, by omega⟩
    rw [flat_at L i k (by omega) hk] at hj
    obtain ⟨h1, h2, h3⟩ := hc i (by omega)
    rcases (show k = 0 ∨ k = 1 ∨ k = 2 by omega) with rfl | rfl | rfl
    · simp [encV] at hj; rw [← hj]; exact h1
    · simp [encV] at hj; rw [← hj, ← Nat.add_assoc]; exact h2
    · simp [encV] at hj; rw [← hj, ← Nat.add_assoc]; exact h3) (fun u hu => by
    obtain ⟨v, _, h⟩ := List.mem_flatMap.1 hu
    simp [encV] at h; rcases h with rfl | rfl | rfl <;> rfl)
  refine hcon.mono ?_
  rintro e w' ⟨v', rfl, hown, _, hbel⟩
  obtain ⟨g, cap, rfl⟩ := ownsRow_pos' hown hn
  obtain ⟨hg1, hg2, hg3, cs, hgo, hgc⟩ := ownsRow_own hown hn
  unfold maxLen at hg3
  refine ⟨g, cap, rfl, hg1, hg2, by omega, ⟨cs, hgo, fun i hi => ?_⟩, hbel⟩
  have q := fun k (hk : k < 3) => (hgc (i * 3 + k) (by omega)).trans (flat_at L i k hi hk)
  exact ⟨q 0 (by omega), q 1 (by omega), q 2 (by omega)⟩
theorem distinctL_len (L : List V3) : (distinctL L).length ≤ L.length := by
  have : ∀ (l : List V3) x, (putG vLt l x).length ≤ l.length + 1 := by
    intro l x
    induction l with
    | nil => simp [putG]
    | cons y l ih =>
      unfold putG
      split
      · simp; omega
      · split <;> simp
  induction L with
  | nil => simp [distinctL]
  | cons x L ih =>
    unfold distinctL
    have := this (distinctL L) x
    simp; omega
set_option maxRecDepth 100000 in
set_option maxHeartbeats 1000000 in
theorem hull_distinct {w : World} {A : Option Addr} {n : Nat} {L : List V3} (c : Nat) (hv : VecsAt w A n L) (hn : 0 < n) (hn2 : n ≤ 1000000) :
    Calls Try.prog 28 #[.slice A n c] w fun e w' => ∃ g cap, e = .returned (.slice (some ⟨g, 0, none⟩) (distinctL L).length cap) ∧ w.heap.size ≤ g ∧ (distinctL L).length ≤ cap ∧ cap ≤ 9223372036854775807 ∧ RowO w' g (distinctL L) ∧ Below w.heap.size w w' := by
  have hl := Lib.hid hv.len
  have HV := Lib.hid hv
  have HLEN := Lib.hid (distinctL_len L)
  clear hv
  go_enter Try.func28, Try.ntmps28
  go_wp2_with fail
  refine (cloneV c HV.out hn hn2).mono ?_
  rintro e w1 ⟨g, cap, rfl, hg, hcap, hcap2, hrow, hb1⟩
  have HROW := Lib.hid hrow
  have HB := Lib.hid hb1
  clear hrow hb1
  have hs := sortV_own cap HROW.out (by rw [hl.out]; omega)
  rw [hl.out] at hs
  have HS := Lib.hid hs
  clear hs
  go_wp2_with fail
  refine HS.out.mono ?_
  rintro e w2 ⟨rfl, M, hp, hpw, hrow2, hup⟩
  have hlm := hp.length_eq
  have hc := compactV cap hrow2 (by rw [hlm, hl.out]; exact hcap) hcap2 (by rw [hlm, hl.out]; exact hn) (by rw [hlm, hl.out]; exact hn2)
  rw [distinct_cp hp hpw, hlm, hl.out] at hc
  have HC := Lib.hid hc
  have HB2 := Lib.hid (Upd.below HB.out hup (fun b hb => by simp at hb; omega))
  clear hc hup hrow2 hpw hp hlm HROW HS
  go_wp2_with fail
  refine HC.out.mono ?_
  rintro e w3 ⟨rfl, hrow3, hup3⟩
  have HB3 := Lib.hid (Upd.below HB2.out hup3 (fun b hb => by simp at hb; omega))
  have HR3 := Lib.hid hrow3
  clear hrow3 hup3
  go_wp2
  go_ret
  have := HLEN.out
  have := hl.out
  exact ⟨g, cap, rfl, hg, by omega, hcap2, HR3.out, HB3.out⟩
end Go.Proofs.Ytccnlnkgoaelpaa
