/- slices.DeleteFunc over vectors. -/
import Derived.Lib.SlBy
import Derived.Test.YtccnlnkgoaelpaaHullW
namespace Go.Proofs.Ytccnlnkgoaelpaa
open Go.RowKit Go.Shelf

/-- Where the first element lies that a predicate takes. -/
theorem indexV {w : World} {A : Option Addr} {n : Nat} {L : List V3} (c g : Nat) (lb : Array Value) (p : V3 → Bool) (eg : ∀ args w, (callFunc g args).run Try.prog w = .ok (.enter g args) w) (hv : VecsAt w A n L) (h0 : 0 < n)
    (hp : PredBelow Try.prog g lb V3.v p w) (r : Int) (hr : (r = -1 ∧ ∀ j, j < n → p (vAt L j) = false) ∨ ∃ k : Nat, r = k ∧ k < n ∧ p (vAt L k) = true ∧ ∀ j, j < k → p (vAt L j) = false) :
    Calls Try.prog 58 #[.slice A n c, .func (.func g) #[] lb] w fun e w' => e = .returned (.int .i64 r) ∧ Below w.heap.size w w' := by
  obtain ⟨b, off, rfl, hb, hc⟩ := hv.row h0
  have hl := hv.len
  have hcon := AnyQ.slices_IndexFunc (P := Try.prog) (ρ := Try.containsV_ren) { Try.containsV with } 3 Try.isAgg31 Try.sizeOf31 encV (fun _ => rfl) p g lb eg b off n c L w hp (by omega) hv.max hb (fun j hj i v hi => by
    have h1 := hc j (by omega)
    rw [getV L hj] at hi
    generalize vAt L j = y at hi h1
    match i, hi with
    | 0, hi => simp [encV] at hi; rw [← hi]; exact h1.1
    | 1, hi => simp [encV] at hi; rw [← hi]; exact h1.2.1
    | 2, hi => simp [encV] at hi; rw [← hi]; exact h1.2.2
    | i + 3, hi => simp [encV] at hi)
  have e : Lib.idxBy (fun _ y => p y) (L.take n) default = r := by
    rcases hr with ⟨rfl, h⟩ | ⟨k, rfl, hk, h1, h2⟩
    · exact Lib.idxBy_miss _ _ _ _ fun j hj => by rw [getV L (by omega)]; exact h j hj
    · exact Lib.idxBy_hit _ _ _ _ _ hk (by omega) (by rw [getV L (by omega)]; exact h1) fun j hj => by rw [getV L (by omega)]; exact h2 j hj
  rw [e] at hcon
  exact hcon
theorem first_hit (p : V3 → Bool) (M : List V3) (n : Nat) : (∀ j, j < n → p (vAt M j) = false) ∨ ∃ k, k < n ∧ p (vAt M k) = true ∧ ∀ j, j < k → p (vAt M j) = false := by
  induction n with
  | zero => exact .inl fun j hj => by omega
  | succ n ih =>
    rcases ih with h | ⟨k, hk, h1, h2⟩
    · cases e : p (vAt M n) with
      | true => exact .inr ⟨n, by omega, e, h⟩
      | false =>
        refine .inl fun j hj => ?_
        rcases Nat.lt_or_ge j n with h3 | h3
        · exact h j h3
        · obtain rfl : j = n := by omega
          exact e
    · exact .inr ⟨k, by omega, h1, h2⟩
def dlK (p : V3 → Bool) (M : List V3) (k : Nat) : List V3 := (M.take k).filter fun v => !p v
theorem dlK_succ {p : V3 → Bool} {M : List V3} {k : Nat} (hk : k < M.length) : dlK p M (k + 1) = dlK p M k ++ (if p (vAt M k) = true then [] else [vAt M k]) := by
  have e : vAt M k = M[k] := by unfold vAt; simp [List.getD_eq_getElem?_getD, hk]
  rw [e]
  unfold dlK
  rw [List.take_succ_eq_append_getElem hk, List.filter_append]
  cases h : p M[k] <;> simp [h]
theorem dlK_none {p : V3 → Bool} {M : List V3} {k : Nat} (hk : k ≤ M.length) (h : ∀ j, j < k → p (vAt M j) = false) : dlK p M k = M.take k := by
  unfold dlK
  rw [List.filter_eq_self]
  intro v hv
  obtain ⟨i, hi, rfl⟩ := List.getElem_of_mem hv
  have hi2 : i < k := by have : (M.take k).length ≤ k := by simp; omega
                         omega
  have e : vAt M i = (M.take k)[i] := by unfold vAt; simp [List.getD_eq_getElem?_getD, show i < M.length by omega]
  rw [← e, h i hi2]; rfl
theorem dlK_all (p : V3 → Bool) (M : List V3) : dlK p M M.length = M.filter fun v => !p v := by unfold dlK; rw [List.take_length]
theorem dlK_len (p : V3 → Bool) (M : List V3) (k : Nat) : (dlK p M k).length ≤ k := Nat.le_trans (List.length_filter_le _ _) (by simp; omega)

set_option maxRecDepth 100000 in
set_option maxHeartbeats 8000000 in
theorem deleteV {w : World} {g : Nat} {M : List V3} (cap gF : Nat) (lb : Array Value) (p : V3 → Bool) (eg : ∀ args w, (callFunc gF args).run Try.prog w = .ok (.enter gF args) w) (h : RowO w g M) (hcap : M.length ≤ cap) (hcap2 : cap ≤ 9223372036854775807) (hn1 : 1 ≤ M.length) (hn2 : M.length ≤ 1000000)
    (hp : ∀ W, Upd [g] w W → ∀ v : V3, Calls Try.prog gF (#[v.v] ++ lb) W fun e w' => e = .returned (.bool (p v)) ∧ Below W.heap.size W w') :
    Calls Try.prog 38 #[.slice (some ⟨g, 0, none⟩) M.length cap, .func (.func gF) #[] lb] w fun e w' => e = .returned (.slice (some ⟨g, 0, none⟩) (M.filter fun v => !p v).length cap) ∧ RowO w' g (M.filter fun v => !p v) ∧ Upd [g] w w' := by
  rw [← dlK_all]
  obtain ⟨n, hn⟩ : ∃ n, M.length = n := ⟨_, rfl⟩
  rw [hn] at hcap hn1 hn2 ⊢
  have hni : (n : Int) ≤ (cap : Int) := by omega
  have hci : (cap : Int) ≤ 9223372036854775807 := by omega
  have hn0 : (0 : Int) < (n : Int) := by omega
  have hvs : VecsAt w (some ⟨g, 0, none⟩) n M := by have q := h.vecs (Nat.le_refl _) (by omega); rw [List.take_length, hn] at q; exact q
  have hpb : PredBelow Try.prog gF lb V3.v p w := fun W x hb => (hp W (Upd.of_below hb) x).mono fun _ _ ⟨he, h⟩ => ⟨he, Below.hop hb h⟩
  have HR := Lib.hid h
  have HN := Lib.hid hn
  have HP := Lib.hid hp
  clear h hn hp
  rcases first_hit p M n with hnone | ⟨i0, hi0, hhit, hbefore⟩
  · have hix := indexV cap gF lb p eg hvs (by omega) hpb (-1) (.inl ⟨rfl, hnone⟩)
    have HIX := Lib.hid hix
    have e : dlK p M n = M := by rw [dlK_none (by rw [HN.out]; omega) hnone, List.take_of_length_le (by rw [HN.out]; omega)]
    rw [e, HN.out]
    clear hix hnone hvs hpb e
    go_enter Try.func38, Try.ntmps38
    go_wp2_with fail
    refine Calls.mono HIX.out ?_
    rintro e w1 ⟨rfl, hb1⟩
    have HB := Lib.hid hb1
    clear hb1
    go_wp2
    go_ret
    exact ⟨rfl, HR.out.below HB.out, Upd.of_below HB.out⟩
  · have hix := indexV cap gF lb p eg hvs (by omega) hpb i0 (.inr ⟨i0, rfl, hi0, hhit, hbefore⟩)
    have HIX := Lib.hid hix
    have hd0 : dlK p M (i0 + 1) = M.take i0 := by rw [dlK_succ (by rw [HN.out]; omega), hhit, if_pos rfl, List.append_nil, dlK_none (by rw [HN.out]; omega) hbefore]
    have HD0 := Lib.hid hd0
    have hii : (i0 : Int) < (n : Int) := by omega
    have hne1 : ((i0 : Int) == -1) = false := by simp
    clear hix hvs hpb hhit hbefore hd0
    go_enter Try.func38, Try.ntmps38
    go_wp2_with fail
    refine Calls.mono HIX.out ?_
    rintro e w1 ⟨rfl, hb1⟩
    have HB := Lib.hid hb1
    clear hb1 HIX
    go_wp2
    go_loopw [5, 6] (fun s5 s6 wr => ∃ (kk j0 : Nat) (M2 : List V3), s5 = .int .i64 kk ∧ s6 = .int .i64 j0 ∧ j0 ≤ n ∧ kk < j0 ∧ M2.length = n ∧ (∀ i, j0 ≤ i → vAt M2 i = vAt M i) ∧ M2.take kk = dlK p M j0 ∧ RowO wr g M2 ∧ Upd [g] w wr) (fun _ s6 _ => n - (intOf s6).toNat)
    case atStart => exact ⟨i0, i0 + 1, M, rfl, by first | go_num | simp, by omega, by omega, HN.out, fun _ _ => rfl, HD0.out.symm, HR.out.below HB.out, Upd.of_below HB.out⟩
    case round =>
      clear HB HD0 w1
      obtain ⟨kk, j0, M2, rfl, rfl, hj0, hkj, hM2, hhi, htake, hrow, hupd⟩ := hrel
      have HHI := Lib.hid hhi
      have HTAKE := Lib.hid htake
      have HROW := Lib.hid hrow
      have HUPD := Lib.hid hupd
      have HM2 := Lib.hid hM2
      obtain ⟨cs2, og, hc2⟩ := hrow
      have HC2 := Lib.hid hc2
      clear hhi htake hupd hM2 hc2
      have hki : (kk : Int) < (n : Int) := by omega
      have ogc := og.cell
      have ogf := og.thaw
      have ogz := og.lt
      by_cases hlt : j0 < n
      · have hlt2 : (j0 : Int) < (n : Int) := by omega
        obtain ⟨a1, a2, a3⟩ := HC2.out j0 (by rw [HM2.out]; omega)
        rw [HHI.out _ (Nat.le_refl _)] at a1 a2 a3
        obtain ⟨⟨x, y, z⟩, hX⟩ : ∃ X, vAt M j0 = X := ⟨_, rfl⟩
        rw [hX] at a1 a2 a3
        simp only [] at a1 a2 a3
        have HX := Lib.hid hX
        obtain ⟨b, hb⟩ : ∃ b, p ⟨x, y, z⟩ = b := ⟨_, rfl⟩
        have hcall := HP.out (wr.alloc (.cells #[.int .i64 x, .int .i64 y, .int .i64 z] 31)) (HUPD.out.hop ((Below.refl _ _).alloc (Nat.le_refl _) _)) ⟨x, y, z⟩
        rw [hb] at hcall
        have HBB := Lib.hid hb
        have HCALL := Lib.hid hcall
        have ea1 := (ogc _).trans a1
        have ea2 := (ogc _).trans a2
        have ea3 := (ogc _).trans a3
        clear hX hb hcall
        go_wp2_with fail
        refine Calls.mono HCALL.out ?_
        rintro e w2 ⟨rfl, hb2⟩
        have hb2' : Below wr.heap.size wr w2 := Below.hop ((Below.refl _ _).alloc (Nat.le_refl _) _) hb2
        have o7 : Own w2 wr.heap.size #[.int .i64 x, .int .i64 y, .int .i64 z] := Own.below (Own.new rfl) hb2
        have HROW2 := Lib.hid (HROW.out.below hb2')
        have HUPD2 := Lib.hid (HUPD.out.hop hb2')
        have og2 := og.below hb2'
        have hgb : g < wr.heap.size := ogz
        clear HCALL HROW HUPD og ogc ogf ogz a1 a2 a3 ea1 ea2 ea3 hb2 hb2'
        generalize wr.heap.size = b7 at *
        have o7c := o7.cell
        have o7f := o7.thaw
        have o7z := o7.lt
        have ogc := og2.cell
        have ogf := og2.thaw
        have ogz := og2.lt
        cases b
        · obtain ⟨k1, k2, k3⟩ := HC2.out kk (by rw [HM2.out]; omega)
          have ek1 := (ogc _).trans k1
          have ek2 := (ogc _).trans k2
          have ek3 := (ogc _).trans k3
          clear og2 ogc k1 k2 k3
          go_wp2
          go_roundw
          case rel =>
            refine ⟨kk + 1, j0 + 1, M2.set kk ⟨x, y, z⟩, by first | go_num | simp, by first | go_num | simp, by omega, by omega, by rw [List.length_set]; exact HM2.out, fun i hi => ?_, ?_, HROW2.out.set (by rw [HM2.out]; omega) x y z, ((HUPD2.out.set (by simp) _).set (by simp) _).set (by simp) _⟩
            · rw [vAt_set (by rw [HM2.out]; omega), if_neg (by omega)]; exact HHI.out i (by omega)
            · have hl : kk < M2.length := by rw [HM2.out]; omega
              have e1 : (M2.set kk ⟨x, y, z⟩).take (kk + 1) = (M2.set kk ⟨x, y, z⟩).take kk ++ [(M2.set kk ⟨x, y, z⟩)[kk]'(by simpa using hl)] := List.take_succ_eq_append_getElem (by simpa using hl)
              rw [e1, List.take_set_of_le (Nat.le_refl _), List.getElem_set_self, HTAKE.out, dlK_succ (by rw [HN.out]; omega), HX.out, HBB.out]; rfl
          case measure => simp [intOf]; omega
        · clear og2 ogc ogf
          go_wp2
          go_roundw
          case rel => exact ⟨kk, j0 + 1, M2, by first | go_num | simp, by first | go_num | simp, by omega, by omega, HM2.out, fun i hi => HHI.out i (by omega), by rw [HTAKE.out, dlK_succ (by rw [HN.out]; omega), HX.out, HBB.out]; simp, HROW2.out, HUPD2.out⟩
          case measure => simp [intOf]; omega
      · obtain rfl : j0 = n := by omega
        have hkn : kk < j0 := by omega
        have hcl : ∀ ty, (Builtin.clear_ #[24] ty #[.slice (some ⟨g, kk * 3, none⟩) (j0 - kk) (cap - kk)]).run Try.prog wr = .ok (.tuple #[]) (wr.setCells g (kk * 3) (List.replicate ((j0 - kk) * 3) (.int .i64 0))) := fun ty => run_clear_vecs wr _ _ ty Try.underlying24 Try.zeroValue31 g (kk * 3) _ _ (by omega) (fun j hj => by
          obtain ⟨i, c, hc3, e⟩ : ∃ i c, c < 3 ∧ kk * 3 + j = i * 3 + c := ⟨(kk * 3 + j) / 3, (kk * 3 + j) % 3, by omega, by omega⟩
          rw [ogc, e]
          obtain ⟨h1, h2, h3⟩ := HC2.out i (by rw [HM2.out]; omega)
          rcases (show c = 0 ∨ c = 1 ∨ c = 2 by omega) with rfl | rfl | rfl
          · rw [Nat.add_zero, h1]; rfl
          · rw [h2]; rfl
          · rw [h3]; rfl) (fun j hj => ogf _)
        obtain ⟨cs3, ow3, hlo3, hup3⟩ := own_setCells (List.replicate ((j0 - kk) * 3) (.int .i64 0)) (kk * 3) og
        have HO3 := Lib.hid ow3
        have HL3 := Lib.hid hlo3
        have HU3 := Lib.hid hup3
        clear ow3 hlo3 hup3
        have hkc : (kk : Int) < (cap : Int) := by omega
        have hkk0 : (0 : Int) ≤ (kk : Int) := by omega
        clear og ogc ogf ogz
        have hlen : (dlK p M j0).length = kk := by rw [← HTAKE.out, List.length_take, HM2.out]; omega
        have HLEN := Lib.hid hlen
        clear hlen HROW
        go_wp2
        go_ret
        rw [HLEN.out]
        refine ⟨rfl, ⟨cs3, HO3.out, fun i hi => ?_⟩, HUPD.out.trans HU3.out⟩
        rw [HLEN.out] at hi
        rw [HL3.out _ (by omega), HL3.out _ (by omega), HL3.out _ (by omega), ← HTAKE.out, vAt_take hi]
        exact HC2.out i (by rw [HM2.out]; omega)
end Go.Proofs.Ytccnlnkgoaelpaa
