/- Package hull: Extreme returns the vertices. -/
import Derived.Test.YtccnlnkgoaelpaaHullX
namespace Go.Proofs.Ytccnlnkgoaelpaa
open Go.RowKit Go.Shelf

/-- A slice of vectors, in memory of the call's own. -/
def SlV (B : Nat) (w : World) (v : Value) (F : List V3) : Prop := ∃ A c, v = .slice A F.length c ∧ F.length ≤ c ∧ c ≤ 9223372036854775807 ∧ VecsAt w A F.length F ∧ ∀ b off, A = some ⟨b, off, none⟩ → B ≤ b
theorem SlV.nil (B : Nat) (w : World) : SlV B w (.slice none 0 0) [] := ⟨none, 0, rfl, by simp, by omega, ⟨rfl, by simp, fun h => by simp at h⟩, fun _ _ h => by cases h⟩
theorem check_ok {L : List V3} (h : hCheck L = 0) : L.length ≤ 48 ∧ L.all vIn = true ∧ 0 < L.length := by
  have h48 : L.length ≤ 48 := by
    unfold hCheck at h
    by_cases h1 : 48 < L.length
    · rw [if_pos h1] at h; simp at h
    · omega
  refine ⟨h48, ?_, ?_⟩
  · unfold hCheck at h
    rw [if_neg (by omega)] at h
    by_cases h1 : L.all vIn = true
    · exact h1
    · rw [if_neg h1] at h; simp at h
  · rcases Nat.eq_zero_or_pos L.length with h1 | h1
    · obtain rfl : L = [] := List.eq_nil_of_length_eq_zero h1
      exact absurd h (by decide)
    · exact h1
theorem putG_len {α : Type} {lt : α → α → Bool} [DecidableEq α] (x : α) : ∀ l : List α, (putG lt l x).length ≤ l.length + 1
  | [] => by simp [putG]
  | y :: l => by
    have := putG_len (lt := lt) x l
    unfold putG
    split
    · simp; omega
    · split <;> simp
theorem putF_len {L : List V3} {p : Pl} {o : List Pl} : (putF L p o).length ≤ o.length + 1 := by
  unfold putF
  split
  · exact putG_len _ _
  · omega
theorem stepR_len {L : List V3} {i j k : Nat} {o : List Pl} : (stepR L i j k o).length ≤ o.length + 2 := by
  unfold stepR
  split
  · exact Nat.le_trans putF_len (Nat.add_le_add_right putF_len 1)
  · omega
theorem facK_len (L : List V3) (i j : Nat) (o : List Pl) : ∀ k, (facK L i j o k).length ≤ o.length + 2 * k
  | 0 => by simp [facK]
  | k + 1 => by
    have := facK_len L i j o k
    have := stepR_len (L := L) (i := i) (j := j) (k := k) (o := facK L i j o k)
    simp only [facK]; omega
theorem facJ_len (L : List V3) (i : Nat) (o : List Pl) : ∀ j, j ≤ 48 → (facJ L i o j).length ≤ o.length + 96 * j
  | 0, _ => by simp [facJ]
  | j + 1, h => by
    have := facJ_len L i o j (by omega)
    have := facK_len L i j (facJ L i o j) j
    simp only [facJ]; omega
theorem facI_len (L : List V3) : ∀ i, i ≤ 48 → (facI L i).length ≤ 4608 * i
  | 0, _ => by simp [facI]
  | i + 1, h => by
    have := facI_len L i (by omega)
    have := facJ_len L i (facI L i) i (by omega)
    simp only [facI]; omega
theorem facets_len {L : List V3} (h : L.length ≤ 48) : (facets L).length ≤ 230000 := by
  have := facI_len L L.length h
  unfold facets; omega
set_option maxRecDepth 100000 in
set_option maxHeartbeats 1000000 in
theorem hull_Extreme {w : World} {A : Option Addr} {n : Nat} {L : List V3} (c : Nat) (hv : VecsAt w A n L) (hnc : n ≤ c) (hc : c ≤ 9223372036854775807) :
    Calls Try.prog 14 #[.slice A n c] w fun e w' => ∃ v, e = .returned (.tuple #[v, .int .i64 (hCheck L)]) ∧ SlV w.heap.size w' v (hExtreme L) ∧ Below w.heap.size w w' := by
  have hF := hull_Faces c hv hnc hc
  have HF := Lib.hid hF
  have HV := Lib.hid hv
  have hl := hv.len
  clear hF hv
  go_enter Try.func14, Try.ntmps14
  go_wp2_with fail
  refine Calls.mono HF.out ?_
  rintro e w1 ⟨v, rfl, ⟨A1, c1, rfl, hc1, hc2, hpl, hfresh⟩, hb1⟩
  have hv1 := HV.out.below hb1
  have hw := hb1
  clear HF hb1
  by_cases h0 : hCheck L = 0
  · obtain ⟨h48, hin, hpos⟩ := check_ok h0
    have hFF : hFaces L = facets L := if_pos h0
    rw [hFF] at hpl hc1 ⊢
    rw [h0]
    have hE : hExtreme L = (distinctL L).filter (cornerB (facets L)) := if_pos h0
    have hflen := facets_len h48
    have hcl : ∀ i, i < (facets L).length → cl (pAt (facets L) i) = pAt (facets L) i := fun i hi => facets_cl (pAt_mem hi)
    have hdl := distinctL_len L
    have eg : ∀ args w, (callFunc 36 args).run Try.prog w = .ok (.enter 36 args) w := enters_of Try.func36 (by kernel_rfl) rfl
    have hal := (Below.refl w1.heap.size w1).alloc (Nat.le_refl _) (.cells #[.slice A1 (facets L).length c1] 26)
    have oB : Own (w1.alloc (.cells #[.slice A1 (facets L).length c1] 26)) w1.heap.size #[.slice A1 (facets L).length c1] := Own.new rfl
    have hD := hull_distinct c (hv1.below hal) (by omega) (by omega)
    have hpl2 := hpl.below hal
    have hw2 := hw.alloc hw.size (.cells #[.slice A1 (facets L).length c1] 26)
    have HD := Lib.hid hD
    have HPL := Lib.hid hpl2
    have HOB := Lib.hid oB
    have HW := Lib.hid hw2
    have HE := Lib.hid hE
    have HCL := Lib.hid hcl
    have EG := Lib.hid eg
    have hws := hw.size
    clear hD hpl hpl2 oB hw2 hw hE hcl eg hv1 hfresh HV hFF hal
    go_wp2_with fail
    refine Calls.mono HD.out ?_
    rintro e w2 ⟨g, cap, rfl, hg, hcap1, hcap2, hrow, hb2⟩
    simp only [World.size_alloc] at hg
    obtain ⟨x0, x1, hx⟩ : ∃ v r, distinctL L = v :: r := by
      have hp : 0 < (distinctL L).length := by
        obtain ⟨v, r, e⟩ : ∃ v r, L = v :: r := by
          cases L with
          | nil => simp at hpos
          | cons v r => exact ⟨v, r, rfl⟩
        exact List.length_pos_of_mem ((mem_distinct (v := v) L).2 (by rw [e]; simp))
      cases hd : distinctL L with
      | nil => rw [hd] at hp; simp at hp
      | cons v r => exact ⟨v, r, rfl⟩
    have hdel := deleteV cap 36 #[.pointer (some ⟨w1.heap.size, 0, none⟩)] (fun v => !cornerB (facets L) v) EG.out hrow hcap1 hcap2 (by rw [hx]; simp) (by omega) (fun W hup v => by
      have hbW : Below (w1.alloc (.cells #[.slice A1 (facets L).length c1] 26)).heap.size (w1.alloc (.cells #[.slice A1 (facets L).length c1] 26)) W := Upd.below hb2 hup (fun b hb => by simp at hb; simp; omega)
      exact hull_Extreme1 c1 w1.heap.size v.x v.y v.z (HOB.out.below hbW) (HPL.out.below hbW) HCL.out (by omega) hc1 hc2)
    have e2 : ((distinctL L).filter fun v => !(!cornerB (facets L) v)) = hExtreme L := by rw [HE.out]; simp
    rw [e2] at hdel
    have HDEL := Lib.hid hdel
    have hB2 : Below w.heap.size w w2 := Below.hop HW.out hb2
    have HB2 := Lib.hid hB2
    have hel : (hExtreme L).length ≤ (distinctL L).length := by rw [HE.out]; exact List.length_filter_le _ _
    clear hdel e2 hrow hb2 hB2 hx HD HW HPL HOB
    go_wp2_with fail
    refine Calls.mono HDEL.out ?_
    rintro e w3 ⟨rfl, hrow3, hup3⟩
    have hB3 : Below w.heap.size w w3 := Upd.below HB2.out hup3 (fun b hb => by simp at hb; omega)
    have HB3 := Lib.hid hB3
    have HROW3 := Lib.hid hrow3
    clear hB3 hup3 hrow3 HDEL
    go_wp2
    go_ret2
    refine ⟨.slice (some ⟨g, 0, none⟩) (hExtreme L).length cap, by rw [h0]; rfl, ⟨some ⟨g, 0, none⟩, cap, rfl, by omega, hcap2, ?_, fun b off e => by cases e; omega⟩, HB3.out⟩
    have q := HROW3.out.vecs (Nat.le_refl _) (by omega)
    rw [List.take_length] at q
    exact q
  · have hE : hExtreme L = [] := if_neg h0
    have h0d : (hCheck L == 0) = false := by simp [h0]
    have hwa := hw.alloc hw.size (.cells #[.slice A1 (hFaces L).length c1] 26)
    have HE := Lib.hid hE
    have HW := Lib.hid hwa
    clear hpl hv1 hE hw hwa hfresh HV
    go_wp2
    go_ret2
    refine ⟨_, rfl, ?_, HW.out⟩
    rw [HE.out]
    exact SlV.nil _ _
end Go.Proofs.Ytccnlnkgoaelpaa
