/- Package hull: the predicates of vertex and of Has, and Has. -/
import Derived.Test.YtccnlnkgoaelpaaHullJ
namespace Go.Proofs.Ytccnlnkgoaelpaa
open Go.RowKit Go.Shelf

set_option maxRecDepth 100000 in
theorem pred_vertex_at (c : V3) (Bc : Nat) (p : Pl) (w : World) (hB : Own w Bc #[.int .i64 c.x, .int .i64 c.y, .int .i64 c.z]) :
    Calls Try.prog 57 #[p.v, .pointer (some ⟨Bc, 0, none⟩)] w fun e w' => e = .returned (.bool (!(vDot c p.n == 0))) ∧ Below w.heap.size w w' := by
  obtain ⟨x, y, z⟩ := c
  obtain ⟨⟨p0, p1, p2⟩, p3⟩ := p
  simp only [] at hB
  obtain ⟨s, hs⟩ : ∃ s, vDot ⟨x, y, z⟩ ⟨p0, p1, p2⟩ = s := ⟨_, rfl⟩
  have HS := Lib.hid (congrArg (Value.int IntKind.i64) hs)
  rw [hs]
  clear hs
  have hBz := hB.lt
  have hB1 := hB.alloc (.cells #[.int .i64 p0, .int .i64 p1, .int .i64 p2, .int .i64 p3] 33)
  have hBc := hB1.cell
  have hBf := hB1.thaw
  go_enter Try.func57, Try.ntmps57
  go_wp2_with fail
  refine Calls.mono (callv (plane_Dot x y z p0 p1 p2 _) HS.out) ?_
  rintro e w1 ⟨rfl, hb1⟩
  have hw : Below w.heap.size w w1 := Below.hop ((Below.refl _ _).alloc (Nat.le_refl _) _) hb1
  clear hb1 hBc hBf hB1
  go_wp2
  go_ret
  exact ⟨rfl, hw⟩
theorem pred_vertex (c : V3) (Bc : Nat) (w : World) (hB : Own w Bc #[.int .i64 c.x, .int .i64 c.y, .int .i64 c.z]) :
    PredBelow Try.prog 57 #[.pointer (some ⟨Bc, 0, none⟩)] Pl.v (fun p => !(vDot c p.n == 0)) w := fun W x hb => (pred_vertex_at c Bc x W (hB.below hb)).mono fun _ _ ⟨he, h⟩ => ⟨he, Below.hop hb h⟩

set_option maxRecDepth 100000 in
theorem pred_has_at (v : V3) (Bv : Nat) (p : Pl) (w : World) (hB : Own w Bv #[.int .i64 v.x, .int .i64 v.y, .int .i64 v.z]) :
    Calls Try.prog 43 #[(cl p).v, .pointer (some ⟨Bv, 0, none⟩)] w fun e w' => e = .returned (.bool (decide (0 < pSide (cl p) v))) ∧ Below w.heap.size w w' := by
  obtain ⟨hx, hy, hz, _⟩ := cl_i64 p
  generalize cl p = p at *
  obtain ⟨x, y, z⟩ := v
  obtain ⟨⟨p0, p1, p2⟩, p3⟩ := p
  simp only [] at hx hy hz hB
  obtain ⟨s, hs⟩ : ∃ s, pSide ⟨⟨p0, p1, p2⟩, p3⟩ ⟨x, y, z⟩ = s := ⟨_, rfl⟩
  have HS := Lib.hid (congrArg (Value.int IntKind.i64) hs)
  rw [hs]
  clear hs
  have hBz := hB.lt
  have hB1 := hB.alloc (.cells #[.int .i64 p0, .int .i64 p1, .int .i64 p2, .int .i64 p3] 33)
  have hBc := hB1.cell
  have hBf := hB1.thaw
  go_enter Try.func43, Try.ntmps43
  go_wp2_with fail
  refine Calls.mono (callv (plane_Side p0 p1 p2 p3 x y z hx hy hz _) HS.out) ?_
  rintro e w1 ⟨rfl, hb1⟩
  have hw : Below w.heap.size w w1 := Below.hop ((Below.refl _ _).alloc (Nat.le_refl _) _) hb1
  clear hb1 hBc hBf hB1
  go_wp2
  go_ret
  exact ⟨rfl, hw⟩
theorem pred_has (v : V3) (Bv : Nat) (w : World) (hB : Own w Bv #[.int .i64 v.x, .int .i64 v.y, .int .i64 v.z]) :
    PredBelow Try.prog 43 #[.pointer (some ⟨Bv, 0, none⟩)] (fun p => (cl p).v) (fun p => decide (0 < pSide (cl p) v)) w := fun W x hb => (pred_has_at v Bv x W (hB.below hb)).mono fun _ _ ⟨he, h⟩ => ⟨he, Below.hop hb h⟩

theorem contPc {w : World} {A : Option Addr} {n : Nat} {L : List Pl} (c g : Nat) (lb : Array Value) (p : Pl → Bool) (eg : ∀ args w, (callFunc g args).run Try.prog w = .ok (.enter g args) w) (hv : PlsAt w A n L) (hcl : ∀ i, i < L.length → cl (pAt L i) = pAt L i)
    (hp : PredBelow Try.prog g lb (fun q => (cl q).v) p w) :
    Calls Try.prog 42 #[.slice A n c, .func (.func g) #[] lb] w fun e w' => e = .returned (.bool (L.any p)) ∧ Below w.heap.size w w' := by
  rcases Nat.eq_zero_or_pos n with h0 | h0
  · subst h0
    obtain rfl : L = [] := List.eq_nil_of_length_eq_zero hv.len
    exact contP0 A c g lb w
  · obtain ⟨b, off, rfl, hb, hc⟩ := hv.row h0
    have hl := hv.len
    have hcon := AnyQ.slices_ContainsFunc Try.containsP 4 Try.isAgg33 Try.sizeOf33 (fun q => encP (cl q)) (fun _ => rfl) p g lb eg b off n c L w hp (by omega) hv.max hb (fun j hj i v hi => by
      have h1 := hc j (by omega)
      rw [getP L hj, hcl j hj] at hi
      generalize pAt L j = y at hi h1
      match i, hi with
      | 0, hi => simp [encP] at hi; rw [← hi]; exact h1.1
      | 1, hi => simp [encP] at hi; rw [← hi]; exact h1.2.1
      | 2, hi => simp [encP] at hi; rw [← hi]; exact h1.2.2.1
      | 3, hi => simp [encP] at hi; rw [← hi]; exact h1.2.2.2
      | i + 4, hi => simp [encP] at hi)
    rw [List.take_of_length_le (by omega)] at hcon
    exact hcon
theorem facets_cl {L : List V3} {p : Pl} : p ∈ facets L → cl p = p := fun h => by
  obtain ⟨i, j, k, _, _, _, hb, _⟩ := (mem_facI _).1 h
  exact cl_id (both_i64 hb)
theorem any_out (F : List Pl) (v : V3) (h : ∀ p ∈ F, cl p = p) : (F.any fun p => decide (0 < pSide (cl p) v)) = !(F.all fun p => decide (pSide p v ≤ 0)) := by
  rw [List.not_all_eq_any_not]
  apply Bool.eq_iff_iff.2
  simp only [List.any_eq_true]
  constructor
  · rintro ⟨p, hp, e⟩
    rw [h p hp] at e
    exact ⟨p, hp, by simpa using e⟩
  · rintro ⟨p, hp, e⟩
    exact ⟨p, hp, by rw [h p hp]; simpa using e⟩
set_option maxRecDepth 100000 in
set_option maxHeartbeats 1000000 in
theorem hull_Has {w : World} {A : Option Addr} {n : Nat} {L : List V3} (c : Nat) (x y z : Int) (hv : VecsAt w A n L) (hnc : n ≤ c) (hc : c ≤ 9223372036854775807) :
    Calls Try.prog 19 #[.slice A n c, vV x y z] w fun e w' => e = .returned (.bool (hHas L ⟨x, y, z⟩)) ∧ Below w.heap.size w w' := by
  have hB0 : Own (w.alloc (.cells #[.int .i64 x, .int .i64 y, .int .i64 z] 31)) w.heap.size #[.int .i64 x, .int .i64 y, .int .i64 z] := Own.new rfl
  have hw0 := (Below.refl w.heap.size w).alloc (Nat.le_refl _) (.cells #[.int .i64 x, .int .i64 y, .int .i64 z] 31)
  have hF := hull_Faces c (hv.below hw0) hnc hc
  have HF := Lib.hid hF
  have HB0 := Lib.hid hB0
  clear hF hv hB0
  obtain ⟨r, hr⟩ : ∃ r, hHas L ⟨x, y, z⟩ = r := ⟨_, rfl⟩
  have HR := Lib.hid hr
  rw [hr]
  clear hr
  go_enter Try.func19, Try.ntmps19
  go_wp2_with fail
  refine Calls.mono HF.out ?_
  rintro e w1 ⟨v, rfl, ⟨A1, c1, rfl, hc1, hc2, hpl, hfresh⟩, hb1⟩
  have hB1 := HB0.out.below hb1
  have hw := Below.hop hw0 hb1
  clear HF hb1
  have hlen := hpl.len
  have HPL := Lib.hid hpl
  clear hpl hfresh
  by_cases h0 : hCheck L = 0
  · have hFF : hFaces L = facets L := if_pos h0
    have hh : hHas L ⟨x, y, z⟩ = (vIn ⟨x, y, z⟩ && (facets L).all fun p => decide (pSide p ⟨x, y, z⟩ ≤ 0)) := by unfold hHas; rw [h0]; simp
    rw [HR.out] at hh
    have HE := Lib.hid hh
    clear HR hh
    have eg : ∀ args w, (callFunc 43 args).run Try.prog w = .ok (.enter 43 args) w := enters_of Try.func43 (by kernel_rfl) rfl
    have hcl : ∀ p ∈ facets L, cl p = p := fun p hp => facets_cl hp
    have hcl2 : ∀ i, i < (hFaces L).length → cl (pAt (hFaces L) i) = pAt (hFaces L) i := fun i hi => hcl _ (by have := pAt_mem hi; rw [hFF] at this ⊢; exact this)
    have hcon := fun W (hb : Below w1.heap.size w1 W) => contPc c1 43 #[.pointer (some ⟨w.heap.size, 0, none⟩)] _ eg (HPL.out.below hb) hcl2 (pred_has ⟨x, y, z⟩ w.heap.size W (hB1.below hb))
    rw [hFF, any_out _ _ hcl] at hcon
    obtain ⟨r2, hr2⟩ : ∃ r2, ((facets L).all fun p => decide (pSide p ⟨x, y, z⟩ ≤ 0)) = r2 := ⟨_, rfl⟩
    rw [hr2] at hcon HE
    rw [hFF] at HPL hc1 ⊢
    have HCON := Lib.hid hcon
    have hBc := hB1.cell
    have hBf := hB1.thaw
    have hBz := hB1.lt
    rw [h0]
    obtain ⟨bi, hbi⟩ : ∃ b, vIn ⟨x, y, z⟩ = b := ⟨_, rfl⟩
    have HI : ∀ W, Calls Try.prog 35 #[vV x y z] W fun r w' => r = .returned (.bool bi) ∧ Below W.heap.size W w' := fun W => by rw [← hbi]; exact plane_In x y z W
    rw [hbi] at HE
    clear hcon hFF hlen hcl2 hcl h0 eg hr2 hbi
    cases bi
    · have hz : r = false := HE.out
      subst hz
      clear HE HCON HPL HB0 hB1
      go_wp2_with fail
      refine Calls.mono (HI w1) ?_
      rintro e w2 ⟨rfl, hb2⟩
      have hw2 := Below.hop hw hb2
      clear hb2 HI hBc hBf
      go_wp2
      go_ret
      exact ⟨rfl, hw2⟩
    · have hz : r = r2 := HE.out
      subst hz
      clear HE HPL HB0 hB1
      go_wp2_with fail
      refine Calls.mono (HI w1) ?_
      rintro e w2 ⟨rfl, hb2⟩
      have hw2 := Below.hop hw hb2
      have hcon := HCON.out w2 hb2
      clear hb2 HI HCON hBc hBf
      go_wp2_with fail
      refine hcon.mono ?_
      rintro e w3 ⟨rfl, hb3⟩
      have hw3 := Below.hop hw2 hb3
      clear hb3
      go_wp2
      go_ret
      exact ⟨by simp, hw3⟩
  · have hh : r = false := HR.out.symm.trans (by unfold hHas; simp [h0])
    subst hh
    clear HR HPL hB1 HB0
    go_wp2
    go_ret
    exact ⟨rfl, hw⟩
end Go.Proofs.Ytccnlnkgoaelpaa
