/- The plain laws of package hull: the planes through three points in each order, flat lists, facets and vertices as ordered lists. No program in sight. -/
import Derived.Test.YtccnlnkgoaelpaaHullS
namespace Go.Proofs.Ytccnlnkgoaelpaa
open Go.RowKit

theorem vAt_mem {L : List V3} {i : Nat} (h : i < L.length) : vAt L i ∈ L := by
  unfold vAt; rw [List.getD_eq_getElem?_getD, List.getElem?_eq_getElem h]; exact List.getElem_mem h
theorem mem_vAt {L : List V3} {v : V3} (h : v ∈ L) : ∃ i, i < L.length ∧ vAt L i = v := by
  obtain ⟨i, hi, e⟩ := List.mem_iff_getElem.1 h
  exact ⟨i, hi, by unfold vAt; rw [List.getD_eq_getElem?_getD, List.getElem?_eq_getElem hi]; exact e⟩
theorem vIn_all {L : List V3} (h : L.all vIn = true) {v : V3} (hv : v ∈ L) : Bd 24 v := Bd.of_vIn (List.all_eq_true.1 h v hv)

theorem vsub_self (a : V3) : vSub a a = ⟨0, 0, 0⟩ := by simp [vSub, wr_zero]
theorem vcross_zl (a : V3) : vCross ⟨0, 0, 0⟩ a = ⟨0, 0, 0⟩ := by simp [vCross, wr_zero]
theorem vcross_zr (a : V3) : vCross a ⟨0, 0, 0⟩ = ⟨0, 0, 0⟩ := by simp [vCross, wr_zero]
theorem vcross_self (a : V3) : vCross a a = ⟨0, 0, 0⟩ := by
  unfold vCross
  rw [Int.mul_comm a.z a.y, Int.mul_comm a.z a.x, Int.mul_comm a.y a.x]
  simp [wr_zero]
theorem ok_cross {a b c : V3} (h : vCross (vSub b a) (vSub c a) = ⟨0, 0, 0⟩) : okThrough a b c = false := by
  unfold okThrough; rw [h, gcd_zero]; simp
theorem ok_ne {a b c : V3} (h : okThrough a b c = true) : a ≠ b ∧ a ≠ c ∧ b ≠ c := by
  refine ⟨fun e => ?_, fun e => ?_, fun e => ?_⟩ <;> subst e
  · rw [ok_cross (by rw [vsub_self, vcross_zl])] at h; cases h
  · rw [ok_cross (by rw [vsub_self, vcross_zr])] at h; cases h
  · rw [ok_cross (vcross_self _)] at h; cases h

theorem both_perm {A B C : V3} (hA : Bd 24 A) (hB : Bd 24 B) (hC : Bd 24 C) (p : Pl) : (p ∈ both A B C ↔ p ∈ both B C A) ∧ (p ∈ both A B C ↔ p ∈ both A C B) := by
  by_cases h : (vCross (vSub B A) (vSub C A)).x = 0 ∧ (vCross (vSub B A) (vSub C A)).y = 0 ∧ (vCross (vSub B A) (vSub C A)).z = 0
  · have f := flatLaw (A := A) (B := B) (C := C) (V3.ext h.1 h.2.1 h.2.2)
    unfold both; rw [f.o1, f.o2, f.o3]; simp
  · obtain ⟨N, b, s⟩ := sidesLaw hA hB hC h
    unfold both; rw [s.o1, s.o2, s.o3, s.t1, s.t2, s.t3, s.ff]
    simp only [if_true, List.mem_cons, List.not_mem_nil, or_false]
    exact ⟨trivial, or_comm⟩
theorem both_cyc {A B C : V3} (hA : Bd 24 A) (hB : Bd 24 B) (hC : Bd 24 C) {p : Pl} : p ∈ both A B C ↔ p ∈ both B C A := (both_perm hA hB hC p).1
theorem both_swap {A B C : V3} (hA : Bd 24 A) (hB : Bd 24 B) (hC : Bd 24 C) {p : Pl} : p ∈ both A B C ↔ p ∈ both A C B := (both_perm hA hB hC p).2
theorem both_rev {A B C : V3} (hA : Bd 24 A) (hB : Bd 24 B) (hC : Bd 24 C) {p : Pl} : p ∈ both A B C ↔ p ∈ both C B A :=
  (both_cyc hA hB hC).trans ((both_cyc hB hC hA).trans (both_swap hC hA hB))
theorem both_ok {A B C : V3} {p : Pl} (h : p ∈ both A B C) : okThrough A B C = true ∧ (p = pThrough A B C ∨ p = pFlip (pThrough A B C)) := by
  unfold both at h
  split at h
  · rename_i ho
    exact ⟨ho, by simpa using h⟩
  · simp at h

/-- A plane through three points of a list. -/
def IsThr (L : List V3) (p : Pl) : Prop := ∃ A B C, A ∈ L ∧ B ∈ L ∧ C ∈ L ∧ p ∈ both A B C
/-- .. by increasing numbers. -/
def ThrAt (L : List V3) (p : Pl) : Prop := ∃ i j k, i < L.length ∧ j < i ∧ k < j ∧ p ∈ both (vAt L k) (vAt L j) (vAt L i)
theorem thr_iff {L : List V3} (hL : L.all vIn = true) (p : Pl) : ThrAt L p ↔ IsThr L p := by
  constructor
  · rintro ⟨i, j, k, hi, hj, hk, h⟩
    exact ⟨_, _, _, vAt_mem (by omega), vAt_mem (by omega), vAt_mem hi, h⟩
  · rintro ⟨A, B, C, hA, hB, hC, h⟩
    have bA := vIn_all hL hA
    have bB := vIn_all hL hB
    have bC := vIn_all hL hC
    obtain ⟨a, ha, eA⟩ := mem_vAt hA
    obtain ⟨b, hb, eB⟩ := mem_vAt hB
    obtain ⟨c, hc, eC⟩ := mem_vAt hC
    have hne := ok_ne (both_ok h).1
    have h1 : a ≠ b := fun e => hne.1 (by rw [← eA, ← eB, e])
    have h2 : a ≠ c := fun e => hne.2.1 (by rw [← eA, ← eC, e])
    have h3 : b ≠ c := fun e => hne.2.2 (by rw [← eB, ← eC, e])
    subst eA; subst eB; subst eC
    rcases Nat.lt_or_gt_of_ne h1 with q1 | q1 <;> rcases Nat.lt_or_gt_of_ne h2 with q2 | q2 <;> rcases Nat.lt_or_gt_of_ne h3 with q3 | q3
    · exact ⟨c, b, a, hc, q3, q1, h⟩
    · exact ⟨b, c, a, hb, q3, q2, (both_swap bA bB bC).1 h⟩
    · omega
    · exact ⟨b, a, c, hb, q1, q2, (both_cyc bB bC bA).1 ((both_cyc bA bB bC).1 h)⟩
    · exact ⟨c, a, b, hc, q2, q1, (both_rev bC bA bB).1 ((both_cyc bB bC bA).1 ((both_cyc bA bB bC).1 h))⟩
    · omega
    · exact ⟨a, c, b, ha, q2, q3, (both_cyc bA bB bC).1 h⟩
    · exact ⟨a, b, c, ha, q1, q3, (both_rev bA bB bC).1 h⟩

theorem mem_triK {L : List V3} {i j : Nat} {p : Pl} : ∀ n, p ∈ triK L i j n ↔ ∃ k, k < n ∧ p ∈ both (vAt L k) (vAt L j) (vAt L i)
  | 0 => by simp [triK]
  | n + 1 => by
    unfold triK
    rw [List.mem_append, mem_triK n]
    constructor
    · rintro (⟨k, hk, h⟩ | h)
      · exact ⟨k, by omega, h⟩
      · exact ⟨n, by omega, h⟩
    · rintro ⟨k, hk, h⟩
      by_cases e : k = n
      · subst e; exact .inr h
      · exact .inl ⟨k, by omega, h⟩
theorem mem_triJ {L : List V3} {i : Nat} {p : Pl} : ∀ n, p ∈ triJ L i n ↔ ∃ j k, j < n ∧ k < j ∧ p ∈ both (vAt L k) (vAt L j) (vAt L i)
  | 0 => by simp [triJ]
  | n + 1 => by
    unfold triJ
    rw [List.mem_append, mem_triJ n, mem_triK]
    constructor
    · rintro (⟨j, k, hj, hk, h⟩ | ⟨k, hk, h⟩)
      · exact ⟨j, k, by omega, hk, h⟩
      · exact ⟨n, k, by omega, hk, h⟩
    · rintro ⟨j, k, hj, hk, h⟩
      by_cases e : j = n
      · subst e; exact .inr ⟨k, hk, h⟩
      · exact .inl ⟨j, k, by omega, hk, h⟩
theorem mem_triI {L : List V3} {p : Pl} : ∀ n, p ∈ triI L n ↔ ∃ i j k, i < n ∧ j < i ∧ k < j ∧ p ∈ both (vAt L k) (vAt L j) (vAt L i)
  | 0 => by simp [triI]
  | n + 1 => by
    unfold triI
    rw [List.mem_append, mem_triI n, mem_triJ]
    constructor
    · rintro (⟨i, j, k, hi, hj, hk, h⟩ | ⟨j, k, hj, hk, h⟩)
      · exact ⟨i, j, k, by omega, hj, hk, h⟩
      · exact ⟨n, j, k, by omega, hj, hk, h⟩
    · rintro ⟨i, j, k, hi, hj, hk, h⟩
      by_cases e : i = n
      · subst e; exact .inr ⟨j, k, hj, hk, h⟩
      · exact .inl ⟨i, j, k, by omega, hj, hk, h⟩
theorem mem_triL {L : List V3} {p : Pl} : p ∈ triL L ↔ ThrAt L p := mem_triI _

/-- The facets: what the reference puts in. -/
theorem mem_putF {L : List V3} {p z : Pl} {o : List Pl} : z ∈ putF L p o ↔ (z = p ∧ insideB L p = true) ∨ z ∈ o := by
  unfold putF; split
  · rename_i h; rw [mem_putG]; simp [h]
  · rename_i h; simp [h]
theorem sorted_putF {L : List V3} {p : Pl} {o : List Pl} (h : SortedL pLt o) : SortedL pLt (putF L p o) := by
  unfold putF; split
  · exact sorted_putG pLt_strict p h
  · exact h
theorem mem_stepR {L : List V3} {i j k : Nat} {z : Pl} {o : List Pl} : z ∈ stepR L i j k o ↔ (z ∈ both (vAt L i) (vAt L j) (vAt L k) ∧ insideB L z = true) ∨ z ∈ o := by
  unfold stepR both; split
  · rename_i h
    rw [mem_putF, mem_putF]
    simp only [List.mem_cons, List.not_mem_nil, or_false]
    constructor
    · rintro (⟨rfl, h⟩ | ⟨rfl, h⟩ | h)
      · exact .inl ⟨.inr rfl, h⟩
      · exact .inl ⟨.inl rfl, h⟩
      · exact .inr h
    · rintro (⟨rfl | rfl, h⟩ | h)
      · exact .inr (.inl ⟨rfl, h⟩)
      · exact .inl ⟨rfl, h⟩
      · exact .inr (.inr h)
  · simp
theorem sorted_stepR {L : List V3} {i j k : Nat} {o : List Pl} (h : SortedL pLt o) : SortedL pLt (stepR L i j k o) := by
  unfold stepR; split
  · exact sorted_putF (sorted_putF h)
  · exact h
theorem mem_facK {L : List V3} {i j : Nat} {z : Pl} {o : List Pl} : ∀ n, z ∈ facK L i j o n ↔ (∃ k, k < n ∧ z ∈ both (vAt L i) (vAt L j) (vAt L k) ∧ insideB L z = true) ∨ z ∈ o
  | 0 => by simp [facK]
  | n + 1 => by
    unfold facK
    rw [mem_stepR, mem_facK n]
    constructor
    · rintro (h | ⟨k, hk, h⟩ | h)
      · exact .inl ⟨n, by omega, h⟩
      · exact .inl ⟨k, by omega, h⟩
      · exact .inr h
    · rintro (⟨k, hk, h⟩ | h)
      · by_cases e : k = n
        · subst e; exact .inl h
        · exact .inr (.inl ⟨k, by omega, h⟩)
      · exact .inr (.inr h)
theorem mem_facJ {L : List V3} {i : Nat} {z : Pl} {o : List Pl} : ∀ n, z ∈ facJ L i o n ↔ (∃ j k, j < n ∧ k < j ∧ z ∈ both (vAt L i) (vAt L j) (vAt L k) ∧ insideB L z = true) ∨ z ∈ o
  | 0 => by simp [facJ]
  | n + 1 => by
    unfold facJ
    rw [mem_facK, mem_facJ n]
    constructor
    · rintro (⟨k, hk, h⟩ | ⟨j, k, hj, hk, h⟩ | h)
      · exact .inl ⟨n, k, by omega, hk, h⟩
      · exact .inl ⟨j, k, by omega, hk, h⟩
      · exact .inr h
    · rintro (⟨j, k, hj, hk, h⟩ | h)
      · by_cases e : j = n
        · subst e; exact .inl ⟨k, hk, h⟩
        · exact .inr (.inl ⟨j, k, by omega, hk, h⟩)
      · exact .inr (.inr h)
theorem mem_facI {L : List V3} {z : Pl} : ∀ n, z ∈ facI L n ↔ ∃ i j k, i < n ∧ j < i ∧ k < j ∧ z ∈ both (vAt L i) (vAt L j) (vAt L k) ∧ insideB L z = true
  | 0 => by simp [facI]
  | n + 1 => by
    unfold facI
    rw [mem_facJ, mem_facI n]
    constructor
    · rintro (⟨j, k, hj, hk, h⟩ | ⟨i, j, k, hi, hj, hk, h⟩)
      · exact ⟨n, j, k, by omega, hj, hk, h⟩
      · exact ⟨i, j, k, by omega, hj, hk, h⟩
    · rintro ⟨i, j, k, hi, hj, hk, h⟩
      by_cases e : i = n
      · subst e; exact .inl ⟨j, k, hj, hk, h⟩
      · exact .inr ⟨i, j, k, by omega, hj, hk, h⟩
theorem sorted_facK {L : List V3} {i j : Nat} {o : List Pl} (h : SortedL pLt o) : ∀ n, SortedL pLt (facK L i j o n)
  | 0 => h
  | n + 1 => sorted_stepR (sorted_facK h n)
theorem sorted_facJ {L : List V3} {i : Nat} {o : List Pl} (h : SortedL pLt o) : ∀ n, SortedL pLt (facJ L i o n)
  | 0 => h
  | n + 1 => sorted_facK (sorted_facJ h n) n
theorem sorted_facI {L : List V3} : ∀ n, SortedL pLt (facI L n)
  | 0 => by simp [facI, SortedL]
  | n + 1 => sorted_facJ (sorted_facI n) n
theorem sorted_facets (L : List V3) : SortedL pLt (facets L) := sorted_facI _
theorem mem_facets {L : List V3} (hL : L.all vIn = true) (p : Pl) : p ∈ facets L ↔ IsThr L p ∧ insideB L p = true := by
  rw [← thr_iff hL]
  unfold facets
  rw [mem_facI]
  constructor
  · rintro ⟨i, j, k, hi, hj, hk, h, hb⟩
    exact ⟨⟨i, j, k, hi, hj, hk, (both_rev (vIn_all hL (vAt_mem hi)) (vIn_all hL (vAt_mem (by omega))) (vIn_all hL (vAt_mem (by omega)))).1 h⟩, hb⟩
  · rintro ⟨⟨i, j, k, hi, hj, hk, h⟩, hb⟩
    exact ⟨i, j, k, hi, hj, hk, (both_rev (vIn_all hL (vAt_mem (by omega))) (vIn_all hL (vAt_mem (by omega))) (vIn_all hL (vAt_mem hi))).1 h, hb⟩

theorem mem_distinct {v : V3} : ∀ L : List V3, v ∈ distinctL L ↔ v ∈ L
  | [] => by simp [distinctL]
  | x :: L => by unfold distinctL; rw [mem_putG, mem_distinct L, List.mem_cons]
theorem sorted_distinct : ∀ L : List V3, SortedL vLt (distinctL L)
  | [] => by simp [distinctL, SortedL]
  | x :: L => sorted_putG vLt_strict x (sorted_distinct L)
theorem all_distinct (L : List V3) (f : V3 → Bool) : (distinctL L).all f = L.all f := by
  rw [Bool.eq_iff_iff, List.all_eq_true, List.all_eq_true]
  exact ⟨fun h v hv => h v ((mem_distinct L).2 hv), fun h v hv => h v ((mem_distinct L).1 hv)⟩
theorem inside_distinct (L : List V3) (p : Pl) : insideB (distinctL L) p = insideB L p := all_distinct L _
theorem isThr_distinct (L : List V3) (p : Pl) : IsThr (distinctL L) p ↔ IsThr L p := by
  unfold IsThr
  constructor
  · rintro ⟨A, B, C, a, b, c, h⟩; exact ⟨A, B, C, (mem_distinct L).1 a, (mem_distinct L).1 b, (mem_distinct L).1 c, h⟩
  · rintro ⟨A, B, C, a, b, c, h⟩; exact ⟨A, B, C, (mem_distinct L).2 a, (mem_distinct L).2 b, (mem_distinct L).2 c, h⟩
/-- The program's way: the planes through three of the distinct points that have all on their inner side, sorted, are the facets. -/
theorem facets_of {L : List V3} (hL : L.all vIn = true) {F : List Pl} (hs : SortedL pLt F) (hm : ∀ p, p ∈ F ↔ p ∈ triL (distinctL L) ∧ insideB (distinctL L) p = true) : F = facets L :=
  sorted_eq pLt_strict hs (sorted_facets L) (fun p => by
    rw [hm, mem_facets hL, mem_triL, thr_iff (by rw [all_distinct]; exact hL), isThr_distinct, inside_distinct])
theorem distinct_of {L F : List V3} (hs : SortedL vLt F) (hm : ∀ v, v ∈ F ↔ v ∈ L) : F = distinctL L :=
  sorted_eq vLt_strict hs (sorted_distinct L) (fun v => by rw [hm, mem_distinct])

/-! Flat lists. -/
def dt (N D : V3) : Int := N.x * D.x + N.y * D.y + N.z * D.z
/-- What is known of the plane through three points, in plain numbers. -/
structure ThrP (A B C : V3) (N : V3) (m : Int) : Prop where
  m1 : 1 ≤ m
  ex : (B.y - A.y) * (C.z - A.z) - (B.z - A.z) * (C.y - A.y) = N.x * m
  ey : (B.z - A.z) * (C.x - A.x) - (B.x - A.x) * (C.z - A.z) = N.y * m
  ez : (B.x - A.x) * (C.y - A.y) - (B.y - A.y) * (C.x - A.x) = N.z * m
  th : pThrough A B C = ⟨N, dt N A⟩
  b : Bd 4608 N
  va : pValid ⟨N, dt N A⟩ = true
  ne : ¬ (N.x = 0 ∧ N.y = 0 ∧ N.z = 0)
  sd : ∀ D, Bd 24 D → pSide ⟨N, dt N A⟩ D = ordI (dt N D) (dt N A)
theorem thrP {A B C : V3} (hA : Bd 24 A) (hB : Bd 24 B) (hC : Bd 24 C) (ho : okThrough A B C = true) : ∃ N m, ThrP A B C N m := by
  have s1 := sub_plain hA hB
  have s2 := sub_plain hA hC
  have hc := cross_plain s1.2 s2.2
  have hne : ¬ ((vCross (vSub B A) (vSub C A)).x = 0 ∧ (vCross (vSub B A) (vSub C A)).y = 0 ∧ (vCross (vSub B A) (vSub C A)).z = 0) := by
    intro h
    rw [ok_cross (V3.ext h.1 h.2.1 h.2.2)] at ho; cases ho
  obtain ⟨N, m, k⟩ := nrm hc.2 hne
  have d1 := dot_plain k.b (hA.mono (by omega))
  have hX : (vCross (vSub B A) (vSub C A)).x = (B.y - A.y) * (C.z - A.z) - (B.z - A.z) * (C.y - A.y) := by rw [hc.1, s1.1, s2.1]
  have hY : (vCross (vSub B A) (vSub C A)).y = (B.z - A.z) * (C.x - A.x) - (B.x - A.x) * (C.z - A.z) := by rw [hc.1, s1.1, s2.1]
  have hZ : (vCross (vSub B A) (vSub C A)).z = (B.x - A.x) * (C.y - A.y) - (B.y - A.y) * (C.x - A.x) := by rw [hc.1, s1.1, s2.1]
  have hb : vDot N A = dt N A := d1.1
  have hbb := d1.2; rw [hb] at hbb
  have va : pValid ⟨N, dt N A⟩ = true := by
    obtain ⟨b1, b2, b3, b4, b5, b6⟩ := k.b
    unfold pValid inB; simp only [k.u]; simp; omega
  refine ⟨N, m, by have := k.m1; omega, hX.symm.trans k.ex, hY.symm.trans k.ey, hZ.symm.trans k.ez, ?_, k.b, va, ?_, ?_⟩
  · unfold pThrough; rw [ho, k.p, hb]; rfl
  · rintro ⟨h1, h2, h3⟩
    exact hne ⟨by rw [k.ex, h1]; simp, by rw [k.ey, h2]; simp, by rw [k.ez, h3]; simp⟩
  · intro D hD
    unfold pSide
    rw [va, hD.vIn, (dot_plain k.b (hD.mono (by omega))).1]
    rfl
theorem ordI_zero' {a b : Int} : ordI a b = 0 ↔ a = b := by
  unfold ordI; split
  · omega
  · split <;> omega
theorem ThrP.on {A B C N : V3} {m : Int} (h : ThrP A B C N m) {D : V3} (hD : Bd 24 D) : pSide (pThrough A B C) D = 0 ↔ dt N D = dt N A := by
  rw [h.th, h.sd D hD, ordI_zero']
theorem dt_sub (N D A : V3) : dt N D = dt N A ↔ N.x * (D.x - A.x) + N.y * (D.y - A.y) + N.z * (D.z - A.z) = 0 := by
  unfold dt
  rw [Int.mul_sub, Int.mul_sub, Int.mul_sub]
  omega
theorem cramer {n u v t : V3} (hu : n.x * u.x + n.y * u.y + n.z * u.z = 0) (hv : n.x * v.x + n.y * v.y + n.z * v.z = 0) (ht : n.x * t.x + n.y * t.y + n.z * t.z = 0)
    (hn : ¬ (n.x = 0 ∧ n.y = 0 ∧ n.z = 0)) : (u.y * v.z - u.z * v.y) * t.x + (u.z * v.x - u.x * v.z) * t.y + (u.x * v.y - u.y * v.x) * t.z = 0 := by
  obtain ⟨D, hD⟩ : ∃ D, (u.y * v.z - u.z * v.y) * t.x + (u.z * v.x - u.x * v.z) * t.y + (u.x * v.y - u.y * v.x) * t.z = D := ⟨_, rfl⟩
  have e1 : n.x * D = 0 := by
    rw [← hD, show n.x * ((u.y * v.z - u.z * v.y) * t.x + (u.z * v.x - u.x * v.z) * t.y + (u.x * v.y - u.y * v.x) * t.z) = (n.x * u.x + n.y * u.y + n.z * u.z) * (v.y * t.z - v.z * t.y) - (n.x * v.x + n.y * v.y + n.z * v.z) * (u.y * t.z - u.z * t.y) + (n.x * t.x + n.y * t.y + n.z * t.z) * (u.y * v.z - u.z * v.y) by grind, hu, hv, ht]
    simp
  have e2 : n.y * D = 0 := by
    rw [← hD, show n.y * ((u.y * v.z - u.z * v.y) * t.x + (u.z * v.x - u.x * v.z) * t.y + (u.x * v.y - u.y * v.x) * t.z) = (n.x * u.x + n.y * u.y + n.z * u.z) * (v.z * t.x - v.x * t.z) - (n.x * v.x + n.y * v.y + n.z * v.z) * (u.z * t.x - u.x * t.z) + (n.x * t.x + n.y * t.y + n.z * t.z) * (u.z * v.x - u.x * v.z) by grind, hu, hv, ht]
    simp
  have e3 : n.z * D = 0 := by
    rw [← hD, show n.z * ((u.y * v.z - u.z * v.y) * t.x + (u.z * v.x - u.x * v.z) * t.y + (u.x * v.y - u.y * v.x) * t.z) = (n.x * u.x + n.y * u.y + n.z * u.z) * (v.x * t.y - v.y * t.x) - (n.x * v.x + n.y * v.y + n.z * v.z) * (u.x * t.y - u.y * t.x) + (n.x * t.x + n.y * t.y + n.z * t.z) * (u.x * v.y - u.y * v.x) by grind, hu, hv, ht]
    simp
  rw [hD]
  rcases Int.mul_eq_zero.mp e1 with h1 | h1
  · rcases Int.mul_eq_zero.mp e2 with h2 | h2
    · rcases Int.mul_eq_zero.mp e3 with h3 | h3
      · exact absurd ⟨h1, h2, h3⟩ hn
      · exact h3
    · exact h2
  · exact h1
/-- If some plane through three points has four others, then the plane through three of these has the fourth. -/
theorem four_on {A0 B0 C0 N0 : V3} {m0 : Int} (h0 : ThrP A0 B0 C0 N0 m0) {A B C D : V3} (hA : Bd 24 A) (hB : Bd 24 B) (hC : Bd 24 C) (hD : Bd 24 D) (ho : okThrough A B C = true)
    (eA : dt N0 A = dt N0 A0) (eB : dt N0 B = dt N0 A0) (eC : dt N0 C = dt N0 A0) (eD : dt N0 D = dt N0 A0) : pSide (pThrough A B C) D = 0 := by
  obtain ⟨N, m, k⟩ := thrP hA hB hC ho
  rw [k.on hD, dt_sub]
  have q := cramer (n := N0) (u := ⟨B.x - A.x, B.y - A.y, B.z - A.z⟩) (v := ⟨C.x - A.x, C.y - A.y, C.z - A.z⟩) (t := ⟨D.x - A.x, D.y - A.y, D.z - A.z⟩) ((dt_sub N0 B A).1 (eB.trans eA.symm)) ((dt_sub N0 C A).1 (eC.trans eA.symm)) ((dt_sub N0 D A).1 (eD.trans eA.symm)) h0.ne
  simp only [] at q
  rw [k.ex, k.ey, k.ez] at q
  have q2 : (N.x * (D.x - A.x) + N.y * (D.y - A.y) + N.z * (D.z - A.z)) * m = 0 := by
    rw [← q]; grind
  have := k.m1
  rcases Int.mul_eq_zero.mp q2 with h | h
  · exact h
  · omega
theorem through_rev_side {A B C D : V3} (hA : Bd 24 A) (hB : Bd 24 B) (hC : Bd 24 C) (hD : Bd 24 D) (ho : okThrough A B C = true) : okThrough C B A = true ∧ (pSide (pThrough C B A) D = 0 ↔ pSide (pThrough A B C) D = 0) := by
  have hm : pThrough A B C ∈ both A B C := by unfold both; rw [ho]; simp
  have o2 := (both_ok ((both_rev hA hB hC).1 hm)).1
  refine ⟨o2, ?_⟩
  obtain ⟨N, m, k⟩ := thrP hA hB hC ho
  obtain ⟨N', m', k'⟩ := thrP hC hB hA o2
  have on : ∀ {A B C : V3} {N m}, ThrP A B C N m → dt N B = dt N A ∧ dt N C = dt N A := by
    intro A B C N m k
    have e1 : (N.x * (B.x - A.x) + N.y * (B.y - A.y) + N.z * (B.z - A.z)) * m = 0 := by
      rw [show (N.x * (B.x - A.x) + N.y * (B.y - A.y) + N.z * (B.z - A.z)) * m = (N.x * m) * (B.x - A.x) + (N.y * m) * (B.y - A.y) + (N.z * m) * (B.z - A.z) by grind, ← k.ex, ← k.ey, ← k.ez]
      grind
    have e2 : (N.x * (C.x - A.x) + N.y * (C.y - A.y) + N.z * (C.z - A.z)) * m = 0 := by
      rw [show (N.x * (C.x - A.x) + N.y * (C.y - A.y) + N.z * (C.z - A.z)) * m = (N.x * m) * (C.x - A.x) + (N.y * m) * (C.y - A.y) + (N.z * m) * (C.z - A.z) by grind, ← k.ex, ← k.ey, ← k.ez]
      grind
    have hm := k.m1
    refine ⟨(dt_sub N B A).2 ?_, (dt_sub N C A).2 ?_⟩
    · rcases Int.mul_eq_zero.mp e1 with h | h
      · exact h
      · omega
    · rcases Int.mul_eq_zero.mp e2 with h | h
      · exact h
      · omega
  have q := on k
  have q' := on k'
  constructor
  · intro h
    exact four_on k' hA hB hC hD ho q'.2 q'.1 rfl ((k'.on hD).1 h)
  · intro h
    exact four_on k hC hB hA hD o2 q.2 q.1 rfl ((k.on hD).1 h)

theorem triL_cons {L : List V3} {p : Pl} {r : List Pl} (h : triL L = p :: r) : ∃ i j k, i < L.length ∧ j < i ∧ k < j ∧ okThrough (vAt L k) (vAt L j) (vAt L i) = true ∧ (p = pThrough (vAt L k) (vAt L j) (vAt L i) ∨ p = pFlip (pThrough (vAt L k) (vAt L j) (vAt L i))) := by
  obtain ⟨i, j, k, hi, hj, hk, hm⟩ := mem_triL.1 (show p ∈ triL L by rw [h]; exact List.mem_cons_self)
  exact ⟨i, j, k, hi, hj, hk, both_ok hm⟩
/-- Flip has the same points on its boundary. -/
theorem flip_side {A B C D : V3} (hA : Bd 24 A) (hB : Bd 24 B) (hC : Bd 24 C) (ho : okThrough A B C = true) : pSide (pFlip (pThrough A B C)) D = 0 ↔ pSide (pThrough A B C) D = 0 := by
  have hne : ¬ ((vCross (vSub B A) (vSub C A)).x = 0 ∧ (vCross (vSub B A) (vSub C A)).y = 0 ∧ (vCross (vSub B A) (vSub C A)).z = 0) := by
    intro h
    rw [ok_cross (V3.ext h.1 h.2.1 h.2.2)] at ho; cases ho
  obtain ⟨N, b, s⟩ := sidesLaw hA hB hC hne
  rw [s.t1]
  have h1 := s.sd D
  have hb : ∀ p v, -1 ≤ pSide p v ∧ pSide p v ≤ 1 := by
    intro p v; unfold pSide; split
    · exact ordI_bd _ _
    · omega
  have := hb (pFlip ⟨N, b⟩) D
  rw [wr_id ⟨by omega, by omega⟩] at h1
  omega
theorem flat_no {L : List V3} (hL : L.all vIn = true) {i j k m : Nat} (hi : i < L.length) (hj : j < i) (hk : k < j) (hm : m < L.length) (ho : okThrough (vAt L i) (vAt L j) (vAt L k) = true)
    (hs : ¬ pSide (pThrough (vAt L i) (vAt L j) (vAt L k)) (vAt L m) = 0) : flatB L = false := by
  have bd : ∀ n, n < L.length → Bd 24 (vAt L n) := fun n hn => vIn_all hL (vAt_mem hn)
  unfold flatB
  split
  · rename_i h
    have : pThrough (vAt L i) (vAt L j) (vAt L k) ∈ both (vAt L i) (vAt L j) (vAt L k) := by unfold both; rw [ho]; simp
    have := mem_triL.2 ⟨i, j, k, hi, hj, hk, (both_rev (bd i hi) (bd j (by omega)) (bd k (by omega))).1 this⟩
    rw [h] at this; cases this
  · rename_i p r h
    rw [Bool.eq_false_iff]
    intro hall
    obtain ⟨i', j', k', hi', hj', hk', ho', hp⟩ := triL_cons h
    obtain ⟨N0, m0, k0⟩ := thrP (bd k' (by omega)) (bd j' (by omega)) (bd i' hi') ho'
    have hon : ∀ n, n < L.length → dt N0 (vAt L n) = dt N0 (vAt L k') := by
      intro n hn
      have h1 := List.all_eq_true.1 hall _ (vAt_mem hn)
      simp only [beq_iff_eq] at h1
      refine (k0.on (bd n hn)).1 ?_
      rcases hp with rfl | rfl
      · exact h1
      · exact (flip_side (bd k' (by omega)) (bd j' (by omega)) (bd i' hi') ho').1 h1
    exact hs (four_on k0 (bd i hi) (bd j (by omega)) (bd k (by omega)) (bd m hm) ho (hon i hi) (hon j (by omega)) (hon k (by omega)) (hon m hm))
theorem flat_yes {L : List V3} (hL : L.all vIn = true) (h : ∀ i j k m, i < L.length → j < i → k < j → m < L.length → okThrough (vAt L i) (vAt L j) (vAt L k) = true → pSide (pThrough (vAt L i) (vAt L j) (vAt L k)) (vAt L m) = 0) : flatB L = true := by
  have bd : ∀ n, n < L.length → Bd 24 (vAt L n) := fun n hn => vIn_all hL (vAt_mem hn)
  unfold flatB
  split
  · rfl
  · rename_i p r hc
    obtain ⟨i, j, k, hi, hj, hk, ho, hp⟩ := triL_cons hc
    refine List.all_eq_true.2 fun v hv => ?_
    obtain ⟨m, hm, rfl⟩ := mem_vAt hv
    have q := through_rev_side (D := vAt L m) (bd k (by omega)) (bd j (by omega)) (bd i hi) (bd m hm) ho
    have q2 := q.2.1 (h i j k m hi hj hk hm q.1)
    simp only [beq_iff_eq]
    rcases hp with rfl | rfl
    · exact q2
    · exact (flip_side (bd k (by omega)) (bd j (by omega)) (bd i hi) ho).2 q2

/-! Vertices. -/
theorem tri_cyc (a b c : V3) : vDot (vCross a b) c = vDot (vCross b c) a := by
  simp only [vDot, vCross, wr_addl, wr_addr, wr_subl, wr_subr, wr_mull]
  exact congrArg wrap64 (by grind)
theorem triple_swap (a b c : V3) : vDot (vCross b a) c = wrap64 (-(vDot (vCross a b) c)) := by
  simp only [vDot, vCross, wr_addl, wr_addr, wr_subl, wr_subr, wr_mull]
  rw [show ∀ x, wrap64 (-(wrap64 x)) = wrap64 (-x) from fun x => by have := wr_subr 0 x; simpa using this]
  exact congrArg wrap64 (by grind)
theorem triple_swap0 (a b c : V3) : vDot (vCross b a) c = 0 ↔ vDot (vCross a b) c = 0 := by
  have key : ∀ a b c : V3, vDot (vCross a b) c = 0 → vDot (vCross b a) c = 0 := fun a b c h => by rw [triple_swap, h]; simp [wr_zero]
  exact ⟨key b a c, key a b c⟩
theorem triple_self (a c : V3) : vDot (vCross a a) c = 0 := by rw [vcross_self]; simp [vDot, wr_zero]
/-- Some normals of planes that are no multiples of one plane: by any three of a list. -/
def spanB (F : List Pl) : Bool := F.any fun p => F.any fun q => F.any fun r => !(vDot (vCross p.n q.n) r.n == 0)
theorem span_iff {F : List Pl} : spanB F = true ↔ ∃ p q r, p ∈ F ∧ q ∈ F ∧ r ∈ F ∧ ¬ vDot (vCross p.n q.n) r.n = 0 := by
  unfold spanB
  simp only [List.any_eq_true, Bool.not_eq_true', beq_eq_false_iff_ne, ne_eq]
  constructor
  · rintro ⟨p, hp, q, hq, r, hr, h⟩; exact ⟨p, q, r, hp, hq, hr, h⟩
  · rintro ⟨p, q, r, hp, hq, hr, h⟩; exact ⟨p, hp, q, hq, r, hr, h⟩
def pAt (F : List Pl) (i : Nat) : Pl := F.getD i ⟨⟨0, 0, 0⟩, 0⟩
theorem pAt_mem {L : List Pl} {i : Nat} (h : i < L.length) : pAt L i ∈ L := by
  unfold pAt; rw [List.getD_eq_getElem?_getD, List.getElem?_eq_getElem h]; exact List.getElem_mem h
theorem mem_pAt {L : List Pl} {v : Pl} (h : v ∈ L) : ∃ i, i < L.length ∧ pAt L i = v := by
  obtain ⟨i, hi, e⟩ := List.mem_iff_getElem.1 h
  exact ⟨i, hi, by unfold pAt; rw [List.getD_eq_getElem?_getD, List.getElem?_eq_getElem hi]; exact e⟩
/-- By two numbers in order and any third one (the program), or three in order (the reference). -/
theorem span_two {F : List Pl} : spanB F = true ↔ ∃ i j, i < F.length ∧ j < i ∧ ∃ r ∈ F, ¬ vDot (vCross (pAt F i).n (pAt F j).n) r.n = 0 := by
  rw [span_iff]
  constructor
  · rintro ⟨p, q, r, hp, hq, hr, h⟩
    obtain ⟨i, hi, rfl⟩ := mem_pAt hp
    obtain ⟨j, hj, rfl⟩ := mem_pAt hq
    rcases Nat.lt_trichotomy i j with e | e | e
    · exact ⟨j, i, hj, e, r, hr, fun h2 => h ((triple_swap0 _ _ _).1 h2)⟩
    · subst e; exact absurd (triple_self _ _) h
    · exact ⟨i, j, hi, e, r, hr, h⟩
  · rintro ⟨i, j, hi, hj, r, hr, h⟩
    exact ⟨_, _, r, pAt_mem hi, pAt_mem (by omega), hr, h⟩
theorem span_three {F : List Pl} : spanB F = true ↔ ∃ i j k, i < F.length ∧ j < i ∧ k < j ∧ ¬ vDot (vCross (pAt F i).n (pAt F j).n) (pAt F k).n = 0 := by
  rw [span_two]
  constructor
  · rintro ⟨i, j, hi, hj, r, hr, h⟩
    obtain ⟨k, hk, rfl⟩ := mem_pAt hr
    rcases Nat.lt_trichotomy k j with e | e | e
    · exact ⟨i, j, k, hi, hj, e, h⟩
    · subst e
      exact absurd ((tri_cyc _ _ _).trans (triple_self _ _)) h
    · rcases Nat.lt_trichotomy k i with e2 | e2 | e2
      · exact ⟨i, k, j, hi, e2, e, fun h2 => h ((tri_cyc (pAt F k).n (pAt F i).n (pAt F j).n).symm.trans ((triple_swap0 (pAt F i).n (pAt F k).n (pAt F j).n).2 h2))⟩
      · subst e2
        exact absurd ((tri_cyc _ _ _).symm.trans (triple_self _ _)) h
      · exact ⟨k, i, j, hk, e2, hj, fun h2 => h ((tri_cyc (pAt F k).n (pAt F i).n (pAt F j).n).symm.trans h2)⟩
  · rintro ⟨i, j, k, hi, hj, hk, h⟩
    exact ⟨i, j, hi, hj, _, pAt_mem (by omega), h⟩
theorem cornerB_span (f : List Pl) (v : V3) : cornerB f v = spanB (f.filter fun p => pSide p v == 0) := rfl
/-- The vertices by the reference: put in one by one. -/
def extR (f : List Pl) (L : List V3) : Nat → List V3
  | 0 => []
  | k + 1 => if cornerB f (vAt L k) = true then putG vLt (extR f L k) (vAt L k) else extR f L k
theorem mem_extR {f : List Pl} {L : List V3} {z : V3} : ∀ n, z ∈ extR f L n ↔ ∃ k, k < n ∧ z = vAt L k ∧ cornerB f z = true
  | 0 => by simp [extR]
  | n + 1 => by
    unfold extR
    constructor
    · intro h
      split at h
      · rename_i hc
        rcases (mem_putG _ _ _).1 h with rfl | h
        · exact ⟨n, by omega, rfl, hc⟩
        · obtain ⟨k, hk, e⟩ := (mem_extR n).1 h; exact ⟨k, by omega, e⟩
      · obtain ⟨k, hk, e⟩ := (mem_extR n).1 h; exact ⟨k, by omega, e⟩
    · rintro ⟨k, hk, rfl, hc⟩
      by_cases e : k = n
      · subst e; rw [if_pos hc]; exact (mem_putG _ _ _).2 (.inl rfl)
      · have : vAt L k ∈ extR f L n := (mem_extR n).2 ⟨k, by omega, rfl, hc⟩
        split
        · exact (mem_putG _ _ _).2 (.inr this)
        · exact this
theorem sorted_extR {f : List Pl} {L : List V3} : ∀ n, SortedL vLt (extR f L n)
  | 0 => by simp [extR, SortedL]
  | n + 1 => by
    unfold extR; split
    · exact sorted_putG vLt_strict _ (sorted_extR n)
    · exact sorted_extR n
theorem ext_eq (f : List Pl) (L : List V3) : extR f L L.length = (distinctL L).filter (cornerB f) := by
  refine sorted_eq vLt_strict (sorted_extR _) ((sorted_distinct L).filter _) fun v => ?_
  rw [mem_extR, List.mem_filter, mem_distinct]
  constructor
  · rintro ⟨k, hk, rfl, hc⟩; exact ⟨vAt_mem hk, hc⟩
  · rintro ⟨hv, hc⟩
    obtain ⟨k, hk, rfl⟩ := mem_vAt hv
    exact ⟨k, hk, rfl, hc⟩
end Go.Proofs.Ytccnlnkgoaelpaa
