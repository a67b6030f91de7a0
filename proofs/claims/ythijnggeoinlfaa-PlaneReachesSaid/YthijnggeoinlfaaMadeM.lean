/- What holds of each plane that Made returns: it is valid, and its offset is small. No condition. -/
import Derived.Test.YthijnggeoinlfaaMade
import Derived.Test.YthijnggeoinlfaaSidesM
import Derived.Test.YthijnggeoinlfaaOdd
namespace Go.Proofs.Ythijnggeoinlfaa
open Go.RowKit

structure MadeOk (p : Pl) : Prop where
  n : Bd 4608 p.n
  b1 : -331776 ≤ p.b
  b2 : p.b ≤ 331776
  g : vGcd p.n = 1
theorem MadeOk.ok {p : Pl} (h : MadeOk p) : p.Ok :=
  have i := h.n.i64 (by omega)
  have b1 := h.b1
  have b2 := h.b2
  ⟨⟨i.1, i.2.1, i.2.2⟩, ⟨by omega, by omega⟩⟩
theorem MadeOk.valid {p : Pl} (h : MadeOk p) : pValid p = true := by
  obtain ⟨⟨a1, a2, a3, a4, a5, a6⟩, b1, b2, g⟩ := h
  unfold pValid inB; rw [g]; simp; omega

theorem through_ok {A B C : V3} (hA : Bd 24 A) (hB : Bd 24 B) (hC : Bd 24 C) (h : okThrough A B C = true) : MadeOk (pThrough A B C) := by
  have s1 := sub_plain hA hB
  have s2 := sub_plain hA hC
  have hc := cross_plain s1.2 s2.2
  have hne : ¬ ((vCross (vSub B A) (vSub C A)).x = 0 ∧ (vCross (vSub B A) (vSub C A)).y = 0 ∧ (vCross (vSub B A) (vSub C A)).z = 0) := by
    intro hz
    have hx : vCross (vSub B A) (vSub C A) = ⟨0, 0, 0⟩ := V3.ext hz.1 hz.2.1 hz.2.2
    unfold okThrough at h
    rw [hx, gcd_zero] at h
    simp at h
  obtain ⟨N, m, k⟩ := nrm hc.2 hne
  unfold pThrough
  rw [h, k.p]
  have hd : ∀ n : V3, Bd 4608 n → -331776 ≤ vDot n A ∧ vDot n A ≤ 331776 := by
    intro n hn
    have p1 := prodBd hn.x1 hn.x2 hA.x1 hA.x2
    have p2 := prodBd hn.y1 hn.y2 hA.y1 hA.y2
    have p3 := prodBd hn.z1 hn.z2 hA.z1 hA.z2
    rw [(dot_plain hn (hA.mono (by omega))).1]
    omega
  have d := hd N k.b
  exact ⟨k.b, d.1, d.2, k.u⟩
theorem vecV_Bd (l : List Int) : Bd 24 (vecV l 8) := by
  have h := vecV_bd l 8 (by omega)
  exact ⟨by omega, by omega, by omega, by omega, by omega, by omega⟩
theorem axis_ok {N : V3} {b : Int} (hn : Bd 4608 N) (hg : vGcd N = 1) (hb : -8 ≤ b ∧ b ≤ 8) : MadeOk ⟨N, b⟩ :=
  ⟨hn, by show -331776 ≤ b; omega, by show b ≤ 331776; omega, hg⟩
theorem made_ok (l : List Int) : MadeOk (madeV l) := by
  unfold madeV
  split
  · rename_i h
    rw [Bool.and_eq_true] at h
    exact through_ok (vecV_Bd _) (vecV_Bd _) (vecV_Bd _) h.2
  · have hk : kindV l % 2 = 0 ∨ kindV l % 2 = 1 := by omega
    have hq := nextV_bd l.tail 17 (by omega)
    have hb : -8 ≤ byV l ∧ byV l ≤ 8 := by unfold byV; omega
    unfold axisV
    rcases hk with hk | hk <;> rw [hk] <;> split
    · exact axis_ok ⟨by decide, by decide, by decide, by decide, by decide, by decide⟩ (by decide) hb
    · split <;> exact axis_ok ⟨by decide, by decide, by decide, by decide, by decide, by decide⟩ (by decide) hb
    · exact axis_ok ⟨by decide, by decide, by decide, by decide, by decide, by decide⟩ (by decide) hb
    · split <;> exact axis_ok ⟨by decide, by decide, by decide, by decide, by decide, by decide⟩ (by decide) hb
end Go.Proofs.Ythijnggeoinlfaa
