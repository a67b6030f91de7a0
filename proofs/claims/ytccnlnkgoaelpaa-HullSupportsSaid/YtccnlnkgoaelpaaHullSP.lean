/- The statement HullSupports: for every input the call returns true, and the argument reads as before. No condition. -/
import Derived.Test.YtccnlnkgoaelpaaHullM
import Derived.Test.YtccnlnkgoaelpaaHullY
import Derived.Test.YtccnlnkgoaelpaaHullX1
import Derived.Test.YtccnlnkgoaelpaaHullA
import Derived.Test.YtccnlnkgoaelpaaRows
import Derived.WalkKit
import Derived.ProofKit
import Derived.OpenShut
import Derived.ShutString
import Derived.ChangeOld
import Derived.Below
import Derived.Test.YtccnlnkgoaelpaaFrame
namespace Go.Proofs.Ytccnlnkgoaelpaa
open Go.RowKit

def sb (a b : V3) : V3 := ⟨a.x - b.x, a.y - b.y, a.z - b.z⟩
def crs (a b : V3) : V3 := ⟨a.y * b.z - a.z * b.y, a.z * b.x - a.x * b.z, a.x * b.y - a.y * b.x⟩
def lin (α : Int) (a : V3) (β : Int) (b : V3) : V3 := ⟨α * a.x + β * b.x, α * a.y + β * b.y, α * a.z + β * b.z⟩
theorem dt_lin (α β : Int) (a b v : V3) : dt (lin α a β b) v = α * dt a v + β * dt b v := by unfold dt lin; grind
theorem max_of (d : V3) : ∀ S : List V3, S ≠ [] → ∃ A ∈ S, ∀ v ∈ S, dt d v ≤ dt d A
  | [], h => absurd rfl h
  | [x], _ => ⟨x, by simp, fun v hv => by simp at hv; subst hv; exact Int.le_refl _⟩
  | x :: y :: l, _ => by
    obtain ⟨A, hA, h⟩ := max_of d (y :: l) (by simp)
    rcases Int.le_total (dt d x) (dt d A) with h1 | h1
    · exact ⟨A, List.mem_cons_of_mem _ hA, fun v hv => by
        rcases List.mem_cons.1 hv with rfl | hv
        · exact h1
        · exact h v hv⟩
    · exact ⟨x, by simp, fun v hv => by
        rcases List.mem_cons.1 hv with rfl | hv
        · exact Int.le_refl _
        · exact Int.le_trans (h v hv) h1⟩
/-- The least ratio. -/
theorem min_ratio (p q : V3 → Int) : ∀ S : List V3, (∃ v ∈ S, 0 < p v) → ∃ u ∈ S, 0 < p u ∧ ∀ v ∈ S, 0 < p v → q u * p v ≤ q v * p u
  | [], h => by obtain ⟨v, hv, _⟩ := h; cases hv
  | x :: S, h => by
    by_cases hS : ∃ v ∈ S, 0 < p v
    · obtain ⟨u, hu, hp, hm⟩ := min_ratio p q S hS
      by_cases hx : 0 < p x
      · rcases Int.le_total (q x * p u) (q u * p x) with h1 | h1
        · refine ⟨x, by simp, hx, fun v hv hpv => ?_⟩
          rcases List.mem_cons.1 hv with rfl | hv
          · exact Int.le_refl _
          · have h2 := hm v hv hpv
            have h3 : p u * (q x * p v) ≤ p u * (q v * p x) := by
              have a1 := Int.mul_le_mul_of_nonneg_right h1 (Int.le_of_lt hpv)
              have a2 := Int.mul_le_mul_of_nonneg_right h2 (Int.le_of_lt hx)
              have e1 : p u * (q x * p v) = q x * p u * p v := by grind
              have e2 : q u * p x * p v = q u * p v * p x := by grind
              have e3 : p u * (q v * p x) = q v * p u * p x := by grind
              rw [e1, e3]
              rw [e2] at a1
              exact Int.le_trans a1 a2
            exact Int.le_of_mul_le_mul_left h3 hp
        · refine ⟨u, List.mem_cons_of_mem _ hu, hp, fun v hv hpv => ?_⟩
          rcases List.mem_cons.1 hv with rfl | hv
          · exact h1
          · exact hm v hv hpv
      · refine ⟨u, List.mem_cons_of_mem _ hu, hp, fun v hv hpv => ?_⟩
        rcases List.mem_cons.1 hv with rfl | hv
        · exact absurd hpv hx
        · exact hm v hv hpv
    · obtain ⟨v, hv, hp⟩ := h
      have hvx : v = x := by
        rcases List.mem_cons.1 hv with e | hv
        · exact e
        · exact absurd ⟨v, hv, hp⟩ hS
      subst hvx
      refine ⟨v, by simp, hp, fun w hw hpw => ?_⟩
      rcases List.mem_cons.1 hw with rfl | hw
      · exact Int.le_refl _
      · exact absurd ⟨w, hw, hpw⟩ hS
/-- A supporting plane, turned until it meets another point. -/
theorem turn {S : List V3} {N M d : V3} {b c : Int} (hs : ∀ v ∈ S, dt N v ≤ b) (hd : 0 < dt N d) (hM : dt M d = 0) (ht : ∀ v ∈ S, dt N v = b → dt M v = c) (hex : ∃ v ∈ S, 0 < dt M v - c) :
    ∃ N' b' u, 0 < dt N' d ∧ (∀ v ∈ S, dt N' v ≤ b') ∧ u ∈ S ∧ dt M u ≠ c ∧ dt N' u = b' ∧ ∀ v, dt N v = b → dt M v = c → dt N' v = b' := by
  obtain ⟨u, hu, hp, hm⟩ := min_ratio (fun v => dt M v - c) (fun v => b - dt N v) S hex
  have hq : 0 < b - dt N u := by
    have h1 := hs u hu
    rcases Int.lt_or_eq_of_le h1 with h2 | h2
    · omega
    · have := ht u hu h2; omega
  refine ⟨lin (dt M u - c) N (b - dt N u) M, (dt M u - c) * b + (b - dt N u) * c, u, ?_, fun v hv => ?_, hu, by omega, ?_, fun v h1 h2 => ?_⟩
  · rw [dt_lin, hM, Int.mul_zero, Int.add_zero]
    exact Int.mul_pos hp hd
  · rw [dt_lin]
    have hsv := hs v hv
    by_cases hpv : 0 < dt M v - c
    · have h := hm v hv hpv
      have e1 : (b - dt N u) * (dt M v - c) = (b - dt N u) * dt M v - (b - dt N u) * c := by grind
      have e2 : (b - dt N v) * (dt M u - c) = (dt M u - c) * b - (dt M u - c) * dt N v := by grind
      rw [e1, e2] at h
      omega
    · have a1 := Int.mul_le_mul_of_nonneg_left hsv (Int.le_of_lt hp)
      have a2 := Int.mul_le_mul_of_nonneg_left (show dt M v ≤ c by omega) (Int.le_of_lt hq)
      omega
  · rw [dt_lin]; grind
  · rw [dt_lin, h1, h2]
theorem turn' {S : List V3} {N M d : V3} {b c : Int} (hs : ∀ v ∈ S, dt N v ≤ b) (hd : 0 < dt N d) (hM : dt M d = 0) (ht : ∀ v ∈ S, dt N v = b → dt M v = c) (hex : ∃ v ∈ S, dt M v ≠ c) :
    ∃ N' b' u, 0 < dt N' d ∧ (∀ v ∈ S, dt N' v ≤ b') ∧ u ∈ S ∧ dt M u ≠ c ∧ dt N' u = b' ∧ ∀ v, dt N v = b → dt M v = c → dt N' v = b' := by
  obtain ⟨v, hv, hne⟩ := hex
  by_cases h : 0 < dt M v - c
  · exact turn hs hd hM ht ⟨v, hv, h⟩
  · have em : ∀ w, dt (lin (-1) M 0 M) w = -dt M w := fun w => by rw [dt_lin]; omega
    obtain ⟨N', b', u, h1, h2, h3, h4, h5, h6⟩ := turn (M := lin (-1) M 0 M) (c := -c) hs hd (by rw [em, hM]; rfl) (fun w hw hb => by rw [em, ht w hw hb]) ⟨v, hv, by rw [em]; omega⟩
    refine ⟨N', b', u, h1, h2, h3, fun e => h4 (by rw [em, e]), h5, fun w hw hc => h6 w hw (by rw [em, hc])⟩
theorem crs_dt (l d u : V3) : dt (crs l d) u = -dt (crs l u) d := by unfold dt crs; grind
theorem dt_sb (M a b : V3) : dt M (sb a b) = dt M a - dt M b := by unfold dt sb; grind
theorem crs_self_l (a b : V3) : dt (crs a b) a = 0 := by unfold dt crs; grind
theorem crs_self_r (a b : V3) : dt (crs a b) b = 0 := by unfold dt crs; grind
theorem v3_zero {a : V3} (h : a.x = 0 ∧ a.y = 0 ∧ a.z = 0) : a = ⟨0, 0, 0⟩ := by
  obtain ⟨x, y, z⟩ := a; obtain ⟨h1, h2, h3⟩ := h; simp only [] at h1 h2 h3; subst h1; subst h2; subst h3; rfl
theorem dt_zero_l (v : V3) : dt ⟨0, 0, 0⟩ v = 0 := by unfold dt; simp
theorem dt_zero_r (v : V3) : dt v ⟨0, 0, 0⟩ = 0 := by unfold dt; simp
theorem sq_pos {a : V3} (h : a ≠ ⟨0, 0, 0⟩) : 0 < dt a a := by
  have sq : ∀ n : Int, 0 ≤ n * n := fun n => by
    rcases Int.le_total 0 n with h | h
    · exact Int.mul_nonneg h h
    · exact Int.mul_nonneg_of_nonpos_of_nonpos h h
  have sp : ∀ n : Int, n * n = 0 → n = 0 := fun n h => by rcases Int.mul_eq_zero.1 h with h | h <;> exact h
  have h1 := sq a.x
  have h2 := sq a.y
  have h3 := sq a.z
  unfold dt
  rcases Int.lt_or_eq_of_le (show 0 ≤ a.x * a.x + a.y * a.y + a.z * a.z by omega) with h4 | h4
  · exact h4
  · exact absurd (v3_zero ⟨sp _ (by omega), sp _ (by omega), sp _ (by omega)⟩) h
/-- In each direction some plane through three points that do not lie on a line has all points on its inner side. -/
theorem looks {S : List V3} (h0 : S ≠ []) (hnf : ∀ N b, N ≠ ⟨0, 0, 0⟩ → ∃ v ∈ S, dt N v ≠ b) {d : V3} (hd : d ≠ ⟨0, 0, 0⟩) :
    ∃ N b A B C, 0 < dt N d ∧ (∀ v ∈ S, dt N v ≤ b) ∧ A ∈ S ∧ B ∈ S ∧ C ∈ S ∧ dt N A = b ∧ dt N B = b ∧ dt N C = b ∧ crs (sb B A) (sb C A) ≠ ⟨0, 0, 0⟩ := by
  -- two points on the plane
  obtain ⟨N, b, A, B, hNd, hs, hA, hB, hAb, hBb, hAB⟩ : ∃ N b A B, 0 < dt N d ∧ (∀ v ∈ S, dt N v ≤ b) ∧ A ∈ S ∧ B ∈ S ∧ dt N A = b ∧ dt N B = b ∧ sb B A ≠ ⟨0, 0, 0⟩ := by
    obtain ⟨A, hA, hmax⟩ := max_of d S h0
    have hpos := sq_pos hd
    by_cases hB : ∃ B ∈ S, dt d B = dt d A ∧ sb B A ≠ ⟨0, 0, 0⟩
    · obtain ⟨B, hB, hBb, hne⟩ := hB
      exact ⟨d, dt d A, A, B, hpos, hmax, hA, hB, rfl, hBb, hne⟩
    · obtain ⟨M, hM0, hMd⟩ : ∃ M, M ≠ ⟨0, 0, 0⟩ ∧ dt M d = 0 := by
        by_cases h : d.x = 0 ∧ d.y = 0
        · exact ⟨⟨1, 0, 0⟩, by simp, by unfold dt; simp [h.1]⟩
        · refine ⟨⟨-d.y, d.x, 0⟩, fun e => h ?_, by unfold dt; grind⟩
          injection e with e1 e2
          exact ⟨e2, by omega⟩
      obtain ⟨N', b', u, k1, k2, k3, k4, k5, k6⟩ := turn' (M := M) (c := dt M A) hmax hpos hMd (fun v hv hb => by
        have e : sb v A = ⟨0, 0, 0⟩ := Classical.byContradiction fun h => hB ⟨v, hv, hb, h⟩
        have := dt_sb M v A
        rw [e, dt_zero_r] at this
        omega) (hnf M _ hM0)
      refine ⟨N', b', A, u, k1, k2, hA, k3, k6 A rfl rfl, k5, fun e => k4 ?_⟩
      have := dt_sb M u A
      rw [e, dt_zero_r] at this
      omega
  by_cases hC : ∃ C ∈ S, dt N C = b ∧ crs (sb B A) (sb C A) ≠ ⟨0, 0, 0⟩
  · obtain ⟨C, hC, hCb, hne⟩ := hC
    exact ⟨N, b, A, B, C, hNd, hs, hA, hB, hC, hAb, hBb, hCb, hne⟩
  · have hNl : dt N (sb B A) = 0 := by rw [dt_sb]; omega
    have hM0 : crs (sb B A) d ≠ ⟨0, 0, 0⟩ := fun e => hAB (by
      generalize sb B A = l at *
      have e1 : l.y * d.z - l.z * d.y = 0 := congrArg V3.x e
      have e2 : l.z * d.x - l.x * d.z = 0 := congrArg V3.y e
      have e3 : l.x * d.y - l.y * d.x = 0 := congrArg V3.z e
      unfold dt at hNl hNd
      have f1 : l.x * (N.x * d.x + N.y * d.y + N.z * d.z) = 0 := by grind
      have f2 : l.y * (N.x * d.x + N.y * d.y + N.z * d.z) = 0 := by grind
      have f3 : l.z * (N.x * d.x + N.y * d.y + N.z * d.z) = 0 := by grind
      have z : ∀ a : Int, a * (N.x * d.x + N.y * d.y + N.z * d.z) = 0 → a = 0 := fun a h => by
        rcases Int.mul_eq_zero.1 h with h | h
        · exact h
        · omega
      exact v3_zero ⟨z _ f1, z _ f2, z _ f3⟩)
    have hon : ∀ v, crs (sb B A) (sb v A) = ⟨0, 0, 0⟩ → dt (crs (sb B A) d) v = dt (crs (sb B A) d) A := fun v h => by
      have h1 := crs_dt (sb B A) d (sb v A)
      rw [h, dt_zero_l, dt_sb] at h1
      omega
    obtain ⟨N', b', u, k1, k2, k3, k4, k5, k6⟩ := turn' (M := crs (sb B A) d) (c := dt (crs (sb B A) d) A) hs hNd (crs_self_r _ _) (fun v hv hb => hon v (Classical.byContradiction fun h => hC ⟨v, hv, hb, h⟩)) (hnf _ _ hM0)
    have hMB : dt (crs (sb B A) d) B = dt (crs (sb B A) d) A := by
      have h1 := crs_self_l (sb B A) d
      rw [dt_sb] at h1
      omega
    exact ⟨N', b', A, B, u, k1, k2, hA, hB, k3, k6 A hAb rfl, k6 B hBb hMB, k5, fun e => k4 (hon u e)⟩
end Go.Proofs.Ytccnlnkgoaelpaa
namespace Go.Proofs.Ytccnlnkgoaelpaa
open Go.RowKit

theorem cross_perp (n a b : V3) : (n.y * (crs a b).z - n.z * (crs a b).y = a.x * dt n b - b.x * dt n a) ∧ (n.z * (crs a b).x - n.x * (crs a b).z = a.y * dt n b - b.y * dt n a) ∧ (n.x * (crs a b).y - n.y * (crs a b).x = a.z * dt n b - b.z * dt n a) := by
  unfold crs dt
  refine ⟨?_, ?_, ?_⟩ <;> grind
/-- A vector that is perpendicular to two, and their cross product. -/
theorem par {n a b : V3} (ha : dt n a = 0) (hb : dt n b = 0) (w : V3) : dt (crs a b) (crs a b) * dt n w = dt n (crs a b) * dt (crs a b) w := by
  obtain ⟨h1, h2, h3⟩ := cross_perp n a b
  rw [ha, hb] at h1 h2 h3
  simp only [Int.mul_zero, Int.sub_zero] at h1 h2 h3
  generalize crs a b = X at *
  unfold dt
  grind
theorem crs_thr {A B C N : V3} {m : Int} (t : ThrP A B C N m) (w : V3) : dt (crs (sb B A) (sb C A)) w = dt N w * m := by
  have h1 := t.ex
  have h2 := t.ey
  have h3 := t.ez
  unfold dt crs sb
  simp only []
  rw [h1, h2, h3]
  grind
theorem crs_ne {A B C N : V3} {m : Int} (t : ThrP A B C N m) : crs (sb B A) (sb C A) ≠ ⟨0, 0, 0⟩ := fun e => t.ne (by
  have h1 := t.ex
  have h2 := t.ey
  have h3 := t.ez
  have e1 : (crs (sb B A) (sb C A)).x = 0 := by rw [e]
  have e2 : (crs (sb B A) (sb C A)).y = 0 := by rw [e]
  have e3 : (crs (sb B A) (sb C A)).z = 0 := by rw [e]
  unfold crs sb at e1 e2 e3
  simp only [] at e1 e2 e3
  have hm := t.m1
  have z : ∀ a : Int, a * m = 0 → a = 0 := fun a h => by
    rcases Int.mul_eq_zero.1 h with h | h
    · exact h
    · omega
  exact ⟨z _ (by rw [← h1]; exact e1), z _ (by rw [← h2]; exact e2), z _ (by rw [← h3]; exact e3)⟩)
theorem ok_of_crs {A B C : V3} (hA : Bd 24 A) (hB : Bd 24 B) (hC : Bd 24 C) (h : crs (sb B A) (sb C A) ≠ ⟨0, 0, 0⟩) : okThrough A B C = true := by
  have s1 := sub_plain hA hB
  have s2 := sub_plain hA hC
  have hc := cross_plain s1.2 s2.2
  have hX : vCross (vSub B A) (vSub C A) = crs (sb B A) (sb C A) := by rw [hc.1, s1.1, s2.1]; rfl
  have hne : ¬ ((vCross (vSub B A) (vSub C A)).x = 0 ∧ (vCross (vSub B A) (vSub C A)).y = 0 ∧ (vCross (vSub B A) (vSub C A)).z = 0) := fun e => h (by rw [← hX]; exact v3_zero e)
  obtain ⟨N, b, s⟩ := sidesLaw hA hB hC hne
  exact s.o1
theorem ordI_le {a b : Int} (h : a ≤ b) : ordI a b ≤ 0 := by unfold ordI; split <;> first | omega | (split <;> omega)
theorem ordI_ge {a b : Int} (h : b ≤ a) : 0 ≤ ordI a b := by unfold ordI; split <;> first | omega | (split <;> omega)
theorem side_flip {A B C : V3} (hA : Bd 24 A) (hB : Bd 24 B) (hC : Bd 24 C) (ho : okThrough A B C = true) (D : V3) : pSide (pFlip (pThrough A B C)) D = -pSide (pThrough A B C) D := by
  have hne : ¬ ((vCross (vSub B A) (vSub C A)).x = 0 ∧ (vCross (vSub B A) (vSub C A)).y = 0 ∧ (vCross (vSub B A) (vSub C A)).z = 0) := by
    intro h
    rw [ok_cross (V3.ext h.1 h.2.1 h.2.2)] at ho; cases ho
  obtain ⟨N, b, s⟩ := sidesLaw hA hB hC hne
  rw [s.t1]
  have h1 := s.sd D
  have hb : ∀ p v, -1 ≤ pSide p v ∧ pSide p v ≤ 1 := by
    intro p v; unfold pSide; split
    · exact ordI_bd _ _
    · omega
  have := hb (pFlip ⟨N, b⟩) D
  rw [wr_id ⟨by omega, by omega⟩] at h1
  omega
/-- Points that do not all lie in one plane. -/
theorem not_flat {L : List V3} (h : hCheck L = 0) (N' : V3) (b' : Int) (hN : N' ≠ ⟨0, 0, 0⟩) : ∃ v ∈ L, dt N' v ≠ b' := by
  obtain ⟨h48, hin, hpos⟩ := check_ok h
  apply Classical.byContradiction
  intro hno
  have hall : ∀ v ∈ L, dt N' v = b' := fun v hv => Classical.byContradiction fun e => hno ⟨v, hv, e⟩
  have hf : flatB L = true := flat_yes hin (fun i j k mm hi hj hk hmm ho => by
    have bA := vIn_all hin (vAt_mem hi)
    have bB := vIn_all hin (vAt_mem (L := L) (i := j) (by omega))
    have bC := vIn_all hin (vAt_mem (L := L) (i := k) (by omega))
    have bD := vIn_all hin (vAt_mem hmm)
    obtain ⟨N, m, t⟩ := thrP bA bB bC ho
    have eA := hall _ (vAt_mem hi)
    have eB := hall _ (vAt_mem (L := L) (i := j) (by omega))
    have eC := hall _ (vAt_mem (L := L) (i := k) (by omega))
    have eD := hall _ (vAt_mem hmm)
    generalize vAt L i = A at *
    generalize vAt L j = B at *
    generalize vAt L k = C at *
    generalize vAt L mm = D at *
    have p1 : dt N' (sb B A) = 0 := by rw [dt_sb]; omega
    have p2 : dt N' (sb C A) = 0 := by rw [dt_sb]; omega
    have hX := crs_ne t
    have hXX := sq_pos hX
    have hs : dt N' (crs (sb B A) (sb C A)) ≠ 0 := fun e => by
      have q := par p1 p2 N'
      rw [e, Int.zero_mul] at q
      have := Int.mul_pos hXX (sq_pos hN)
      omega
    have q := par p1 p2 (sb D A)
    rw [dt_sb, eD, eA, Int.sub_self, Int.mul_zero] at q
    have q2 : dt (crs (sb B A) (sb C A)) (sb D A) = 0 := by
      rcases Int.mul_eq_zero.1 q.symm with h | h
      · exact absurd h hs
      · exact h
    rw [crs_thr t, dt_sb] at q2
    have hm := t.m1
    have q3 : dt N D - dt N A = 0 := by
      rcases Int.mul_eq_zero.1 q2 with h | h
      · exact h
      · omega
    rw [t.th, t.sd D bD]
    exact ordI_zero'.2 (by omega))
  unfold hCheck at h
  rw [if_neg (by omega), if_pos hin, if_pos hf] at h
  exact absurd h (by decide)
theorem mul_sign {a m : Int} (hm : 1 ≤ m) (h : 0 < a * m) : 0 < a := by
  by_cases h1 : 0 < a
  · exact h1
  · have := Int.mul_nonneg (show 0 ≤ -a by omega) (show 0 ≤ m by omega)
    rw [Int.neg_mul] at this
    omega
theorem mul_sign_le {a m : Int} (hm : 1 ≤ m) (h : 0 ≤ a * m) : 0 ≤ a := by
  by_cases h1 : a < 0
  · have := Int.mul_pos (show 0 < -a by omega) (show 0 < m by omega)
    rw [Int.neg_mul] at this
    omega
  · omega
/-- In each direction some facet looks. -/
theorem facet_looks {L : List V3} (h : hCheck L = 0) {d : V3} (hd : d ≠ ⟨0, 0, 0⟩) : ∃ p ∈ facets L, 0 < dt p.n d := by
  obtain ⟨h48, hin, hpos⟩ := check_ok h
  obtain ⟨N', b', A, B, C, hNd, hs, hA, hB, hC, eA, eB, eC, hX⟩ := looks (S := L) (by intro e; rw [e] at hpos; simp at hpos) (not_flat h) hd
  have bA := vIn_all hin hA
  have bB := vIn_all hin hB
  have bC := vIn_all hin hC
  have ho := ok_of_crs bA bB bC hX
  obtain ⟨N, m, t⟩ := thrP bA bB bC ho
  have hm := t.m1
  have p1 : dt N' (sb B A) = 0 := by rw [dt_sb]; omega
  have p2 : dt N' (sb C A) = 0 := by rw [dt_sb]; omega
  have hXX := sq_pos hX
  have P := par p1 p2
  have hthr : ∀ p, p = pThrough A B C ∨ p = pFlip (pThrough A B C) → IsThr L p := fun p hp => ⟨A, B, C, hA, hB, hC, by unfold both; rw [if_pos ho]; rcases hp with rfl | rfl <;> simp⟩
  have Xd := crs_thr t d
  have hsx : ∀ v ∈ L, 0 ≤ -(dt N' (crs (sb B A) (sb C A)) * (dt N (sb v A) * m)) := fun v hv => by
    have q := P (sb v A)
    rw [crs_thr t (sb v A)] at q
    have h1 := hs v hv
    have h2 := Int.mul_nonneg (Int.le_of_lt hXX) (show 0 ≤ -(dt N' (sb v A)) by rw [dt_sb]; omega)
    rw [Int.mul_neg] at h2
    omega
  have hdx : 0 < dt N' (crs (sb B A) (sb C A)) * (dt N d * m) := by
    have q := P d
    rw [crs_thr t d] at q
    have := Int.mul_pos hXX hNd
    omega
  generalize dt N' (crs (sb B A) (sb C A)) = s at *
  rcases Int.lt_trichotomy s 0 with hs0 | hs0 | hs0
  · -- the flip
    refine ⟨pFlip (pThrough A B C), (mem_facets hin _).2 ⟨hthr _ (.inr rfl), ?_⟩, ?_⟩
    · unfold insideB
      rw [List.all_eq_true]
      intro v hv
      rw [side_flip bA bB bC ho, t.th, t.sd v (vIn_all hin hv)]
      have q := hsx v hv
      have q2 : 0 ≤ (-s) * (dt N (sb v A) * m) := by rw [Int.neg_mul]; exact q
      have q3 : 0 ≤ dt N (sb v A) * m := mul_sign_le (m := -s) (by omega) (by rw [Int.mul_comm]; exact q2)
      have q4 := mul_sign_le hm q3
      rw [dt_sb] at q4
      have := ordI_ge (show dt N A ≤ dt N v by omega)
      simp
      omega
    · have q2 : 0 < (-(dt N d * m)) * (-s) := by rw [Int.neg_mul_neg, Int.mul_comm]; exact hdx
      have q3 := mul_sign (show 1 ≤ -s by omega) q2
      have q4 : 0 < (-(dt N d)) * m := by rw [Int.neg_mul]; exact q3
      have q5 := mul_sign hm q4
      rw [t.th]
      unfold pFlip
      simp only []
      rw [vneg_plain t.b]
      unfold dt at q5 ⊢
      simp only []
      simp only [Int.neg_mul]
      omega
  · subst hs0
    simp at hdx
  · refine ⟨pThrough A B C, (mem_facets hin _).2 ⟨hthr _ (.inl rfl), ?_⟩, ?_⟩
    · unfold insideB
      rw [List.all_eq_true]
      intro v hv
      rw [t.th, t.sd v (vIn_all hin hv)]
      have q := hsx v hv
      have q2 : 0 ≤ (-(dt N (sb v A) * m)) * s := by rw [Int.neg_mul, Int.mul_comm]; exact q
      have q3 : 0 ≤ (-(dt N (sb v A))) * m := by rw [Int.neg_mul]; exact mul_sign_le (show 1 ≤ s by omega) q2
      have q4 := mul_sign_le hm q3
      rw [dt_sb] at q4
      have := ordI_le (show dt N v ≤ dt N A by omega)
      simpa using this
    · rw [t.th]
      exact mul_sign hm (mul_sign (show 1 ≤ s by omega) (by rw [Int.mul_comm]; exact hdx))
/-- A direction in which none of three planes looks. -/
theorem away (n1 n2 n3 : V3) : ∃ d : V3, d ≠ ⟨0, 0, 0⟩ ∧ dt n1 d ≤ 0 ∧ dt n2 d ≤ 0 ∧ dt n3 d ≤ 0 := by
  obtain ⟨d, hd, h1, h2⟩ : ∃ d : V3, d ≠ ⟨0, 0, 0⟩ ∧ dt n1 d = 0 ∧ dt n2 d = 0 := by
    by_cases h : crs n1 n2 = ⟨0, 0, 0⟩
    · by_cases hn : n1 = ⟨0, 0, 0⟩
      · subst hn
        by_cases h2 : n2.x = 0 ∧ n2.y = 0
        · exact ⟨⟨1, 0, 0⟩, by simp, dt_zero_l _, by unfold dt; simp [h2.1]⟩
        · refine ⟨⟨-n2.y, n2.x, 0⟩, fun e => h2 ?_, dt_zero_l _, by unfold dt; grind⟩
          injection e with e1 e2
          exact ⟨e2, by omega⟩
      · obtain ⟨d, hd, h1⟩ : ∃ d : V3, d ≠ ⟨0, 0, 0⟩ ∧ dt n1 d = 0 := by
          by_cases h2 : n1.x = 0 ∧ n1.y = 0
          · exact ⟨⟨1, 0, 0⟩, by simp, by unfold dt; simp [h2.1]⟩
          · refine ⟨⟨-n1.y, n1.x, 0⟩, fun e => h2 ?_, by unfold dt; grind⟩
            injection e with e1 e2
            exact ⟨e2, by omega⟩
        refine ⟨d, hd, h1, ?_⟩
        have hp := sq_pos hn
        have e1 : n1.y * n2.z - n1.z * n2.y = 0 := congrArg V3.x h
        have e2 : n1.z * n2.x - n1.x * n2.z = 0 := congrArg V3.y h
        have e3 : n1.x * n2.y - n1.y * n2.x = 0 := congrArg V3.z h
        have q : dt n1 n1 * dt n2 d = dt n1 n2 * dt n1 d := by unfold dt; grind
        rw [h1, Int.mul_zero] at q
        rcases Int.mul_eq_zero.1 q with h | h
        · omega
        · exact h
    · exact ⟨crs n1 n2, h, by unfold dt crs; grind, by unfold dt crs; grind⟩
  rcases Int.le_total (dt n3 d) 0 with h3 | h3
  · exact ⟨d, hd, by omega, by omega, h3⟩
  · have e : ∀ n, dt n ⟨-d.x, -d.y, -d.z⟩ = -dt n d := fun n => by unfold dt; grind
    refine ⟨⟨-d.x, -d.y, -d.z⟩, fun e0 => hd ?_, by rw [e]; omega, by rw [e]; omega, by rw [e]; omega⟩
    injection e0 with a1 a2 a3
    exact v3_zero ⟨by omega, by omega, by omega⟩
theorem four_facets {L : List V3} (h : hCheck L = 0) : 4 ≤ (facets L).length := by
  rcases Nat.lt_or_ge (facets L).length 4 with hl | hl
  · obtain ⟨d, hd, h1, h2, h3⟩ := away (pAt (facets L) 0).n (pAt (facets L) 1).n (pAt (facets L) 2).n
    obtain ⟨p, hp, hpd⟩ := facet_looks h hd
    obtain ⟨i, hi, rfl⟩ := mem_pAt hp
    rcases (show i = 0 ∨ i = 1 ∨ i = 2 by omega) with rfl | rfl | rfl <;> omega
  · exact hl
/-- What HullSupports says of a facet. -/
theorem facet_props {L : List V3} (h : hCheck L = 0) {p : Pl} (hp : p ∈ facets L) : pValid p = true ∧ (∀ v ∈ L, pSide p v ≤ 0) ∧
    ∀ o ∈ L, ∃ a b, a ∈ L ∧ b ∈ L ∧ pSide p a = 0 ∧ pSide p b = 0 ∧ vCross (vSub a o) (vSub b o) ≠ ⟨0, 0, 0⟩ := by
  obtain ⟨h48, hin, hpos⟩ := check_ok h
  obtain ⟨⟨A, B, C, hA, hB, hC, hb⟩, hi⟩ := (mem_facets hin p).1 hp
  have bA := vIn_all hin hA
  have bB := vIn_all hin hB
  have bC := vIn_all hin hC
  obtain ⟨ho, hpe⟩ := both_ok hb
  obtain ⟨N, m, t⟩ := thrP bA bB bC ho
  have hX := crs_ne t
  have hne : ¬ ((vCross (vSub B A) (vSub C A)).x = 0 ∧ (vCross (vSub B A) (vSub C A)).y = 0 ∧ (vCross (vSub B A) (vSub C A)).z = 0) := by
    intro e
    rw [ok_cross (V3.ext e.1 e.2.1 e.2.2)] at ho; cases ho
  obtain ⟨N2, b2, s⟩ := sidesLaw bA bB bC hne
  have hval : pValid p = true := by
    rcases hpe with rfl | rfl
    · rw [s.t1]; exact s.v1
    · rw [s.t1]; exact s.v2
  have hon : pSide p A = 0 ∧ pSide p B = 0 ∧ pSide p C = 0 := by
    rcases hpe with rfl | rfl
    · rw [s.t1]; exact ⟨s.sA, s.sB, s.sC⟩
    · rw [side_flip bA bB bC ho, side_flip bA bB bC ho, side_flip bA bB bC ho, s.t1, s.sA, s.sB, s.sC]
      exact ⟨rfl, rfl, rfl⟩
  refine ⟨hval, fun v hv => ?_, fun o ho' => ?_⟩
  · unfold insideB at hi
    simpa using List.all_eq_true.1 hi v hv
  · have bO := vIn_all hin ho'
    have eq : ∀ a b, Bd 24 a → Bd 24 b → vCross (vSub a o) (vSub b o) = crs (sb a o) (sb b o) := fun a b ha hb => by
      have s1 := sub_plain bO ha
      have s2 := sub_plain bO hb
      rw [(cross_plain s1.2 s2.2).1, s1.1, s2.1]
      rfl
    by_cases h1 : vCross (vSub B o) (vSub C o) = ⟨0, 0, 0⟩
    · by_cases h2 : vCross (vSub B o) (vSub A o) = ⟨0, 0, 0⟩
      · by_cases h3 : vCross (vSub A o) (vSub C o) = ⟨0, 0, 0⟩
        · exfalso
          rw [eq _ _ bB bC] at h1
          rw [eq _ _ bB bA] at h2
          rw [eq _ _ bA bC] at h3
          apply hX
          have x1 := congrArg V3.x h1
          have y1 := congrArg V3.y h1
          have z1 := congrArg V3.z h1
          have x2 := congrArg V3.x h2
          have y2 := congrArg V3.y h2
          have z2 := congrArg V3.z h2
          have x3 := congrArg V3.x h3
          have y3 := congrArg V3.y h3
          have z3 := congrArg V3.z h3
          unfold crs sb at x1 y1 z1 x2 y2 z2 x3 y3 z3
          simp only [] at x1 y1 z1 x2 y2 z2 x3 y3 z3
          apply v3_zero
          unfold crs sb
          simp only []
          refine ⟨?_, ?_, ?_⟩ <;> grind
        · exact ⟨A, C, hA, hC, hon.1, hon.2.2, h3⟩
      · exact ⟨B, A, hB, hA, hon.2.1, hon.1, h2⟩
    · exact ⟨B, C, hB, hC, hon.2.1, hon.2.2, h1⟩
end Go.Proofs.Ytccnlnkgoaelpaa
namespace Go.Proofs.Ytccnlnkgoaelpaa
open Go.RowKit Go.Shelf

def inP (p : Pl) (v : V3) : Bool := pSide p v == 0
theorem inP_yes {P : List V3} {p : Pl} {j : Nat} (hj : j < P.length) {a b c : Int} (hv : vAt P j = ⟨a, b, c⟩) (h : pSide p ⟨a, b, c⟩ = 0) : (P.take (j + 1)).filter (inP p) = (P.take j).filter (inP p) ++ [⟨a, b, c⟩] := by
  have e : P[j] = ⟨a, b, c⟩ := by rw [← hv]; unfold vAt; simp [List.getD_eq_getElem?_getD, hj]
  rw [List.take_succ_eq_append_getElem hj, e, List.filter_append]
  simp [inP, h]
theorem inP_no {P : List V3} {p : Pl} {j : Nat} (hj : j < P.length) {a b c : Int} (hv : vAt P j = ⟨a, b, c⟩) (h : ¬ pSide p ⟨a, b, c⟩ = 0) : (P.take (j + 1)).filter (inP p) = (P.take j).filter (inP p) := by
  have e : P[j] = ⟨a, b, c⟩ := by rw [← hv]; unfold vAt; simp [List.getD_eq_getElem?_getD, hj]
  rw [List.take_succ_eq_append_getElem hj, e, List.filter_append]
  simp [inP, h]
theorem mem_inP {P : List V3} {p : Pl} {v : V3} : v ∈ P.filter (inP p) ↔ v ∈ P ∧ pSide p v = 0 := by
  rw [List.mem_filter]; simp [inP]
/-- Two points of the list and its first one do not lie on a line. -/
def Xne (G : List V3) (i j : Nat) : Prop := vCross (vSub (vAt G i) (vAt G 0)) (vSub (vAt G j) (vAt G 0)) ≠ ⟨0, 0, 0⟩
theorem spans_ex {L : List V3} (h : hCheck L = 0) {p : Pl} (hp : p ∈ facets L) : 0 < (L.filter (inP p)).length ∧ ∃ i j, i < (L.filter (inP p)).length ∧ j < (L.filter (inP p)).length ∧ Xne (L.filter (inP p)) i j := by
  obtain ⟨_, _, hsp⟩ := facet_props h hp
  obtain ⟨_, _, hpos⟩ := check_ok h
  obtain ⟨a, b, ha, hb, sa, sb, _⟩ := hsp _ (vAt_mem hpos)
  have hG : 0 < (L.filter (inP p)).length := List.length_pos_of_mem (mem_inP.2 ⟨ha, sa⟩)
  refine ⟨hG, ?_⟩
  have ho := mem_inP.1 (vAt_mem hG)
  obtain ⟨a, b, ha, hb, sa, sb, hne⟩ := hsp _ ho.1
  obtain ⟨i, hi, ei⟩ := mem_vAt (mem_inP.2 ⟨ha, sa⟩)
  obtain ⟨j, hj, ej⟩ := mem_vAt (mem_inP.2 ⟨hb, sb⟩)
  exact ⟨i, j, hi, hj, by unfold Xne; rw [ei, ej]; exact hne⟩
theorem sorted_at {F : List Pl} (h : SortedL pLt F) {k : Nat} (hk : k + 1 < F.length) : pCompare (pAt F k) (pAt F (k + 1)) < 0 := by
  have q := List.pairwise_iff_getElem.1 h k (k + 1) (by omega) hk (by omega)
  have e1 : pAt F k = F[k] := by unfold pAt; simp [List.getD_eq_getElem?_getD, show k < F.length by omega]
  have e2 : pAt F (k + 1) = F[k + 1] := by unfold pAt; simp [List.getD_eq_getElem?_getD, hk]
  rw [e1, e2]
  simpa [pLt] using q
set_option maxRecDepth 100000 in
set_option maxHeartbeats 4000000 in
theorem law08_Supports_walk {A0 : Option Addr} {n0 c0 : Nat} {l : List Int} (w : World) (hl : SliceI w A0 n0 l) :
    Calls Try.prog 3 #[.slice A0 n0 c0] w fun e w' => e = .returned (.bool true) ∧ Below w.heap.size w w' := by
  have HLI := Lib.hid hl
  clear hl
  obtain ⟨i0, hi, hz0, hz1, hz2⟩ := info_parts infoVe
  go_enter Try.func3, Try.ntmps3
  go_wp2_with fail
  refine Calls.mono (law08_sanity _) ?_
  rintro e w1 ⟨rfl, hw⟩
  go_wp2_with fail
  refine Calls.mono (ref8_Points A0 n0 c0 l w1 (HLI.out.below hw)) ?_
  rintro e w2 ⟨⟨g, pc, P, rfl, hp4, hp8, hpc, hpm, hvp, hgb, hp11, hchk⟩, hbx⟩
  replace hw := Below.hop hw hbx
  have HVP := Lib.hid hvp
  have HCK := Lib.hid hchk
  clear hbx hvp hp11 hgb HLI
  obtain ⟨F, hF⟩ : ∃ F, facets P = F := ⟨_, rfl⟩
  have hfac := hull_Faces pc HVP.out hpc hpm
  have hff : hFaces P = F := (if_pos hchk).trans hF
  rw [hchk, hff] at hfac
  have HFAC := Lib.hid hfac
  have h4 := four_facets hchk
  have hlen := facets_len (show P.length ≤ 48 by omega)
  have hsort := sorted_facets P
  have hcl : ∀ i, i < (facets P).length → cl (pAt (facets P) i) = pAt (facets P) i := fun i hi => facets_cl (pAt_mem hi)
  have hpr : ∀ i, i < (facets P).length → pValid (pAt (facets P) i) = true ∧ (∀ v ∈ P, pSide (pAt (facets P) i) v ≤ 0) ∧ 0 < (P.filter (inP (pAt (facets P) i))).length ∧ ∃ a b, a < (P.filter (inP (pAt (facets P) i))).length ∧ b < (P.filter (inP (pAt (facets P) i))).length ∧ Xne (P.filter (inP (pAt (facets P) i))) a b := fun i hi => ⟨(facet_props hchk (pAt_mem hi)).1, (facet_props hchk (pAt_mem hi)).2.1, spans_ex hchk (pAt_mem hi)⟩
  rw [hF] at h4 hlen hsort hcl hpr
  have HSORT := Lib.hid hsort
  have HCL := Lib.hid hcl
  have HPR := Lib.hid hpr
  clear hfac hff hF hsort hcl hpr hchk
  obtain ⟨m, hm⟩ : ∃ m, P.length = m := ⟨_, rfl⟩
  have HM := Lib.hid hm
  rw [hm] at hp4 hp8 hpc HVP ⊢
  clear hm
  go_wp2_with fail
  rw [HM.out] at HFAC
  refine Calls.mono HFAC.out ?_
  rintro e w3 ⟨v, rfl, ⟨Af, cf, rfl, hcf1, hcf2, hpl, _⟩, hbx⟩
  have HVP3 := Lib.hid (HVP.out.below hbx)
  have HW3 := Lib.hid (Below.hop hw hbx)
  have HPF := Lib.hid hpl
  clear hbx hw HFAC hpl HVP
  obtain ⟨nF, hnF⟩ : ∃ n, F.length = n := ⟨_, rfl⟩
  have HNF := Lib.hid hnF
  rw [hnF] at h4 hlen hcf1 HPF ⊢
  clear hnF
  have h4i : (4 : Int) ≤ (nF : Int) := by omega
  have hnFi : (nF : Int) ≤ 230000 := by omega
  have hd4 : decide ((nF : Int) < 4) = false := decide_eq_false (by omega)
  have hm8i : (m : Int) ≤ 8 := by omega
  have hw : Below w3.heap.size w3 w3 := Below.refl _ _
  go_wp2
  go_loopw [34] (fun i wr => ∃ k : Nat, k ≤ nF ∧ i = .int .i64 k ∧ Below w3.heap.size w3 wr) (fun i _ => nF - (intOf i).toNat)
  case atStart => exact ⟨0, by omega, rfl, hw⟩
  case round =>
    clear hw
    obtain ⟨k, hk, rfl, hw⟩ := hrel
    by_cases hlt : k < nF
    · have hlt2 : (k : Int) < (nF : Int) := by omega
      obtain ⟨⟨⟨p0, p1, p2⟩, p3⟩, hX⟩ : ∃ X, pAt F k = X := ⟨_, rfl⟩
      obtain ⟨b, off, hA, hb, a1, a2, a3, a4⟩ := (HPF.out.below hw).cells hlt hX
      subst hA
      obtain ⟨hx, hy, hz, _⟩ : I64 p0 ∧ I64 p1 ∧ I64 p2 ∧ I64 p3 := by
        have q := cl_i64 (pAt F k)
        rw [HCL.out k (by rw [HNF.out]; exact hlt), hX] at q
        exact q
      obtain ⟨hval, hside, hgpos, hspan⟩ := HPR.out k (by rw [HNF.out]; exact hlt)
      rw [hX] at hval hside hgpos hspan
      have HVAL := Lib.hid (congrArg Value.bool hval)
      have HSIDE := Lib.hid hside
      have HSPAN := Lib.hid hspan
      have HGP := Lib.hid hgpos
      have HX := Lib.hid hX
      clear hval hside hspan hX hgpos
      go_wp2
      have po : Own (wr.alloc (.cells #[.int .i64 p0, .int .i64 p1, .int .i64 p2, .int .i64 p3] 33)) wr.heap.size #[.int .i64 p0, .int .i64 p1, .int .i64 p2, .int .i64 p3] := Own.new rfl
      have hw7 := hw.alloc hw.size (.cells #[.int .i64 p0, .int .i64 p1, .int .i64 p2, .int .i64 p3] 33)
      have hpbz : w3.heap.size ≤ wr.heap.size := hw.size
      clear a1 a2 a3 a4 hb hw
      generalize (wr.alloc (.cells #[.int .i64 p0, .int .i64 p1, .int .i64 p2, .int .i64 p3] 33)) = w7 at *
      generalize wr.heap.size = pb at *
      have hw := hw7
      clear hw7
      by_cases hk0 : k = 0
      · have hkp : (k : Int) ≤ 0 := by omega
        have hkd : decide ((0 : Int) < (k : Int)) = false := decide_eq_false (by omega)
        have hkn : ¬ 0 < k := by omega
        have hkdn : decide (0 < k) = false := decide_eq_false hkn
        clear hk0
        refine region_late 17 [] (by kernel_rfl) (by kernel_rfl) (by rfl) ?_
        apply Exists.intro
        refine ⟨fun v hv hne => ?_, fun u hu => ?_⟩
        · simp only [List.take_succ_cons, List.take_zero]
          have dpo := fun x => (po.later (v := v) (T := []) (by simp) x).cell
          repeat (go_big_quiet_step ((go_at_call 9; with_reducible exact lateB (callv (plane_Valid _ _ _ _ hx hy hz _) HVAL.out))))
          refine wpQuiet_nil ?_
          exact rfl
        · simp only [List.drop_succ_cons, List.drop_zero]
          replace po := po.below hu
          replace hw := Below.hop hw hu
          clear hu
          refine late_nil ?_
          (try simp only [Act.put, List.setIfInBounds_toArray, List.set_cons_zero, List.set_cons_succ])
          have poz := po.lt
          go_wp2
          go_loopw [9, 58] (fun v i wr => ∃ (j : Nat) (G : List V3), j ≤ m ∧ i = .int .i64 j ∧ G = (P.take j).filter (inP ⟨⟨p0, p1, p2⟩, p3⟩) ∧ Below w3.heap.size w3 wr ∧ u.heap.size ≤ wr.heap.size ∧ Own wr pb #[.int .i64 p0, .int .i64 p1, .int .i64 p2, .int .i64 p3] ∧ wr.ownsRow u.heap.size 31 3 v G.length (G.flatMap encV)) (fun _ i _ => m - (intOf i).toNat)
          case atStart => exact ⟨0, [], by omega, rfl, by simp, hw, Nat.le_refl _, po, World.ownsRow_nil _ _ _ _⟩
          case round =>
            clear hw po
            obtain ⟨j, G, hj, rfl, hG, hw, huz, po, hrow⟩ := hrel
            have HG := Lib.hid hG
            have HROW := Lib.hid hrow
            have hGl : G.length ≤ j := by rw [hG]; exact Nat.le_trans (List.length_filter_le _ _) (by rw [List.length_take]; omega)
            clear hG hrow
            by_cases hlj : j < m
            · have hlj2 : (j : Int) < (m : Int) := by omega
              obtain ⟨⟨x, y, z⟩, hV⟩ : ∃ X, vAt P j = X := ⟨_, rfl⟩
              obtain ⟨b', off', hA, hb, a1, a2, a3⟩ := (HVP3.out.below hw).cells hlj hV
              cases hA
              simp only [Nat.zero_add] at a1 a2 a3
              obtain ⟨s, hs⟩ : ∃ s, pSide ⟨⟨p0, p1, p2⟩, p3⟩ ⟨x, y, z⟩ = s := ⟨_, rfl⟩
              have hs0 : s ≤ 0 := by rw [← hs, ← hV]; exact HSIDE.out _ (vAt_mem (by rw [HM.out]; exact hlj))
              have HS := Lib.hid (congrArg (Value.int IntKind.i64) hs)
              have HSI := Lib.hid hs
              have HV := Lib.hid hV
              clear hs hV
              have poc := po.cell
              have poz2 := po.lt
              go_wp2_with fail
              refine Calls.mono (callv (plane_Side _ _ _ _ _ _ _ hx hy hz _) HS.out) ?_
              rintro e w8 ⟨rfl, hbx⟩
              have vo : Own w8 wr.heap.size #[.int .i64 x, .int .i64 y, .int .i64 z] := Own.below (Own.new rfl) hbx
              have hbA : Below wr.heap.size wr w8 := Below.hop ((Below.refl _ _).alloc (Nat.le_refl _) _) hbx
              have HROW8 := Lib.hid (rowk_below HROW.out hbA)
              replace po := po.below hbA
              replace hw := Below.hop hw hbA
              have huz8 : u.heap.size ≤ w8.heap.size := Nat.le_trans huz hbA.size
              clear hbx hbA HROW a1 a2 a3 hb HS poc poz2
              have voc := vo.cell
              have voz := vo.lt
              by_cases hs1 : s = 0
              · subst hs1
                have hG1 := inP_yes (p := ⟨⟨p0, p1, p2⟩, p3⟩) (by rw [HM.out]; exact hlj) HV.out HSI.out
                rw [← HG.out] at hG1
                have HG1 := Lib.hid hG1
                clear hG1
                go_wp2_with (at_builtin; refine wpList_append_lies _ rfl _ _ _ (by rfl) u.heap.size 31 i0 (.agg #[.int .i64 0, .int .i64 0, .int .i64 0]) 3 24 Try.underlying24 hi hz0 hz1 hz2 rfl (by omega) _ G.length (G.flatMap encV) (by rfl) ?c0 ⟨w8.heap.size, 0, none⟩ 1 1 [.int .i64 x, .int .i64 y, .int .i64 z] (by rfl) rfl ?c1 ?c2 (by omega) ?c3 ?c4 ?c5 (w8.heap.size + 1) (by simp) ?_)
                case c0 => exact rowk_below HROW8.out ((Below.refl _ _).alloc (Nat.le_refl _) _)
                case c1 => exact World.news_of_block (new_at rfl)
                case c2 => intro q hq; simp at hq; rcases hq with rfl | rfl | rfl <;> rfl
                case c3 => unfold maxLen; omega
                case c4 => omega
                case c5 => simp; omega
                intro g9 c9 w9 ho9 hg9 hat9 hlt9
                have hrb : ∀ r, u9.ownBlock = some r → u.heap.size ≤ r := fun r e => ownBlock_ge HROW8.out e
                have hz3 := HW3.out.size
                have hw9 : Below w3.heap.size w3 w9 := Below.grown (hw.alloc hw.size _) hg9 (by have := hw.size; simp; omega) (fun r e => by have := hrb r e; omega)
                have po9 : Own w9 pb #[.int .i64 p0, .int .i64 p1, .int .i64 p2, .int .i64 p3] := own_grown (po.alloc _) hg9 (fun r e => by have := hrb r e; omega)
                have hu9 : u.heap.size ≤ w9.heap.size := by have := hg9.size; simp at this; omega
                have ho10 : w9.ownsRow u.heap.size 31 3 (.slice (some ⟨g9, 0, none⟩) (G.length + 1) c9) (G ++ [(⟨x, y, z⟩ : V3)]).length ((G ++ [(⟨x, y, z⟩ : V3)]).flatMap encV) := by rw [flat_snoc, List.length_append]; exact ho9
                have HO10 := Lib.hid ho10
                clear ho9 ho10 hg9 hat9 hlt9 hrb
                go_wp2
                go_roundw
                case rel => exact ⟨j + 1, G ++ [⟨x, y, z⟩], by omega, by go_num, HG1.out.symm, hw9, hu9, po9, HO10.out⟩
                case measure => simp [intOf]; omega
              · have hs2 : ¬ 0 < s := by omega
                have hG1 := inP_no (p := ⟨⟨p0, p1, p2⟩, p3⟩) (by rw [HM.out]; exact hlj) HV.out (by rw [HSI.out]; exact hs1)
                rw [← HG.out] at hG1
                have HG1 := Lib.hid hG1
                clear hG1
                go_wp2
                go_roundw
                case rel => exact ⟨j + 1, G, by omega, by go_num, HG1.out.symm, hw, huz8, po, HROW8.out⟩
                case measure => simp [intOf]; omega
            · obtain rfl : j = m := by omega
              have hGP : G = P.filter (inP ⟨⟨p0, p1, p2⟩, p3⟩) := by
                have q := HG.out
                rw [List.take_of_length_le (by rw [HM.out]; exact Nat.le_refl _)] at q
                exact q
              have hgpos := HGP.out
              have hspan := HSPAN.out
              rw [← hGP] at hgpos hspan
              obtain ⟨A9, c9, he9, hc91, hc92, hv9, _⟩ := vecs_of_row' rfl HROW.out
              subst he9
              obtain ⟨nG, hnG⟩ : ∃ n, G.length = n := ⟨_, rfl⟩
              rw [hnG] at hgpos hspan hv9 hc91 hGl ⊢
              have HSP := Lib.hid hspan
              have HV9 := Lib.hid hv9
              have HWL := Lib.hid (Below.hop HW3.out hw)
              have HWO := Lib.hid hw
              have hnGi : (nG : Int) ≤ 8 := by omega
              have hg0 : (0 : Int) < (nG : Int) := by omega
              clear hspan hv9 hw po HROW HG huz HSIDE HSPAN HVAL hGP hnG HGP
              generalize wr = wL at *
              have hw : Below wL.heap.size wL wL := Below.refl _ _
              go_wp2
              go_loopw [13, 76] (fun s i wr => ∃ (i1 : Nat) (bb : Bool), i1 ≤ nG ∧ i = .int .i64 i1 ∧ s = .bool bb ∧ Below wL.heap.size wL wr ∧ ∀ i' j', i' < i1 → j' < nG → Xne G i' j' → bb = true) (fun _ i _ => nG - (intOf i).toNat)
              case atStart => exact ⟨0, false, by omega, rfl, rfl, hw, fun i' j' h => by omega⟩
              case round =>
                clear hw
                obtain ⟨i1, bb, hi1, rfl, rfl, hw, hall⟩ := hrel
                have HALL := Lib.hid hall
                clear hall
                by_cases hli : i1 < nG
                · have hli2 : (i1 : Int) < (nG : Int) := by omega
                  go_wp2
                  go_loopw [13, 81] (fun s i wr => ∃ (j1 : Nat) (bc : Bool), j1 ≤ nG ∧ i = .int .i64 j1 ∧ s = .bool bc ∧ Below wL.heap.size wL wr ∧ (∀ i' j', i' < i1 → j' < nG → Xne G i' j' → bc = true) ∧ ∀ j', j' < j1 → Xne G i1 j' → bc = true) (fun _ i _ => nG - (intOf i).toNat)
                  case atStart => exact ⟨0, bb, by omega, rfl, rfl, hw, HALL.out, fun j' h => by omega⟩
                  case round =>
                    clear hw HALL
                    obtain ⟨j1, bc, hj1, rfl, rfl, hw, hall, hin⟩ := hrel
                    have HALL := Lib.hid hall
                    have HIN := Lib.hid hin
                    clear hall hin
                    by_cases hlj : j1 < nG
                    · have hlj2 : (j1 : Int) < (nG : Int) := by omega
                      obtain ⟨⟨x0, y0, z0⟩, hX0⟩ : ∃ X, vAt G i1 = X := ⟨_, rfl⟩
                      obtain ⟨⟨x1, y1, z1⟩, hX1⟩ : ∃ X, vAt G 0 = X := ⟨_, rfl⟩
                      obtain ⟨⟨x2, y2, z2⟩, hX2⟩ : ∃ X, vAt G j1 = X := ⟨_, rfl⟩
                      obtain ⟨b9, off9, hA, hb, a1, a2, a3⟩ := (HV9.out.below hw).cells hli hX0
                      subst hA
                      obtain ⟨b', off', hA, _, b1, b2, b3⟩ := (HV9.out.below hw).cells (k := 0) hgpos hX1
                      cases hA
                      obtain ⟨b', off', hA, _, c1, c2, c3⟩ := (HV9.out.below hw).cells hlj hX2
                      cases hA
                      simp only [Nat.zero_mul, Nat.add_zero] at b1 b2 b3
                      obtain ⟨⟨d0, d1, d2⟩, hD⟩ : ∃ X, vSub ⟨x0, y0, z0⟩ ⟨x1, y1, z1⟩ = X := ⟨_, rfl⟩
                      obtain ⟨⟨e0, e1, e2⟩, hE⟩ : ∃ X, vSub ⟨x2, y2, z2⟩ ⟨x1, y1, z1⟩ = X := ⟨_, rfl⟩
                      obtain ⟨⟨f0, f1, f2⟩, hC⟩ : ∃ X, vCross ⟨d0, d1, d2⟩ ⟨e0, e1, e2⟩ = X := ⟨_, rfl⟩
                      have HDV := Lib.hid (congrArg V3.v hD)
                      have HEV := Lib.hid (congrArg V3.v hE)
                      have HCV := Lib.hid (congrArg V3.v hC)
                      have HXC := Lib.hid (show vCross (vSub (vAt G i1) (vAt G 0)) (vSub (vAt G j1) (vAt G 0)) = ⟨f0, f1, f2⟩ by rw [hX0, hX1, hX2, hD, hE, hC])
                      clear hX0 hX1 hX2 hD hE hC
                      go_wp2
                      have hz3 := hw.size
                      have da1 := fun v => later_cell (v := v) (T := []) hb (by simp) a1
                      have da2 := fun v => later_cell (v := v) (T := []) hb (by simp) a2
                      have da3 := fun v => later_cell (v := v) (T := []) hb (by simp) a3
                      have db1 := fun v => later_cell (v := v) (T := []) hb (by simp) b1
                      have db2 := fun v => later_cell (v := v) (T := []) hb (by simp) b2
                      have db3 := fun v => later_cell (v := v) (T := []) hb (by simp) b3
                      have dc1 := fun v => later_cell (v := v) (T := []) hb (by simp) c1
                      have dc2 := fun v => later_cell (v := v) (T := []) hb (by simp) c2
                      have dc3 := fun v => later_cell (v := v) (T := []) hb (by simp) c3
                      refine region_late 17 [] (by kernel_rfl) (by kernel_rfl) (by rfl) ?_
                      apply Exists.intro
                      refine ⟨fun v hv hne => ?_, fun u hu => ?_⟩
                      · simp only [List.take_succ_cons, List.take_zero]
                        repeat (go_big_quiet_step ((first | (go_at_call 13; with_reducible exact lateB (callv (plane_Sub _ _ _ _ _ _ _) HDV.out)) | (go_at_call 13; with_reducible exact lateB (callv (plane_Sub _ _ _ _ _ _ _) HEV.out)) | (go_at_call 12; with_reducible exact lateB (callv (plane_Cross _ _ _ _ _ _ _) HCV.out)))))
                        refine wpQuiet_nil ?_
                        exact rfl
                      · simp only [List.drop_succ_cons, List.drop_zero]
                        skip
                        refine late_mem (fun K hK => ?_)
                        go_simp
                        refine hK _ _ ((Keeps.of_below hu).alloc _) (fun u2 hu2 => ?_)
                        clear hK K
                        have hk2 : Keeps [] wr u2 := ((Keeps.of_below (T := []) hu).alloc _).later hu2
                        have Q : Own u2 u.heap.size #[.int .i64 0, .int .i64 0, .int .i64 0] := Own.below (Own.new rfl) hu2
                        have Qc := Q.cell
                        have Qf := Q.thaw
                        have Qg : wr.heap.size ≤ u.heap.size := hu.size
                        replace hw := Below.hop ((Below.hop hw hu).alloc (by have := hw.size; have := hu.size; omega) _) hu2
                        have hwz := hw.size
                        have Qy : wL.heap.size ≤ u.heap.size := by omega
                        refine late_mem (fun K hK => ?_)
                        go_simp
                        refine hK _ _ (((hk2.new Qg _).new Qg _).new Qg _) (fun u3 hu3 => ?_)
                        clear hK K
                        have hk3 : Keeps [] wr u3 := (((hk2.new Qg _).new Qg _).new Qg _).later hu3
                        replace Q : Own u3 u.heap.size #[.int .i64 f0, .int .i64 f1, .int .i64 f2] := (((Q.set 0 _).set 1 _).set 2 _).below hu3
                        replace hw := Below.hop (((hw.setCell Qy _).setCell Qy _).setCell Qy _) hu3
                        clear Qc Qf hk2
                        refine late_nil ?_
                        (try simp only [Act.put, List.setIfInBounds_toArray, List.set_cons_zero, List.set_cons_succ])
                        clear hk3 hu hu2 hu3 hwz
                        generalize u.heap.size = Qb at *
                        replace hz := hw.size
                        clear u
                        replace Qc := Q.cell
                        replace Qf := Q.thaw
                        replace Qz := Q.lt
                        clear a1 a2 a3 b1 b2 b3 c1 c2 c3 da1 da2 da3 db1 db2 db3 dc1 dc2 dc3 HDV HEV HCV
                        cases bc
                        · by_cases hf : (⟨f0, f1, f2⟩ : V3) = ⟨0, 0, 0⟩
                          · injection hf with hf0 hf1 hf2
                            subst hf0
                            subst hf1
                            subst hf2
                            go_wp2
                            go_roundw
                            case rel =>
                              refine ⟨j1 + 1, false, by omega, by go_num, rfl, hw, HALL.out, fun j' hj' hx => ?_⟩
                              rcases Nat.lt_or_ge j' j1 with h | h
                              · exact HIN.out j' h hx
                              · obtain rfl : j' = j1 := by omega
                                exact absurd HXC.out hx
                            case measure => simp [intOf]; omega
                          · have HNE := Lib.hid (V3.ne_cases hf)
                            clear hf
                            rcases HNE.out with hf | hf | hf
                            all_goals go_wp2
                            all_goals go_roundw
                            all_goals (first | exact ⟨j1 + 1, true, by omega, by go_num, rfl, hw, fun _ _ _ _ _ => rfl, fun _ _ _ => rfl⟩ | (simp [intOf]; omega))
                        · go_wp2
                          go_roundw
                          case rel => exact ⟨j1 + 1, true, by omega, by go_num, rfl, hw, fun _ _ _ _ _ => rfl, fun _ _ _ => rfl⟩
                          case measure => simp [intOf]; omega
                    · obtain rfl : j1 = nG := by omega
                      go_wp2
                      go_roundw
                      case rel =>
                        refine ⟨i1 + 1, bc, by omega, by go_num, rfl, hw, fun i' j' hi' hj' hx => ?_⟩
                        rcases Nat.lt_or_ge i' i1 with h | h
                        · exact HALL.out i' j' h hj' hx
                        · obtain rfl : i' = i1 := by omega
                          exact HIN.out j' hj' hx
                      case measure => simp [intOf]; omega
                · obtain rfl : i1 = nG := by omega
                  obtain rfl : bb = true := by
                    obtain ⟨a, b, ha, hb, hx⟩ := HSP.out
                    exact HALL.out a b ha hb hx
                  have hwe := HWO.out.trans (hw.mono HWO.out.size)
                  go_wp2
                  go_roundw
                  case rel => exact ⟨k + 1, by omega, by go_num, hwe⟩
                  case measure => simp [intOf]; omega
      · skip
        obtain ⟨k1, hk1⟩ : ∃ k1 : Nat, (k : Int) - 1 = (k1 : Int) := ⟨k - 1, by omega⟩
        have hk1k : k1 + 1 = k := by omega
        have hk1n : k1 < nF := by omega
        have hk1i : (k1 : Int) < (nF : Int) := by omega
        have hcmp := sorted_at HSORT.out (k := k1) (by rw [HNF.out]; omega)
        rw [hk1k, HX.out] at hcmp
        clear hk1k
        obtain ⟨⟨⟨r0, r1, r2⟩, r3⟩, hR⟩ : ∃ X, pAt F k1 = X := ⟨_, rfl⟩
        rw [hR] at hcmp
        obtain ⟨b', off', hA, hb, a1, a2, a3, a4⟩ := (HPF.out.below hw).cells hk1n hR
        cases hA
        obtain ⟨s, hs⟩ : ∃ s, pCompare ⟨⟨r0, r1, r2⟩, r3⟩ ⟨⟨p0, p1, p2⟩, p3⟩ = s := ⟨_, rfl⟩
        rw [hs] at hcmp
        have HS := Lib.hid (congrArg (Value.int IntKind.i64) hs)
        have hkp : (0 : Int) < (k : Int) := by omega
        have hkd : decide ((0 : Int) < (k : Int)) = true := decide_eq_true hkp
        have hkn : 0 < k := by omega
        have hkdn : decide (0 < k) = true := decide_eq_true hkn
        have hns : ¬ 0 ≤ s := by omega
        clear hs hR
        refine region_late 17 [] (by kernel_rfl) (by kernel_rfl) (by rfl) ?_
        apply Exists.intro
        refine ⟨fun v hv hne => ?_, fun u hu => ?_⟩
        · simp only [List.take_succ_cons, List.take_zero]
          have dpo := fun x => (po.later (v := v) (T := []) (by simp) x).cell
          have da1 := later_cell (v := v) (T := []) hb (by simp) a1
          have da2 := later_cell (v := v) (T := []) hb (by simp) a2
          have da3 := later_cell (v := v) (T := []) hb (by simp) a3
          have da4 := later_cell (v := v) (T := []) hb (by simp) a4
          repeat (go_big_quiet_step ((first | (go_at_call 9; with_reducible exact lateB (callv (plane_Valid _ _ _ _ hx hy hz _) HVAL.out)) | (go_at_call 10; with_reducible exact lateB (callv (plane_Compare _ _ _ _ _ _ _ _ _) HS.out)))))
          refine wpQuiet_nil ?_
          exact rfl
        · simp only [List.drop_succ_cons, List.drop_zero]
          clear a1 a2 a3 a4 hb HS hcmp hk1 hk1n hk1i
          replace po := po.below hu
          replace hw := Below.hop hw hu
          clear hu
          refine late_nil ?_
          (try simp only [Act.put, List.setIfInBounds_toArray, List.set_cons_zero, List.set_cons_succ])
          have poz := po.lt
          go_wp2
          go_loopw [9, 58] (fun v i wr => ∃ (j : Nat) (G : List V3), j ≤ m ∧ i = .int .i64 j ∧ G = (P.take j).filter (inP ⟨⟨p0, p1, p2⟩, p3⟩) ∧ Below w3.heap.size w3 wr ∧ u.heap.size ≤ wr.heap.size ∧ Own wr pb #[.int .i64 p0, .int .i64 p1, .int .i64 p2, .int .i64 p3] ∧ wr.ownsRow u.heap.size 31 3 v G.length (G.flatMap encV)) (fun _ i _ => m - (intOf i).toNat)
          case atStart => exact ⟨0, [], by omega, rfl, by simp, hw, Nat.le_refl _, po, World.ownsRow_nil _ _ _ _⟩
          case round =>
            clear hw po
            obtain ⟨j, G, hj, rfl, hG, hw, huz, po, hrow⟩ := hrel
            have HG := Lib.hid hG
            have HROW := Lib.hid hrow
            have hGl : G.length ≤ j := by rw [hG]; exact Nat.le_trans (List.length_filter_le _ _) (by rw [List.length_take]; omega)
            clear hG hrow
            by_cases hlj : j < m
            · have hlj2 : (j : Int) < (m : Int) := by omega
              obtain ⟨⟨x, y, z⟩, hV⟩ : ∃ X, vAt P j = X := ⟨_, rfl⟩
              obtain ⟨b', off', hA, hb, a1, a2, a3⟩ := (HVP3.out.below hw).cells hlj hV
              cases hA
              simp only [Nat.zero_add] at a1 a2 a3
              obtain ⟨s, hs⟩ : ∃ s, pSide ⟨⟨p0, p1, p2⟩, p3⟩ ⟨x, y, z⟩ = s := ⟨_, rfl⟩
              have hs0 : s ≤ 0 := by rw [← hs, ← hV]; exact HSIDE.out _ (vAt_mem (by rw [HM.out]; exact hlj))
              have HS := Lib.hid (congrArg (Value.int IntKind.i64) hs)
              have HSI := Lib.hid hs
              have HV := Lib.hid hV
              clear hs hV
              have poc := po.cell
              have poz2 := po.lt
              go_wp2_with fail
              refine Calls.mono (callv (plane_Side _ _ _ _ _ _ _ hx hy hz _) HS.out) ?_
              rintro e w8 ⟨rfl, hbx⟩
              have vo : Own w8 wr.heap.size #[.int .i64 x, .int .i64 y, .int .i64 z] := Own.below (Own.new rfl) hbx
              have hbA : Below wr.heap.size wr w8 := Below.hop ((Below.refl _ _).alloc (Nat.le_refl _) _) hbx
              have HROW8 := Lib.hid (rowk_below HROW.out hbA)
              replace po := po.below hbA
              replace hw := Below.hop hw hbA
              have huz8 : u.heap.size ≤ w8.heap.size := Nat.le_trans huz hbA.size
              clear hbx hbA HROW a1 a2 a3 hb HS poc poz2
              have voc := vo.cell
              have voz := vo.lt
              by_cases hs1 : s = 0
              · subst hs1
                have hG1 := inP_yes (p := ⟨⟨p0, p1, p2⟩, p3⟩) (by rw [HM.out]; exact hlj) HV.out HSI.out
                rw [← HG.out] at hG1
                have HG1 := Lib.hid hG1
                clear hG1
                go_wp2_with (at_builtin; refine wpList_append_lies _ rfl _ _ _ (by rfl) u.heap.size 31 i0 (.agg #[.int .i64 0, .int .i64 0, .int .i64 0]) 3 24 Try.underlying24 hi hz0 hz1 hz2 rfl (by omega) _ G.length (G.flatMap encV) (by rfl) ?c0 ⟨w8.heap.size, 0, none⟩ 1 1 [.int .i64 x, .int .i64 y, .int .i64 z] (by rfl) rfl ?c1 ?c2 (by omega) ?c3 ?c4 ?c5 (w8.heap.size + 1) (by simp) ?_)
                case c0 => exact rowk_below HROW8.out ((Below.refl _ _).alloc (Nat.le_refl _) _)
                case c1 => exact World.news_of_block (new_at rfl)
                case c2 => intro q hq; simp at hq; rcases hq with rfl | rfl | rfl <;> rfl
                case c3 => unfold maxLen; omega
                case c4 => omega
                case c5 => simp; omega
                intro g9 c9 w9 ho9 hg9 hat9 hlt9
                have hrb : ∀ r, u9.ownBlock = some r → u.heap.size ≤ r := fun r e => ownBlock_ge HROW8.out e
                have hz3 := HW3.out.size
                have hw9 : Below w3.heap.size w3 w9 := Below.grown (hw.alloc hw.size _) hg9 (by have := hw.size; simp; omega) (fun r e => by have := hrb r e; omega)
                have po9 : Own w9 pb #[.int .i64 p0, .int .i64 p1, .int .i64 p2, .int .i64 p3] := own_grown (po.alloc _) hg9 (fun r e => by have := hrb r e; omega)
                have hu9 : u.heap.size ≤ w9.heap.size := by have := hg9.size; simp at this; omega
                have ho10 : w9.ownsRow u.heap.size 31 3 (.slice (some ⟨g9, 0, none⟩) (G.length + 1) c9) (G ++ [(⟨x, y, z⟩ : V3)]).length ((G ++ [(⟨x, y, z⟩ : V3)]).flatMap encV) := by rw [flat_snoc, List.length_append]; exact ho9
                have HO10 := Lib.hid ho10
                clear ho9 ho10 hg9 hat9 hlt9 hrb
                go_wp2
                go_roundw
                case rel => exact ⟨j + 1, G ++ [⟨x, y, z⟩], by omega, by go_num, HG1.out.symm, hw9, hu9, po9, HO10.out⟩
                case measure => simp [intOf]; omega
              · have hs2 : ¬ 0 < s := by omega
                have hG1 := inP_no (p := ⟨⟨p0, p1, p2⟩, p3⟩) (by rw [HM.out]; exact hlj) HV.out (by rw [HSI.out]; exact hs1)
                rw [← HG.out] at hG1
                have HG1 := Lib.hid hG1
                clear hG1
                go_wp2
                go_roundw
                case rel => exact ⟨j + 1, G, by omega, by go_num, HG1.out.symm, hw, huz8, po, HROW8.out⟩
                case measure => simp [intOf]; omega
            · obtain rfl : j = m := by omega
              have hGP : G = P.filter (inP ⟨⟨p0, p1, p2⟩, p3⟩) := by
                have q := HG.out
                rw [List.take_of_length_le (by rw [HM.out]; exact Nat.le_refl _)] at q
                exact q
              have hgpos := HGP.out
              have hspan := HSPAN.out
              rw [← hGP] at hgpos hspan
              obtain ⟨A9, c9, he9, hc91, hc92, hv9, _⟩ := vecs_of_row' rfl HROW.out
              subst he9
              obtain ⟨nG, hnG⟩ : ∃ n, G.length = n := ⟨_, rfl⟩
              rw [hnG] at hgpos hspan hv9 hc91 hGl ⊢
              have HSP := Lib.hid hspan
              have HV9 := Lib.hid hv9
              have HWL := Lib.hid (Below.hop HW3.out hw)
              have HWO := Lib.hid hw
              have hnGi : (nG : Int) ≤ 8 := by omega
              have hg0 : (0 : Int) < (nG : Int) := by omega
              clear hspan hv9 hw po HROW HG huz HSIDE HSPAN HVAL hGP hnG HGP
              generalize wr = wL at *
              have hw : Below wL.heap.size wL wL := Below.refl _ _
              go_wp2
              go_loopw [13, 76] (fun s i wr => ∃ (i1 : Nat) (bb : Bool), i1 ≤ nG ∧ i = .int .i64 i1 ∧ s = .bool bb ∧ Below wL.heap.size wL wr ∧ ∀ i' j', i' < i1 → j' < nG → Xne G i' j' → bb = true) (fun _ i _ => nG - (intOf i).toNat)
              case atStart => exact ⟨0, false, by omega, rfl, rfl, hw, fun i' j' h => by omega⟩
              case round =>
                clear hw
                obtain ⟨i1, bb, hi1, rfl, rfl, hw, hall⟩ := hrel
                have HALL := Lib.hid hall
                clear hall
                by_cases hli : i1 < nG
                · have hli2 : (i1 : Int) < (nG : Int) := by omega
                  go_wp2
                  go_loopw [13, 81] (fun s i wr => ∃ (j1 : Nat) (bc : Bool), j1 ≤ nG ∧ i = .int .i64 j1 ∧ s = .bool bc ∧ Below wL.heap.size wL wr ∧ (∀ i' j', i' < i1 → j' < nG → Xne G i' j' → bc = true) ∧ ∀ j', j' < j1 → Xne G i1 j' → bc = true) (fun _ i _ => nG - (intOf i).toNat)
                  case atStart => exact ⟨0, bb, by omega, rfl, rfl, hw, HALL.out, fun j' h => by omega⟩
                  case round =>
                    clear hw HALL
                    obtain ⟨j1, bc, hj1, rfl, rfl, hw, hall, hin⟩ := hrel
                    have HALL := Lib.hid hall
                    have HIN := Lib.hid hin
                    clear hall hin
                    by_cases hlj : j1 < nG
                    · have hlj2 : (j1 : Int) < (nG : Int) := by omega
                      obtain ⟨⟨x0, y0, z0⟩, hX0⟩ : ∃ X, vAt G i1 = X := ⟨_, rfl⟩
                      obtain ⟨⟨x1, y1, z1⟩, hX1⟩ : ∃ X, vAt G 0 = X := ⟨_, rfl⟩
                      obtain ⟨⟨x2, y2, z2⟩, hX2⟩ : ∃ X, vAt G j1 = X := ⟨_, rfl⟩
                      obtain ⟨b9, off9, hA, hb, a1, a2, a3⟩ := (HV9.out.below hw).cells hli hX0
                      subst hA
                      obtain ⟨b', off', hA, _, b1, b2, b3⟩ := (HV9.out.below hw).cells (k := 0) hgpos hX1
                      cases hA
                      obtain ⟨b', off', hA, _, c1, c2, c3⟩ := (HV9.out.below hw).cells hlj hX2
                      cases hA
                      simp only [Nat.zero_mul, Nat.add_zero] at b1 b2 b3
                      obtain ⟨⟨d0, d1, d2⟩, hD⟩ : ∃ X, vSub ⟨x0, y0, z0⟩ ⟨x1, y1, z1⟩ = X := ⟨_, rfl⟩
                      obtain ⟨⟨e0, e1, e2⟩, hE⟩ : ∃ X, vSub ⟨x2, y2, z2⟩ ⟨x1, y1, z1⟩ = X := ⟨_, rfl⟩
                      obtain ⟨⟨f0, f1, f2⟩, hC⟩ : ∃ X, vCross ⟨d0, d1, d2⟩ ⟨e0, e1, e2⟩ = X := ⟨_, rfl⟩
                      have HDV := Lib.hid (congrArg V3.v hD)
                      have HEV := Lib.hid (congrArg V3.v hE)
                      have HCV := Lib.hid (congrArg V3.v hC)
                      have HXC := Lib.hid (show vCross (vSub (vAt G i1) (vAt G 0)) (vSub (vAt G j1) (vAt G 0)) = ⟨f0, f1, f2⟩ by rw [hX0, hX1, hX2, hD, hE, hC])
                      clear hX0 hX1 hX2 hD hE hC
                      go_wp2
                      have hz3 := hw.size
                      have da1 := fun v => later_cell (v := v) (T := []) hb (by simp) a1
                      have da2 := fun v => later_cell (v := v) (T := []) hb (by simp) a2
                      have da3 := fun v => later_cell (v := v) (T := []) hb (by simp) a3
                      have db1 := fun v => later_cell (v := v) (T := []) hb (by simp) b1
                      have db2 := fun v => later_cell (v := v) (T := []) hb (by simp) b2
                      have db3 := fun v => later_cell (v := v) (T := []) hb (by simp) b3
                      have dc1 := fun v => later_cell (v := v) (T := []) hb (by simp) c1
                      have dc2 := fun v => later_cell (v := v) (T := []) hb (by simp) c2
                      have dc3 := fun v => later_cell (v := v) (T := []) hb (by simp) c3
                      refine region_late 17 [] (by kernel_rfl) (by kernel_rfl) (by rfl) ?_
                      apply Exists.intro
                      refine ⟨fun v hv hne => ?_, fun u hu => ?_⟩
                      · simp only [List.take_succ_cons, List.take_zero]
                        repeat (go_big_quiet_step ((first | (go_at_call 13; with_reducible exact lateB (callv (plane_Sub _ _ _ _ _ _ _) HDV.out)) | (go_at_call 13; with_reducible exact lateB (callv (plane_Sub _ _ _ _ _ _ _) HEV.out)) | (go_at_call 12; with_reducible exact lateB (callv (plane_Cross _ _ _ _ _ _ _) HCV.out)))))
                        refine wpQuiet_nil ?_
                        exact rfl
                      · simp only [List.drop_succ_cons, List.drop_zero]
                        skip
                        refine late_mem (fun K hK => ?_)
                        go_simp
                        refine hK _ _ ((Keeps.of_below hu).alloc _) (fun u2 hu2 => ?_)
                        clear hK K
                        have hk2 : Keeps [] wr u2 := ((Keeps.of_below (T := []) hu).alloc _).later hu2
                        have Q : Own u2 u.heap.size #[.int .i64 0, .int .i64 0, .int .i64 0] := Own.below (Own.new rfl) hu2
                        have Qc := Q.cell
                        have Qf := Q.thaw
                        have Qg : wr.heap.size ≤ u.heap.size := hu.size
                        replace hw := Below.hop ((Below.hop hw hu).alloc (by have := hw.size; have := hu.size; omega) _) hu2
                        have hwz := hw.size
                        have Qy : wL.heap.size ≤ u.heap.size := by omega
                        refine late_mem (fun K hK => ?_)
                        go_simp
                        refine hK _ _ (((hk2.new Qg _).new Qg _).new Qg _) (fun u3 hu3 => ?_)
                        clear hK K
                        have hk3 : Keeps [] wr u3 := (((hk2.new Qg _).new Qg _).new Qg _).later hu3
                        replace Q : Own u3 u.heap.size #[.int .i64 f0, .int .i64 f1, .int .i64 f2] := (((Q.set 0 _).set 1 _).set 2 _).below hu3
                        replace hw := Below.hop (((hw.setCell Qy _).setCell Qy _).setCell Qy _) hu3
                        clear Qc Qf hk2
                        refine late_nil ?_
                        (try simp only [Act.put, List.setIfInBounds_toArray, List.set_cons_zero, List.set_cons_succ])
                        clear hk3 hu hu2 hu3 hwz
                        generalize u.heap.size = Qb at *
                        replace hz := hw.size
                        clear u
                        replace Qc := Q.cell
                        replace Qf := Q.thaw
                        replace Qz := Q.lt
                        clear a1 a2 a3 b1 b2 b3 c1 c2 c3 da1 da2 da3 db1 db2 db3 dc1 dc2 dc3 HDV HEV HCV
                        cases bc
                        · by_cases hf : (⟨f0, f1, f2⟩ : V3) = ⟨0, 0, 0⟩
                          · injection hf with hf0 hf1 hf2
                            subst hf0
                            subst hf1
                            subst hf2
                            go_wp2
                            go_roundw
                            case rel =>
                              refine ⟨j1 + 1, false, by omega, by go_num, rfl, hw, HALL.out, fun j' hj' hx => ?_⟩
                              rcases Nat.lt_or_ge j' j1 with h | h
                              · exact HIN.out j' h hx
                              · obtain rfl : j' = j1 := by omega
                                exact absurd HXC.out hx
                            case measure => simp [intOf]; omega
                          · have HNE := Lib.hid (V3.ne_cases hf)
                            clear hf
                            rcases HNE.out with hf | hf | hf
                            all_goals go_wp2
                            all_goals go_roundw
                            all_goals (first | exact ⟨j1 + 1, true, by omega, by go_num, rfl, hw, fun _ _ _ _ _ => rfl, fun _ _ _ => rfl⟩ | (simp [intOf]; omega))
                        · go_wp2
                          go_roundw
                          case rel => exact ⟨j1 + 1, true, by omega, by go_num, rfl, hw, fun _ _ _ _ _ => rfl, fun _ _ _ => rfl⟩
                          case measure => simp [intOf]; omega
                    · obtain rfl : j1 = nG := by omega
                      go_wp2
                      go_roundw
                      case rel =>
                        refine ⟨i1 + 1, bc, by omega, by go_num, rfl, hw, fun i' j' hi' hj' hx => ?_⟩
                        rcases Nat.lt_or_ge i' i1 with h | h
                        · exact HALL.out i' j' h hj' hx
                        · obtain rfl : i' = i1 := by omega
                          exact HIN.out j' hj' hx
                      case measure => simp [intOf]; omega
                · obtain rfl : i1 = nG := by omega
                  obtain rfl : bb = true := by
                    obtain ⟨a, b, ha, hb, hx⟩ := HSP.out
                    exact HALL.out a b ha hb hx
                  have hwe := HWO.out.trans (hw.mono HWO.out.size)
                  go_wp2
                  go_roundw
                  case rel => exact ⟨k + 1, by omega, by go_num, hwe⟩
                  case measure => simp [intOf]; omega
    · obtain rfl : k = nF := by omega
      go_wp2
      go_ret
      exact ⟨rfl, Below.hop HW3.out hw⟩
end Go.Proofs.Ytccnlnkgoaelpaa
namespace Go.Proofs.Ytccnlnkgoaelpaa.hullSupportsDone
open Go.ChangeShapes Go.WideShapes Go.ChangeAt Go.RowKit

set_option maxRecDepth 100000 in
theorem lifted (os : Os) (started : os.Started) (H : Type) (enc : TypeId × Value → H) :
    ReturnsInHanded {} Try.checked os 3 .any (Rows.hullSupportsSpec.pre6 enc Try.prog Try.f3 Rows.hullSupportsRow.domain false) (Rows.hullSupportsSpec.post enc Try.prog Try.f3 false true false false) := by
  refine returnsInHanded_of_change (C := Try.checked) own started (by kernel_rfl) Try.func3
    (ChangeSpec.witness6 (enc := enc) (C := Try.checked) false ⟨#[], #[.slice none 0 0], []⟩ 8 (by kernel_rfl) (by kernel_rfl) (by kernel_rfl) (by kernel_rfl)) ?_
  intro W base args ds gs before hval0 hW hcnd _
  have hval : ∀ (j : Nat) t v, Try.f3.params[j]? = some t → args[j]? = some v → Value.okWide Try.prog W .any base t v := hval0
  have hW' := hW
  obtain ⟨p, q, hA0, hV, rfl, hfz, hnd⟩ := hW
  have hA : DataW.TrodAll enc Try.prog W 0 (fun _ => true) true Try.f3.params.toList args.toList ds p := hA0
  rw [Try.params3] at hA hval
  obtain ⟨v0, vs0, d0, ds0, p0, q0, hargs, rfl, rfl, h0, r0⟩ := trodAll_cons hA
  obtain ⟨rfl, rfl, rfl⟩ := trodAll_nil r0
  obtain rfl : args = #[v0] := by cases args; simp_all
  obtain ⟨rfl, rfl⟩ := trodVars_none hV
  obtain ⟨a0, len0, cap0, rfl⟩ := okWide_slice Try.underlying22 (hval 0 22 v0 rfl rfl)
  have k0 := h0
  have lt0 : ∀ x ∈ p0, x.block < W.heap.size := by obtain ⟨m, hm⟩ := k0; exact DataW.trod_lt m _ _ _ hm
  obtain ⟨z0, w0⟩ : ∃ zs, SliceI W a0 len0 zs ∧ len0 ≤ cap0 ∧ cap0 ≤ 9223372036854775807 := by
    obtain ⟨fuel, hf⟩ := h0
    rcases open_ints Try.underlying22 Try.underlying3 (by kernel_rfl) hf with ⟨hcs, _⟩ | ⟨x, l, c, zs, hcs, _, hl, hm, hz, _, hcell, hwz⟩
    · simp [Value.cells] at hcs
      obtain ⟨rfl, rfl, rfl⟩ := hcs
      exact ⟨_, sliceI_of (zs := []) (.inl ⟨rfl, rfl, rfl, rfl⟩)⟩
    · simp [Value.cells] at hcs
      obtain ⟨rfl, rfl, rfl⟩ := hcs
      exact ⟨_, sliceI_of (zs := zs) (.inr ⟨_, rfl, hl, hm, by simpa using hz, hcell, hwz⟩)⟩
  clear hA0 hval0
  refine (law08_Supports_walk W w0.1).mono fun e W' ⟨he, bel⟩ => ?_
  subst he
  exact ⟨_, rfl, _, _, _, [], _, [], hW', trodAll_mk1 (shut_bool Try.underlying4 _), (trodAll_cons_mk (Below.trod laidOut (by kernel_rfl) (of_decide_eq_true (by kernel_rfl)) k0 bel lt0) trodAll_mk0), rfl, bel.frame _, fun h => by cases h⟩

theorem over : Rows.hullSupportsRow.holds Try.pinned (OpenSpec.ofChange Rows.hullSupportsSpec) :=
  OpenClaim.holds_of_wide 3 Try.f3 rfl rfl rfl rfl rfl rfl rfl ⟨rfl, rfl, rfl, rfl, rfl⟩ rfl rfl rfl rfl rfl (by kernel_rfl) Try.func3 (by kernel_rfl)
    (of_decide_eq_true (by kernel_rfl)) (by unfold Func.isWrapper; first | (rw [if_pos (by decide +kernel)]; kernel_rfl) | (rw [if_neg (by decide +kernel)]; exact ⟨rfl, rfl⟩))
    (fun os started H enc _ => lifted os started H enc)

theorem proved : Rows.HullSupportsSaid := over
#print axioms proved
end Go.Proofs.Ytccnlnkgoaelpaa.hullSupportsDone
