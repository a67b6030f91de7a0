/- A line lies in at most two supporting planes that hold a further point each. No program in sight. -/
import Derived.Test.YtccnlnkgoaelpaaHullM
import Derived.Test.YtccnlnkgoaelpaaHullY
import Derived.Test.YtccnlnkgoaelpaaHullO
namespace Go.Proofs.Ytccnlnkgoaelpaa
open Go.RowKit

def sb (a b : V3) : V3 := ⟨a.x - b.x, a.y - b.y, a.z - b.z⟩
def crs (a b : V3) : V3 := ⟨a.y * b.z - a.z * b.y, a.z * b.x - a.x * b.z, a.x * b.y - a.y * b.x⟩
def lin (α : Int) (a : V3) (β : Int) (b : V3) : V3 := ⟨α * a.x + β * b.x, α * a.y + β * b.y, α * a.z + β * b.z⟩
theorem dt_lin (α β : Int) (a b v : V3) : dt (lin α a β b) v = α * dt a v + β * dt b v := by unfold dt lin; grind
theorem max_of (d : V3) : ∀ S : List V3, S ≠ [] → ∃ A ∈ S, ∀ v ∈ S, dt d v ≤ dt d A
  | [], h => absurd rfl h
  | [x], _ => ⟨x, by simp, fun v hv => by simp at hv; subst hv; exact Int.le_refl _⟩
  | x :: y :: l, _ => by
    obtain ⟨A, hA, h⟩ := max_of d (y :: l) (by simp)
    rcases Int.le_total (dt d x) (dt d A) with h1 | h1
    · exact ⟨A, List.mem_cons_of_mem _ hA, fun v hv => by
        rcases List.mem_cons.1 hv with rfl | hv
        · exact h1
        · exact h v hv⟩
    · exact ⟨x, by simp, fun v hv => by
        rcases List.mem_cons.1 hv with rfl | hv
        · exact Int.le_refl _
        · exact Int.le_trans (h v hv) h1⟩
/-- The least ratio. -/
theorem min_ratio (p q : V3 → Int) : ∀ S : List V3, (∃ v ∈ S, 0 < p v) → ∃ u ∈ S, 0 < p u ∧ ∀ v ∈ S, 0 < p v → q u * p v ≤ q v * p u
  | [], h => by obtain ⟨v, hv, _⟩ := h; cases hv
  | x :: S, h => by
    by_cases hS : ∃ v ∈ S, 0 < p v
    · obtain ⟨u, hu, hp, hm⟩ := min_ratio p q S hS
      by_cases hx : 0 < p x
      · rcases Int.le_total (q x * p u) (q u * p x) with h1 | h1
        · refine ⟨x, by simp, hx, fun v hv hpv => ?_⟩
          rcases List.mem_cons.1 hv with rfl | hv
          · exact Int.le_refl _
          · have h2 := hm v hv hpv
            have h3 : p u * (q x * p v) ≤ p u * (q v * p x) := by
              have a1 := Int.mul_le_mul_of_nonneg_right h1 (Int.le_of_lt hpv)
              have a2 := Int.mul_le_mul_of_nonneg_right h2 (Int.le_of_lt hx)
              have e1 : p u * (q x * p v) = q x * p u * p v := by grind
              have e2 : q u * p x * p v = q u * p v * p x := by grind
              have e3 : p u * (q v * p x) = q v * p u * p x := by grind
              rw [e1, e3]
              rw [e2] at a1
              exact Int.le_trans a1 a2
            exact Int.le_of_mul_le_mul_left h3 hp
        · refine ⟨u, List.mem_cons_of_mem _ hu, hp, fun v hv hpv => ?_⟩
          rcases List.mem_cons.1 hv with rfl | hv
          · exact h1
          · exact hm v hv hpv
      · refine ⟨u, List.mem_cons_of_mem _ hu, hp, fun v hv hpv => ?_⟩
        rcases List.mem_cons.1 hv with rfl | hv
        · exact absurd hpv hx
        · exact hm v hv hpv
    · obtain ⟨v, hv, hp⟩ := h
      have hvx : v = x := by
        rcases List.mem_cons.1 hv with e | hv
        · exact e
        · exact absurd ⟨v, hv, hp⟩ hS
      subst hvx
      refine ⟨v, by simp, hp, fun w hw hpw => ?_⟩
      rcases List.mem_cons.1 hw with rfl | hw
      · exact Int.le_refl _
      · exact absurd ⟨w, hw, hpw⟩ hS
/-- A supporting plane, turned until it meets another point. -/
theorem turn {S : List V3} {N M d : V3} {b c : Int} (hs : ∀ v ∈ S, dt N v ≤ b) (hd : 0 < dt N d) (hM : dt M d = 0) (ht : ∀ v ∈ S, dt N v = b → dt M v = c) (hex : ∃ v ∈ S, 0 < dt M v - c) :
    ∃ N' b' u, 0 < dt N' d ∧ (∀ v ∈ S, dt N' v ≤ b') ∧ u ∈ S ∧ dt M u ≠ c ∧ dt N' u = b' ∧ ∀ v, dt N v = b → dt M v = c → dt N' v = b' := by
  obtain ⟨u, hu, hp, hm⟩ := min_ratio (fun v => dt M v - c) (fun v => b - dt N v) S hex
  have hq : 0 < b - dt N u := by
    have h1 := hs u hu
    rcases Int.lt_or_eq_of_le h1 with h2 | h2
    · omega
    · have := ht u hu h2; omega
  refine ⟨lin (dt M u - c) N (b - dt N u) M, (dt M u - c) * b + (b - dt N u) * c, u, ?_, fun v hv => ?_, hu, by omega, ?_, fun v h1 h2 => ?_⟩
  · rw [dt_lin, hM, Int.mul_zero, Int.add_zero]
    exact Int.mul_pos hp hd
  · rw [dt_lin]
    have hsv := hs v hv
    by_cases hpv : 0 < dt M v - c
    · have h := hm v hv hpv
      have e1 : (b - dt N u) * (dt M v - c) = (b - dt N u) * dt M v - (b - dt N u) * c := by grind
      have e2 : (b - dt N v) * (dt M u - c) = (dt M u - c) * b - (dt M u - c) * dt N v := by grind
      rw [e1, e2] at h
      omega
    · have a1 := Int.mul_le_mul_of_nonneg_left hsv (Int.le_of_lt hp)
      have a2 := Int.mul_le_mul_of_nonneg_left (show dt M v ≤ c by omega) (Int.le_of_lt hq)
      omega
  · rw [dt_lin]; grind
  · rw [dt_lin, h1, h2]
theorem turn' {S : List V3} {N M d : V3} {b c : Int} (hs : ∀ v ∈ S, dt N v ≤ b) (hd : 0 < dt N d) (hM : dt M d = 0) (ht : ∀ v ∈ S, dt N v = b → dt M v = c) (hex : ∃ v ∈ S, dt M v ≠ c) :
    ∃ N' b' u, 0 < dt N' d ∧ (∀ v ∈ S, dt N' v ≤ b') ∧ u ∈ S ∧ dt M u ≠ c ∧ dt N' u = b' ∧ ∀ v, dt N v = b → dt M v = c → dt N' v = b' := by
  obtain ⟨v, hv, hne⟩ := hex
  by_cases h : 0 < dt M v - c
  · exact turn hs hd hM ht ⟨v, hv, h⟩
  · have em : ∀ w, dt (lin (-1) M 0 M) w = -dt M w := fun w => by rw [dt_lin]; omega
    obtain ⟨N', b', u, h1, h2, h3, h4, h5, h6⟩ := turn (M := lin (-1) M 0 M) (c := -c) hs hd (by rw [em, hM]; rfl) (fun w hw hb => by rw [em, ht w hw hb]) ⟨v, hv, by rw [em]; omega⟩
    refine ⟨N', b', u, h1, h2, h3, fun e => h4 (by rw [em, e]), h5, fun w hw hc => h6 w hw (by rw [em, hc])⟩
theorem crs_dt (l d u : V3) : dt (crs l d) u = -dt (crs l u) d := by unfold dt crs; grind
theorem dt_sb (M a b : V3) : dt M (sb a b) = dt M a - dt M b := by unfold dt sb; grind
theorem crs_self_l (a b : V3) : dt (crs a b) a = 0 := by unfold dt crs; grind
theorem crs_self_r (a b : V3) : dt (crs a b) b = 0 := by unfold dt crs; grind
theorem v3_zero {a : V3} (h : a.x = 0 ∧ a.y = 0 ∧ a.z = 0) : a = ⟨0, 0, 0⟩ := by
  obtain ⟨x, y, z⟩ := a; obtain ⟨h1, h2, h3⟩ := h; simp only [] at h1 h2 h3; subst h1; subst h2; subst h3; rfl
theorem dt_zero_l (v : V3) : dt ⟨0, 0, 0⟩ v = 0 := by unfold dt; simp
theorem dt_zero_r (v : V3) : dt v ⟨0, 0, 0⟩ = 0 := by unfold dt; simp
theorem sq_pos {a : V3} (h : a ≠ ⟨0, 0, 0⟩) : 0 < dt a a := by
  have sq : ∀ n : Int, 0 ≤ n * n := fun n => by
    rcases Int.le_total 0 n with h | h
    · exact Int.mul_nonneg h h
    · exact Int.mul_nonneg_of_nonpos_of_nonpos h h
  have sp : ∀ n : Int, n * n = 0 → n = 0 := fun n h => by rcases Int.mul_eq_zero.1 h with h | h <;> exact h
  have h1 := sq a.x
  have h2 := sq a.y
  have h3 := sq a.z
  unfold dt
  rcases Int.lt_or_eq_of_le (show 0 ≤ a.x * a.x + a.y * a.y + a.z * a.z by omega) with h4 | h4
  · exact h4
  · exact absurd (v3_zero ⟨sp _ (by omega), sp _ (by omega), sp _ (by omega)⟩) h
/-- In each direction some plane through three points that do not lie on a line has all points on its inner side. -/
theorem looks {S : List V3} (h0 : S ≠ []) (hnf : ∀ N b, N ≠ ⟨0, 0, 0⟩ → ∃ v ∈ S, dt N v ≠ b) {d : V3} (hd : d ≠ ⟨0, 0, 0⟩) :
    ∃ N b A B C, 0 < dt N d ∧ (∀ v ∈ S, dt N v ≤ b) ∧ A ∈ S ∧ B ∈ S ∧ C ∈ S ∧ dt N A = b ∧ dt N B = b ∧ dt N C = b ∧ crs (sb B A) (sb C A) ≠ ⟨0, 0, 0⟩ := by
  -- two points on the plane
  obtain ⟨N, b, A, B, hNd, hs, hA, hB, hAb, hBb, hAB⟩ : ∃ N b A B, 0 < dt N d ∧ (∀ v ∈ S, dt N v ≤ b) ∧ A ∈ S ∧ B ∈ S ∧ dt N A = b ∧ dt N B = b ∧ sb B A ≠ ⟨0, 0, 0⟩ := by
    obtain ⟨A, hA, hmax⟩ := max_of d S h0
    have hpos := sq_pos hd
    by_cases hB : ∃ B ∈ S, dt d B = dt d A ∧ sb B A ≠ ⟨0, 0, 0⟩
    · obtain ⟨B, hB, hBb, hne⟩ := hB
      exact ⟨d, dt d A, A, B, hpos, hmax, hA, hB, rfl, hBb, hne⟩
    · obtain ⟨M, hM0, hMd⟩ : ∃ M, M ≠ ⟨0, 0, 0⟩ ∧ dt M d = 0 := by
        by_cases h : d.x = 0 ∧ d.y = 0
        · exact ⟨⟨1, 0, 0⟩, by simp, by unfold dt; simp [h.1]⟩
        · refine ⟨⟨-d.y, d.x, 0⟩, fun e => h ?_, by unfold dt; grind⟩
          injection e with e1 e2
          exact ⟨e2, by omega⟩
      obtain ⟨N', b', u, k1, k2, k3, k4, k5, k6⟩ := turn' (M := M) (c := dt M A) hmax hpos hMd (fun v hv hb => by
        have e : sb v A = ⟨0, 0, 0⟩ := Classical.byContradiction fun h => hB ⟨v, hv, hb, h⟩
        have := dt_sb M v A
        rw [e, dt_zero_r] at this
        omega) (hnf M _ hM0)
      refine ⟨N', b', A, u, k1, k2, hA, k3, k6 A rfl rfl, k5, fun e => k4 ?_⟩
      have := dt_sb M u A
      rw [e, dt_zero_r] at this
      omega
  by_cases hC : ∃ C ∈ S, dt N C = b ∧ crs (sb B A) (sb C A) ≠ ⟨0, 0, 0⟩
  · obtain ⟨C, hC, hCb, hne⟩ := hC
    exact ⟨N, b, A, B, C, hNd, hs, hA, hB, hC, hAb, hBb, hCb, hne⟩
  · have hNl : dt N (sb B A) = 0 := by rw [dt_sb]; omega
    have hM0 : crs (sb B A) d ≠ ⟨0, 0, 0⟩ := fun e => hAB (by
      generalize sb B A = l at *
      have e1 : l.y * d.z - l.z * d.y = 0 := congrArg V3.x e
      have e2 : l.z * d.x - l.x * d.z = 0 := congrArg V3.y e
      have e3 : l.x * d.y - l.y * d.x = 0 := congrArg V3.z e
      unfold dt at hNl hNd
      have f1 : l.x * (N.x * d.x + N.y * d.y + N.z * d.z) = 0 := by grind
      have f2 : l.y * (N.x * d.x + N.y * d.y + N.z * d.z) = 0 := by grind
      have f3 : l.z * (N.x * d.x + N.y * d.y + N.z * d.z) = 0 := by grind
      have z : ∀ a : Int, a * (N.x * d.x + N.y * d.y + N.z * d.z) = 0 → a = 0 := fun a h => by
        rcases Int.mul_eq_zero.1 h with h | h
        · exact h
        · omega
      exact v3_zero ⟨z _ f1, z _ f2, z _ f3⟩)
    have hon : ∀ v, crs (sb B A) (sb v A) = ⟨0, 0, 0⟩ → dt (crs (sb B A) d) v = dt (crs (sb B A) d) A := fun v h => by
      have h1 := crs_dt (sb B A) d (sb v A)
      rw [h, dt_zero_l, dt_sb] at h1
      omega
    obtain ⟨N', b', u, k1, k2, k3, k4, k5, k6⟩ := turn' (M := crs (sb B A) d) (c := dt (crs (sb B A) d) A) hs hNd (crs_self_r _ _) (fun v hv hb => hon v (Classical.byContradiction fun h => hC ⟨v, hv, hb, h⟩)) (hnf _ _ hM0)
    have hMB : dt (crs (sb B A) d) B = dt (crs (sb B A) d) A := by
      have h1 := crs_self_l (sb B A) d
      rw [dt_sb] at h1
      omega
    exact ⟨N', b', A, B, u, k1, k2, hA, hB, k3, k6 A hAb rfl, k6 B hBb hMB, k5, fun e => k4 (hon u e)⟩
end Go.Proofs.Ytccnlnkgoaelpaa
namespace Go.Proofs.Ytccnlnkgoaelpaa
open Go.RowKit

theorem cross_perp (n a b : V3) : (n.y * (crs a b).z - n.z * (crs a b).y = a.x * dt n b - b.x * dt n a) ∧ (n.z * (crs a b).x - n.x * (crs a b).z = a.y * dt n b - b.y * dt n a) ∧ (n.x * (crs a b).y - n.y * (crs a b).x = a.z * dt n b - b.z * dt n a) := by
  unfold crs dt
  refine ⟨?_, ?_, ?_⟩ <;> grind
/-- A vector that is perpendicular to two, and their cross product. -/
theorem par {n a b : V3} (ha : dt n a = 0) (hb : dt n b = 0) (w : V3) : dt (crs a b) (crs a b) * dt n w = dt n (crs a b) * dt (crs a b) w := by
  obtain ⟨h1, h2, h3⟩ := cross_perp n a b
  rw [ha, hb] at h1 h2 h3
  simp only [Int.mul_zero, Int.sub_zero] at h1 h2 h3
  generalize crs a b = X at *
  unfold dt
  grind
theorem crs_thr {A B C N : V3} {m : Int} (t : ThrP A B C N m) (w : V3) : dt (crs (sb B A) (sb C A)) w = dt N w * m := by
  have h1 := t.ex
  have h2 := t.ey
  have h3 := t.ez
  unfold dt crs sb
  simp only []
  rw [h1, h2, h3]
  grind
theorem crs_ne {A B C N : V3} {m : Int} (t : ThrP A B C N m) : crs (sb B A) (sb C A) ≠ ⟨0, 0, 0⟩ := fun e => t.ne (by
  have h1 := t.ex
  have h2 := t.ey
  have h3 := t.ez
  have e1 : (crs (sb B A) (sb C A)).x = 0 := by rw [e]
  have e2 : (crs (sb B A) (sb C A)).y = 0 := by rw [e]
  have e3 : (crs (sb B A) (sb C A)).z = 0 := by rw [e]
  unfold crs sb at e1 e2 e3
  simp only [] at e1 e2 e3
  have hm := t.m1
  have z : ∀ a : Int, a * m = 0 → a = 0 := fun a h => by
    rcases Int.mul_eq_zero.1 h with h | h
    · exact h
    · omega
  exact ⟨z _ (by rw [← h1]; exact e1), z _ (by rw [← h2]; exact e2), z _ (by rw [← h3]; exact e3)⟩)
theorem ok_of_crs {A B C : V3} (hA : Bd 24 A) (hB : Bd 24 B) (hC : Bd 24 C) (h : crs (sb B A) (sb C A) ≠ ⟨0, 0, 0⟩) : okThrough A B C = true := by
  have s1 := sub_plain hA hB
  have s2 := sub_plain hA hC
  have hc := cross_plain s1.2 s2.2
  have hX : vCross (vSub B A) (vSub C A) = crs (sb B A) (sb C A) := by rw [hc.1, s1.1, s2.1]; rfl
  have hne : ¬ ((vCross (vSub B A) (vSub C A)).x = 0 ∧ (vCross (vSub B A) (vSub C A)).y = 0 ∧ (vCross (vSub B A) (vSub C A)).z = 0) := fun e => h (by rw [← hX]; exact v3_zero e)
  obtain ⟨N, b, s⟩ := sidesLaw hA hB hC hne
  exact s.o1
theorem ordI_le {a b : Int} (h : a ≤ b) : ordI a b ≤ 0 := by unfold ordI; split <;> first | omega | (split <;> omega)
theorem ordI_ge {a b : Int} (h : b ≤ a) : 0 ≤ ordI a b := by unfold ordI; split <;> first | omega | (split <;> omega)
theorem side_flip {A B C : V3} (hA : Bd 24 A) (hB : Bd 24 B) (hC : Bd 24 C) (ho : okThrough A B C = true) (D : V3) : pSide (pFlip (pThrough A B C)) D = -pSide (pThrough A B C) D := by
  have hne : ¬ ((vCross (vSub B A) (vSub C A)).x = 0 ∧ (vCross (vSub B A) (vSub C A)).y = 0 ∧ (vCross (vSub B A) (vSub C A)).z = 0) := by
    intro h
    rw [ok_cross (V3.ext h.1 h.2.1 h.2.2)] at ho; cases ho
  obtain ⟨N, b, s⟩ := sidesLaw hA hB hC hne
  rw [s.t1]
  have h1 := s.sd D
  have hb : ∀ p v, -1 ≤ pSide p v ∧ pSide p v ≤ 1 := by
    intro p v; unfold pSide; split
    · exact ordI_bd _ _
    · omega
  have := hb (pFlip ⟨N, b⟩) D
  rw [wr_id ⟨by omega, by omega⟩] at h1
  omega
/-- Points that do not all lie in one plane. -/
theorem not_flat {L : List V3} (h : hCheck L = 0) (N' : V3) (b' : Int) (hN : N' ≠ ⟨0, 0, 0⟩) : ∃ v ∈ L, dt N' v ≠ b' := by
  obtain ⟨h48, hin, hpos⟩ := check_ok h
  apply Classical.byContradiction
  intro hno
  have hall : ∀ v ∈ L, dt N' v = b' := fun v hv => Classical.byContradiction fun e => hno ⟨v, hv, e⟩
  have hf : flatB L = true := flat_yes hin (fun i j k mm hi hj hk hmm ho => by
    have bA := vIn_all hin (vAt_mem hi)
    have bB := vIn_all hin (vAt_mem (L := L) (i := j) (by omega))
    have bC := vIn_all hin (vAt_mem (L := L) (i := k) (by omega))
    have bD := vIn_all hin (vAt_mem hmm)
    obtain ⟨N, m, t⟩ := thrP bA bB bC ho
    have eA := hall _ (vAt_mem hi)
    have eB := hall _ (vAt_mem (L := L) (i := j) (by omega))
    have eC := hall _ (vAt_mem (L := L) (i := k) (by omega))
    have eD := hall _ (vAt_mem hmm)
    generalize vAt L i = A at *
    generalize vAt L j = B at *
    generalize vAt L k = C at *
    generalize vAt L mm = D at *
    have p1 : dt N' (sb B A) = 0 := by rw [dt_sb]; omega
    have p2 : dt N' (sb C A) = 0 := by rw [dt_sb]; omega
    have hX := crs_ne t
    have hXX := sq_pos hX
    have hs : dt N' (crs (sb B A) (sb C A)) ≠ 0 := fun e => by
      have q := par p1 p2 N'
      rw [e, Int.zero_mul] at q
      have := Int.mul_pos hXX (sq_pos hN)
      omega
    have q := par p1 p2 (sb D A)
    rw [dt_sb, eD, eA, Int.sub_self, Int.mul_zero] at q
    have q2 : dt (crs (sb B A) (sb C A)) (sb D A) = 0 := by
      rcases Int.mul_eq_zero.1 q.symm with h | h
      · exact absurd h hs
      · exact h
    rw [crs_thr t, dt_sb] at q2
    have hm := t.m1
    have q3 : dt N D - dt N A = 0 := by
      rcases Int.mul_eq_zero.1 q2 with h | h
      · exact h
      · omega
    rw [t.th, t.sd D bD]
    exact ordI_zero'.2 (by omega))
  unfold hCheck at h
  rw [if_neg (by omega), if_pos hin, if_pos hf] at h
  exact absurd h (by decide)
theorem mul_sign {a m : Int} (hm : 1 ≤ m) (h : 0 < a * m) : 0 < a := by
  by_cases h1 : 0 < a
  · exact h1
  · have := Int.mul_nonneg (show 0 ≤ -a by omega) (show 0 ≤ m by omega)
    rw [Int.neg_mul] at this
    omega
theorem mul_sign_le {a m : Int} (hm : 1 ≤ m) (h : 0 ≤ a * m) : 0 ≤ a := by
  by_cases h1 : a < 0
  · have := Int.mul_pos (show 0 < -a by omega) (show 0 < m by omega)
    rw [Int.neg_mul] at this
    omega
  · omega
/-- In each direction some facet looks. -/
theorem facet_looks {L : List V3} (h : hCheck L = 0) {d : V3} (hd : d ≠ ⟨0, 0, 0⟩) : ∃ p ∈ facets L, 0 < dt p.n d := by
  obtain ⟨h48, hin, hpos⟩ := check_ok h
  obtain ⟨N', b', A, B, C, hNd, hs, hA, hB, hC, eA, eB, eC, hX⟩ := looks (S := L) (by intro e; rw [e] at hpos; simp at hpos) (not_flat h) hd
  have bA := vIn_all hin hA
  have bB := vIn_all hin hB
  have bC := vIn_all hin hC
  have ho := ok_of_crs bA bB bC hX
  obtain ⟨N, m, t⟩ := thrP bA bB bC ho
  have hm := t.m1
  have p1 : dt N' (sb B A) = 0 := by rw [dt_sb]; omega
  have p2 : dt N' (sb C A) = 0 := by rw [dt_sb]; omega
  have hXX := sq_pos hX
  have P := par p1 p2
  have hthr : ∀ p, p = pThrough A B C ∨ p = pFlip (pThrough A B C) → IsThr L p := fun p hp => ⟨A, B, C, hA, hB, hC, by unfold both; rw [if_pos ho]; rcases hp with rfl | rfl <;> simp⟩
  have Xd := crs_thr t d
  have hsx : ∀ v ∈ L, 0 ≤ -(dt N' (crs (sb B A) (sb C A)) * (dt N (sb v A) * m)) := fun v hv => by
    have q := P (sb v A)
    rw [crs_thr t (sb v A)] at q
    have h1 := hs v hv
    have h2 := Int.mul_nonneg (Int.le_of_lt hXX) (show 0 ≤ -(dt N' (sb v A)) by rw [dt_sb]; omega)
    rw [Int.mul_neg] at h2
    omega
  have hdx : 0 < dt N' (crs (sb B A) (sb C A)) * (dt N d * m) := by
    have q := P d
    rw [crs_thr t d] at q
    have := Int.mul_pos hXX hNd
    omega
  generalize dt N' (crs (sb B A) (sb C A)) = s at *
  rcases Int.lt_trichotomy s 0 with hs0 | hs0 | hs0
  · -- the flip
    refine ⟨pFlip (pThrough A B C), (mem_facets hin _).2 ⟨hthr _ (.inr rfl), ?_⟩, ?_⟩
    · unfold insideB
      rw [List.all_eq_true]
      intro v hv
      rw [side_flip bA bB bC ho, t.th, t.sd v (vIn_all hin hv)]
      have q := hsx v hv
      have q2 : 0 ≤ (-s) * (dt N (sb v A) * m) := by rw [Int.neg_mul]; exact q
      have q3 : 0 ≤ dt N (sb v A) * m := mul_sign_le (m := -s) (by omega) (by rw [Int.mul_comm]; exact q2)
      have q4 := mul_sign_le hm q3
      rw [dt_sb] at q4
      have := ordI_ge (show dt N A ≤ dt N v by omega)
      simp
      omega
    · have q2 : 0 < (-(dt N d * m)) * (-s) := by rw [Int.neg_mul_neg, Int.mul_comm]; exact hdx
      have q3 := mul_sign (show 1 ≤ -s by omega) q2
      have q4 : 0 < (-(dt N d)) * m := by rw [Int.neg_mul]; exact q3
      have q5 := mul_sign hm q4
      rw [t.th]
      unfold pFlip
      simp only []
      rw [vneg_plain t.b]
      unfold dt at q5 ⊢
      simp only []
      simp only [Int.neg_mul]
      omega
  · subst hs0
    simp at hdx
  · refine ⟨pThrough A B C, (mem_facets hin _).2 ⟨hthr _ (.inl rfl), ?_⟩, ?_⟩
    · unfold insideB
      rw [List.all_eq_true]
      intro v hv
      rw [t.th, t.sd v (vIn_all hin hv)]
      have q := hsx v hv
      have q2 : 0 ≤ (-(dt N (sb v A) * m)) * s := by rw [Int.neg_mul, Int.mul_comm]; exact q
      have q3 : 0 ≤ (-(dt N (sb v A))) * m := by rw [Int.neg_mul]; exact mul_sign_le (show 1 ≤ s by omega) q2
      have q4 := mul_sign_le hm q3
      rw [dt_sb] at q4
      have := ordI_le (show dt N v ≤ dt N A by omega)
      simpa using this
    · rw [t.th]
      exact mul_sign hm (mul_sign (show 1 ≤ s by omega) (by rw [Int.mul_comm]; exact hdx))
/-- A direction in which none of three planes looks. -/
theorem away (n1 n2 n3 : V3) : ∃ d : V3, d ≠ ⟨0, 0, 0⟩ ∧ dt n1 d ≤ 0 ∧ dt n2 d ≤ 0 ∧ dt n3 d ≤ 0 := by
  obtain ⟨d, hd, h1, h2⟩ : ∃ d : V3, d ≠ ⟨0, 0, 0⟩ ∧ dt n1 d = 0 ∧ dt n2 d = 0 := by
    by_cases h : crs n1 n2 = ⟨0, 0, 0⟩
    · by_cases hn : n1 = ⟨0, 0, 0⟩
      · subst hn
        by_cases h2 : n2.x = 0 ∧ n2.y = 0
        · exact ⟨⟨1, 0, 0⟩, by simp, dt_zero_l _, by unfold dt; simp [h2.1]⟩
        · refine ⟨⟨-n2.y, n2.x, 0⟩, fun e => h2 ?_, dt_zero_l _, by unfold dt; grind⟩
          injection e with e1 e2
          exact ⟨e2, by omega⟩
      · obtain ⟨d, hd, h1⟩ : ∃ d : V3, d ≠ ⟨0, 0, 0⟩ ∧ dt n1 d = 0 := by
          by_cases h2 : n1.x = 0 ∧ n1.y = 0
          · exact ⟨⟨1, 0, 0⟩, by simp, by unfold dt; simp [h2.1]⟩
          · refine ⟨⟨-n1.y, n1.x, 0⟩, fun e => h2 ?_, by unfold dt; grind⟩
            injection e with e1 e2
            exact ⟨e2, by omega⟩
        refine ⟨d, hd, h1, ?_⟩
        have hp := sq_pos hn
        have e1 : n1.y * n2.z - n1.z * n2.y = 0 := congrArg V3.x h
        have e2 : n1.z * n2.x - n1.x * n2.z = 0 := congrArg V3.y h
        have e3 : n1.x * n2.y - n1.y * n2.x = 0 := congrArg V3.z h
        have q : dt n1 n1 * dt n2 d = dt n1 n2 * dt n1 d := by unfold dt; grind
        rw [h1, Int.mul_zero] at q
        rcases Int.mul_eq_zero.1 q with h | h
        · omega
        · exact h
    · exact ⟨crs n1 n2, h, by unfold dt crs; grind, by unfold dt crs; grind⟩
  rcases Int.le_total (dt n3 d) 0 with h3 | h3
  · exact ⟨d, hd, by omega, by omega, h3⟩
  · have e : ∀ n, dt n ⟨-d.x, -d.y, -d.z⟩ = -dt n d := fun n => by unfold dt; grind
    refine ⟨⟨-d.x, -d.y, -d.z⟩, fun e0 => hd ?_, by rw [e]; omega, by rw [e]; omega, by rw [e]; omega⟩
    injection e0 with a1 a2 a3
    exact v3_zero ⟨by omega, by omega, by omega⟩
theorem four_facets {L : List V3} (h : hCheck L = 0) : 4 ≤ (facets L).length := by
  rcases Nat.lt_or_ge (facets L).length 4 with hl | hl
  · obtain ⟨d, hd, h1, h2, h3⟩ := away (pAt (facets L) 0).n (pAt (facets L) 1).n (pAt (facets L) 2).n
    obtain ⟨p, hp, hpd⟩ := facet_looks h hd
    obtain ⟨i, hi, rfl⟩ := mem_pAt hp
    rcases (show i = 0 ∨ i = 1 ∨ i = 2 by omega) with rfl | rfl | rfl <;> omega
  · exact hl
/-- What HullSupports says of a facet. -/
theorem facet_props {L : List V3} (h : hCheck L = 0) {p : Pl} (hp : p ∈ facets L) : pValid p = true ∧ (∀ v ∈ L, pSide p v ≤ 0) ∧
    ∀ o ∈ L, ∃ a b, a ∈ L ∧ b ∈ L ∧ pSide p a = 0 ∧ pSide p b = 0 ∧ vCross (vSub a o) (vSub b o) ≠ ⟨0, 0, 0⟩ := by
  obtain ⟨h48, hin, hpos⟩ := check_ok h
  obtain ⟨⟨A, B, C, hA, hB, hC, hb⟩, hi⟩ := (mem_facets hin p).1 hp
  have bA := vIn_all hin hA
  have bB := vIn_all hin hB
  have bC := vIn_all hin hC
  obtain ⟨ho, hpe⟩ := both_ok hb
  obtain ⟨N, m, t⟩ := thrP bA bB bC ho
  have hX := crs_ne t
  have hne : ¬ ((vCross (vSub B A) (vSub C A)).x = 0 ∧ (vCross (vSub B A) (vSub C A)).y = 0 ∧ (vCross (vSub B A) (vSub C A)).z = 0) := by
    intro e
    rw [ok_cross (V3.ext e.1 e.2.1 e.2.2)] at ho; cases ho
  obtain ⟨N2, b2, s⟩ := sidesLaw bA bB bC hne
  have hval : pValid p = true := by
    rcases hpe with rfl | rfl
    · rw [s.t1]; exact s.v1
    · rw [s.t1]; exact s.v2
  have hon : pSide p A = 0 ∧ pSide p B = 0 ∧ pSide p C = 0 := by
    rcases hpe with rfl | rfl
    · rw [s.t1]; exact ⟨s.sA, s.sB, s.sC⟩
    · rw [side_flip bA bB bC ho, side_flip bA bB bC ho, side_flip bA bB bC ho, s.t1, s.sA, s.sB, s.sC]
      exact ⟨rfl, rfl, rfl⟩
  refine ⟨hval, fun v hv => ?_, fun o ho' => ?_⟩
  · unfold insideB at hi
    simpa using List.all_eq_true.1 hi v hv
  · have bO := vIn_all hin ho'
    have eq : ∀ a b, Bd 24 a → Bd 24 b → vCross (vSub a o) (vSub b o) = crs (sb a o) (sb b o) := fun a b ha hb => by
      have s1 := sub_plain bO ha
      have s2 := sub_plain bO hb
      rw [(cross_plain s1.2 s2.2).1, s1.1, s2.1]
      rfl
    by_cases h1 : vCross (vSub B o) (vSub C o) = ⟨0, 0, 0⟩
    · by_cases h2 : vCross (vSub B o) (vSub A o) = ⟨0, 0, 0⟩
      · by_cases h3 : vCross (vSub A o) (vSub C o) = ⟨0, 0, 0⟩
        · exfalso
          rw [eq _ _ bB bC] at h1
          rw [eq _ _ bB bA] at h2
          rw [eq _ _ bA bC] at h3
          apply hX
          have x1 := congrArg V3.x h1
          have y1 := congrArg V3.y h1
          have z1 := congrArg V3.z h1
          have x2 := congrArg V3.x h2
          have y2 := congrArg V3.y h2
          have z2 := congrArg V3.z h2
          have x3 := congrArg V3.x h3
          have y3 := congrArg V3.y h3
          have z3 := congrArg V3.z h3
          unfold crs sb at x1 y1 z1 x2 y2 z2 x3 y3 z3
          simp only [] at x1 y1 z1 x2 y2 z2 x3 y3 z3
          apply v3_zero
          unfold crs sb
          simp only []
          refine ⟨?_, ?_, ?_⟩ <;> grind
        · exact ⟨A, C, hA, hC, hon.1, hon.2.2, h3⟩
      · exact ⟨B, A, hB, hA, hon.2.1, hon.1, h2⟩
    · exact ⟨B, C, hB, hC, hon.2.1, hon.2.2, h1⟩
end Go.Proofs.Ytccnlnkgoaelpaa
namespace Go.Proofs.Ytccnlnkgoaelpaa
open Go.RowKit

/-- As 'looks', and the plane goes through A, where some direction has its greatest value. -/
theorem looksA {S : List V3} (hnf : ∀ N b, N ≠ ⟨0, 0, 0⟩ → ∃ v ∈ S, dt N v ≠ b) {N0 A d : V3} (hA : A ∈ S) (hmax : ∀ v ∈ S, dt N0 v ≤ dt N0 A) (hpos : 0 < dt N0 d) :
    ∃ N b B C, 0 < dt N d ∧ (∀ v ∈ S, dt N v ≤ b) ∧ B ∈ S ∧ C ∈ S ∧ dt N A = b ∧ dt N B = b ∧ dt N C = b ∧ crs (sb B A) (sb C A) ≠ ⟨0, 0, 0⟩ := by
  -- two points on the plane
  obtain ⟨N, b, B, hNd, hs, hB, hAb, hBb, hAB⟩ : ∃ N b B, 0 < dt N d ∧ (∀ v ∈ S, dt N v ≤ b) ∧ B ∈ S ∧ dt N A = b ∧ dt N B = b ∧ sb B A ≠ ⟨0, 0, 0⟩ := by
    by_cases hB : ∃ B ∈ S, dt N0 B = dt N0 A ∧ sb B A ≠ ⟨0, 0, 0⟩
    · obtain ⟨B, hB, hBb, hne⟩ := hB
      exact ⟨N0, dt N0 A, B, hpos, hmax, hB, rfl, hBb, hne⟩
    · obtain ⟨M, hM0, hMd⟩ : ∃ M, M ≠ ⟨0, 0, 0⟩ ∧ dt M d = 0 := by
        by_cases h : d.x = 0 ∧ d.y = 0
        · exact ⟨⟨1, 0, 0⟩, by simp, by unfold dt; simp [h.1]⟩
        · refine ⟨⟨-d.y, d.x, 0⟩, fun e => h ?_, by unfold dt; grind⟩
          injection e with e1 e2
          exact ⟨e2, by omega⟩
      obtain ⟨N', b', u, k1, k2, k3, k4, k5, k6⟩ := turn' (M := M) (c := dt M A) hmax hpos hMd (fun v hv hb => by
        have e : sb v A = ⟨0, 0, 0⟩ := Classical.byContradiction fun h => hB ⟨v, hv, hb, h⟩
        have := dt_sb M v A
        rw [e, dt_zero_r] at this
        omega) (hnf M _ hM0)
      refine ⟨N', b', u, k1, k2, k3, k6 A rfl rfl, k5, fun e => k4 ?_⟩
      have := dt_sb M u A
      rw [e, dt_zero_r] at this
      omega
  by_cases hC : ∃ C ∈ S, dt N C = b ∧ crs (sb B A) (sb C A) ≠ ⟨0, 0, 0⟩
  · obtain ⟨C, hC, hCb, hne⟩ := hC
    exact ⟨N, b, B, C, hNd, hs, hB, hC, hAb, hBb, hCb, hne⟩
  · have hNl : dt N (sb B A) = 0 := by rw [dt_sb]; omega
    have hM0 : crs (sb B A) d ≠ ⟨0, 0, 0⟩ := fun e => hAB (by
      generalize sb B A = l at *
      have e1 : l.y * d.z - l.z * d.y = 0 := congrArg V3.x e
      have e2 : l.z * d.x - l.x * d.z = 0 := congrArg V3.y e
      have e3 : l.x * d.y - l.y * d.x = 0 := congrArg V3.z e
      unfold dt at hNl hNd
      have f1 : l.x * (N.x * d.x + N.y * d.y + N.z * d.z) = 0 := by grind
      have f2 : l.y * (N.x * d.x + N.y * d.y + N.z * d.z) = 0 := by grind
      have f3 : l.z * (N.x * d.x + N.y * d.y + N.z * d.z) = 0 := by grind
      have z : ∀ a : Int, a * (N.x * d.x + N.y * d.y + N.z * d.z) = 0 → a = 0 := fun a h => by
        rcases Int.mul_eq_zero.1 h with h | h
        · exact h
        · omega
      exact v3_zero ⟨z _ f1, z _ f2, z _ f3⟩)
    have hon : ∀ v, crs (sb B A) (sb v A) = ⟨0, 0, 0⟩ → dt (crs (sb B A) d) v = dt (crs (sb B A) d) A := fun v h => by
      have h1 := crs_dt (sb B A) d (sb v A)
      rw [h, dt_zero_l, dt_sb] at h1
      omega
    obtain ⟨N', b', u, k1, k2, k3, k4, k5, k6⟩ := turn' (M := crs (sb B A) d) (c := dt (crs (sb B A) d) A) hs hNd (crs_self_r _ _) (fun v hv hb => hon v (Classical.byContradiction fun h => hC ⟨v, hv, hb, h⟩)) (hnf _ _ hM0)
    have hMB : dt (crs (sb B A) d) B = dt (crs (sb B A) d) A := by
      have h1 := crs_self_l (sb B A) d
      rw [dt_sb] at h1
      omega
    exact ⟨N', b', B, u, k1, k2, hB, k3, k6 A hAb rfl, k6 B hBb hMB, k5, fun e => k4 (hon u e)⟩

/-- What is known of a facet out of a supporting plane. -/
structure FacetOf (L : List V3) (N' : V3) (A : V3) (p : Pl) : Prop where
  mem : p ∈ facets L
  bd : Bd 4608 p.n
  par : ∃ s t : Int, 0 < s ∧ 0 < t ∧ ∀ w, s * dt N' w = t * dt p.n w
  side : ∀ D, Bd 24 D → pSide p D = ordI (dt p.n D) (dt p.n A)
theorem facet_of {L : List V3} (h : hCheck L = 0) {N' A B C : V3} {b' : Int} (hs : ∀ v ∈ L, dt N' v ≤ b') (hA : A ∈ L) (hB : B ∈ L) (hC : C ∈ L) (eA : dt N' A = b') (eB : dt N' B = b') (eC : dt N' C = b') (hN : N' ≠ ⟨0, 0, 0⟩) (hX : crs (sb B A) (sb C A) ≠ ⟨0, 0, 0⟩) : ∃ p, FacetOf L N' A p := by
  obtain ⟨h48, hin, hpos⟩ := check_ok h
  have bA := vIn_all hin hA
  have bB := vIn_all hin hB
  have bC := vIn_all hin hC
  have ho := ok_of_crs bA bB bC hX
  obtain ⟨N, m, t⟩ := thrP bA bB bC ho
  have hm := t.m1
  have p1 : dt N' (sb B A) = 0 := by rw [dt_sb]; omega
  have p2 : dt N' (sb C A) = 0 := by rw [dt_sb]; omega
  have hXX := sq_pos hX
  have P := par p1 p2
  have hthr : ∀ p, p = pThrough A B C ∨ p = pFlip (pThrough A B C) → IsThr L p := fun p hp => ⟨A, B, C, hA, hB, hC, by unfold both; rw [if_pos ho]; rcases hp with rfl | rfl <;> simp⟩
  have hsx : ∀ v ∈ L, 0 ≤ -(dt N' (crs (sb B A) (sb C A)) * (dt N (sb v A) * m)) := fun v hv => by
    have q := P (sb v A)
    rw [crs_thr t (sb v A)] at q
    have h1 := hs v hv
    have h2 := Int.mul_nonneg (Int.le_of_lt hXX) (show 0 ≤ -(dt N' (sb v A)) by rw [dt_sb]; omega)
    rw [Int.mul_neg] at h2
    omega
  have hpar : ∀ w, dt (crs (sb B A) (sb C A)) (crs (sb B A) (sb C A)) * dt N' w = dt N' (crs (sb B A) (sb C A)) * (dt N w * m) := fun w => by
    have q := P w
    rw [crs_thr t w] at q
    exact q
  have hdx : 0 < dt N' (crs (sb B A) (sb C A)) * (dt N N' * m) := by
    have q := hpar N'
    have := Int.mul_pos hXX (sq_pos hN)
    omega
  generalize dt N' (crs (sb B A) (sb C A)) = s at *
  generalize dt (crs (sb B A) (sb C A)) (crs (sb B A) (sb C A)) = z at *
  have hneg : ∀ w, dt (pFlip (pThrough A B C)).n w = -dt N w := fun w => by
    rw [t.th]
    unfold pFlip
    simp only []
    rw [vneg_plain t.b]
    unfold dt
    simp only []
    simp only [Int.neg_mul]
    omega
  rcases Int.lt_trichotomy s 0 with hs0 | hs0 | hs0
  · refine ⟨pFlip (pThrough A B C), (mem_facets hin _).2 ⟨hthr _ (.inr rfl), ?_⟩, ?_, ⟨z, (-s) * m, hXX, Int.mul_pos (by omega) (by omega), fun w => ?_⟩, fun D hD => ?_⟩
    · unfold insideB
      rw [List.all_eq_true]
      intro v hv
      rw [side_flip bA bB bC ho, t.th, t.sd v (vIn_all hin hv)]
      have q := hsx v hv
      have q2 : 0 ≤ (-s) * (dt N (sb v A) * m) := by rw [Int.neg_mul]; exact q
      have q3 : 0 ≤ dt N (sb v A) * m := mul_sign_le (m := -s) (by omega) (by rw [Int.mul_comm]; exact q2)
      have q4 := mul_sign_le hm q3
      rw [dt_sb] at q4
      have := ordI_ge (show dt N A ≤ dt N v by omega)
      simp
      omega
    · rw [t.th]
      unfold pFlip
      simp only []
      rw [vneg_plain t.b]
      obtain ⟨b1, b2, b3, b4, b5, b6⟩ := t.b
      exact ⟨by simp only []; omega, by simp only []; omega, by simp only []; omega, by simp only []; omega, by simp only []; omega, by simp only []; omega⟩
    · rw [hneg, hpar w]
      grind
    · rw [hneg, hneg, side_flip bA bB bC ho, t.th, t.sd D hD]
      exact (ordI_neg _ _).symm
  · subst hs0
    simp at hdx
  · refine ⟨pThrough A B C, (mem_facets hin _).2 ⟨hthr _ (.inl rfl), ?_⟩, ?_, ⟨z, s * m, hXX, Int.mul_pos hs0 (by omega), fun w => ?_⟩, fun D hD => ?_⟩
    · unfold insideB
      rw [List.all_eq_true]
      intro v hv
      rw [t.th, t.sd v (vIn_all hin hv)]
      have q := hsx v hv
      have q2 : 0 ≤ (-(dt N (sb v A) * m)) * s := by rw [Int.neg_mul, Int.mul_comm]; exact q
      have q3 : 0 ≤ (-(dt N (sb v A))) * m := by rw [Int.neg_mul]; exact mul_sign_le (show 1 ≤ s by omega) q2
      have q4 := mul_sign_le hm q3
      rw [dt_sb] at q4
      have := ordI_le (show dt N v ≤ dt N A by omega)
      simpa using this
    · rw [t.th]; exact t.b
    · rw [t.th, hpar w]
      simp only []
      grind
    · rw [t.th]
      exact t.sd D hD
theorem FacetOf.pos {L : List V3} {N' A : V3} {p : Pl} (f : FacetOf L N' A p) {w : V3} (h : 0 < dt N' w) : 0 < dt p.n w := by
  obtain ⟨s, t, hs, ht, hp⟩ := f.par
  have q := hp w
  have := Int.mul_pos hs h
  exact mul_sign (m := t) (by omega) (by rw [Int.mul_comm]; omega)
/-- A facet through the greatest point of a direction, that looks a given way. -/
theorem facet_looksA {L : List V3} (h : hCheck L = 0) {N0 A d : V3} (hA : A ∈ L) (hmax : ∀ v ∈ L, dt N0 v ≤ dt N0 A) (hpos : 0 < dt N0 d) : ∃ p ∈ facets L, 0 < dt p.n d ∧ pSide p A = 0 ∧ ∀ D, Bd 24 D → pSide p D = ordI (dt p.n D) (dt p.n A) := by
  obtain ⟨N', b', B, C, h1, h2, hB, hC, eA, eB, eC, hX⟩ := looksA (not_flat h) hA hmax hpos
  obtain ⟨h48, hin, _⟩ := check_ok h
  obtain ⟨p, f⟩ := facet_of h h2 hA hB hC eA eB eC (by rintro rfl; rw [dt_zero_l] at h1; omega) hX
  exact ⟨p, f.mem, f.pos h1, by rw [f.side A (vIn_all hin hA)]; exact ordI_zero'.2 rfl, f.side⟩
end Go.Proofs.Ytccnlnkgoaelpaa
namespace Go.Proofs.Ytccnlnkgoaelpaa
open Go.RowKit

theorem cross_big {a b : V3} (ha : Bd 4608 a) (hb : Bd 4608 b) : vCross a b = crs a b ∧ Bd 42467328 (crs a b) := by
  obtain ⟨a1, a2, a3, a4, a5, a6⟩ := ha
  obtain ⟨b1, b2, b3, b4, b5, b6⟩ := hb
  have p1 := prodBd a3 a4 b5 b6
  have p2 := prodBd a5 a6 b3 b4
  have p3 := prodBd a5 a6 b1 b2
  have p4 := prodBd a1 a2 b5 b6
  have p5 := prodBd a1 a2 b3 b4
  have p6 := prodBd a3 a4 b1 b2
  have e : vCross a b = crs a b := by
    unfold vCross crs
    rw [wr_id (n := a.y * b.z) ⟨by omega, by omega⟩, wr_id (n := a.z * b.y) ⟨by omega, by omega⟩, wr_id (n := a.z * b.x) ⟨by omega, by omega⟩, wr_id (n := a.x * b.z) ⟨by omega, by omega⟩, wr_id (n := a.x * b.y) ⟨by omega, by omega⟩, wr_id (n := a.y * b.x) ⟨by omega, by omega⟩]
    rw [wr_id (n := a.y * b.z - a.z * b.y) ⟨by omega, by omega⟩, wr_id (n := a.z * b.x - a.x * b.z) ⟨by omega, by omega⟩, wr_id (n := a.x * b.y - a.y * b.x) ⟨by omega, by omega⟩]
  refine ⟨e, ?_⟩
  unfold crs
  exact ⟨by simp only []; omega, by simp only []; omega, by simp only []; omega, by simp only []; omega, by simp only []; omega, by simp only []; omega⟩
theorem dot_big {a b : V3} (ha : Bd 42467328 a) (hb : Bd 4608 b) : vDot a b = dt a b := by
  have p1 := prodBd ha.x1 ha.x2 hb.x1 hb.x2
  have p2 := prodBd ha.y1 ha.y2 hb.y1 hb.y2
  have p3 := prodBd ha.z1 ha.z2 hb.z1 hb.z2
  unfold vDot dt
  rw [wr_id (n := a.x * b.x) ⟨by omega, by omega⟩, wr_id (n := a.y * b.y) ⟨by omega, by omega⟩, wr_id (n := a.z * b.z) ⟨by omega, by omega⟩]
  rw [wr_id (n := a.x * b.x + a.y * b.y) ⟨by omega, by omega⟩, wr_id (n := a.x * b.x + a.y * b.y + a.z * b.z) ⟨by omega, by omega⟩]
/-- A facet's plain numbers. -/
theorem facet_side {L : List V3} (h : hCheck L = 0) {p : Pl} (hp : p ∈ facets L) : Bd 4608 p.n ∧ p.n ≠ ⟨0, 0, 0⟩ ∧ ∃ A B C, A ∈ L ∧ B ∈ L ∧ C ∈ L ∧ crs (sb B A) (sb C A) ≠ ⟨0, 0, 0⟩ ∧ dt p.n B = dt p.n A ∧ dt p.n C = dt p.n A ∧ p.b = dt p.n A ∧ ∀ D, Bd 24 D → pSide p D = ordI (dt p.n D) (dt p.n A) := by
  obtain ⟨h48, hin, _⟩ := check_ok h
  obtain ⟨⟨A, B, C, hA, hB, hC, hb⟩, _⟩ := (mem_facets hin p).1 hp
  have bA := vIn_all hin hA
  have bB := vIn_all hin hB
  have bC := vIn_all hin hC
  obtain ⟨ho, hpe⟩ := both_ok hb
  obtain ⟨N, m, t⟩ := thrP bA bB bC ho
  have hm := t.m1
  have z : ∀ a : Int, a * m = 0 → a = 0 := fun a h => by
    rcases Int.mul_eq_zero.1 h with h | h
    · exact h
    · omega
  have eB : dt N B = dt N A := by
    have q := crs_thr t (sb B A)
    rw [crs_self_l, dt_sb] at q
    have := z _ q.symm
    omega
  have eC : dt N C = dt N A := by
    have q := crs_thr t (sb C A)
    rw [crs_self_r, dt_sb] at q
    have := z _ q.symm
    omega
  rcases hpe with rfl | rfl
  · rw [t.th]
    exact ⟨t.b, fun e => t.ne (by have e' : N = ⟨0, 0, 0⟩ := e; rw [e']; exact ⟨rfl, rfl, rfl⟩), A, B, C, hA, hB, hC, crs_ne t, eB, eC, rfl, t.sd⟩
  · have hn : (pFlip (pThrough A B C)).n = ⟨-N.x, -N.y, -N.z⟩ := by rw [t.th]; unfold pFlip; simp only []; rw [vneg_plain t.b]
    have hneg : ∀ w, dt (pFlip (pThrough A B C)).n w = -dt N w := fun w => by
      rw [hn]
      unfold dt
      simp only []
      simp only [Int.neg_mul]
      omega
    refine ⟨?_, ?_, A, B, C, hA, hB, hC, crs_ne t, ?_, ?_, ?_, fun D hD => ?_⟩
    · rw [hn]
      obtain ⟨b1, b2, b3, b4, b5, b6⟩ := t.b
      exact ⟨by simp only []; omega, by simp only []; omega, by simp only []; omega, by simp only []; omega, by simp only []; omega, by simp only []; omega⟩
    · rw [hn]
      intro e
      injection e with e1 e2 e3
      exact t.ne ⟨by omega, by omega, by omega⟩
    · rw [hneg, hneg, eB]
    · rw [hneg, hneg, eC]
    · rw [hneg, t.th]
      have q := dot_plain t.b (bA.mono (by omega))
      have e : vDot N A = dt N A := q.1
      unfold pFlip
      simp only []
      rw [← e, wr_id ⟨by omega, by omega⟩]
    · rw [hneg, hneg, side_flip bA bB bC ho, t.th, t.sd D hD]
      exact (ordI_neg _ _).symm
theorem perp_to (n : V3) : ∃ d : V3, d ≠ ⟨0, 0, 0⟩ ∧ dt n d = 0 := by
  by_cases h2 : n.x = 0 ∧ n.y = 0
  · exact ⟨⟨1, 0, 0⟩, by simp, by unfold dt; simp [h2.1]⟩
  · refine ⟨⟨-n.y, n.x, 0⟩, fun e => h2 ?_, by unfold dt; grind⟩
    injection e with e1 e2
    exact ⟨e2, by omega⟩
/-- Vectors that do not span the space are perpendicular to some vector. -/
theorem perp_all (S : List V3) (h : ∀ a b c, a ∈ S → b ∈ S → c ∈ S → dt (crs a b) c = 0) : ∃ d : V3, d ≠ ⟨0, 0, 0⟩ ∧ ∀ a ∈ S, dt a d = 0 := by
  by_cases h2 : ∃ a b, a ∈ S ∧ b ∈ S ∧ crs a b ≠ ⟨0, 0, 0⟩
  · obtain ⟨a, b, ha, hb, hne⟩ := h2
    exact ⟨crs a b, hne, fun c hc => by have q := h a b c ha hb hc; have e : dt c (crs a b) = dt (crs a b) c := by unfold dt; grind
                                        rw [e, q]⟩
  · by_cases h1 : ∃ a ∈ S, a ≠ ⟨0, 0, 0⟩
    · obtain ⟨a, ha, hne⟩ := h1
      obtain ⟨d, hd, had⟩ := perp_to a
      refine ⟨d, hd, fun b hb => ?_⟩
      have hc : crs a b = ⟨0, 0, 0⟩ := Classical.byContradiction fun e => h2 ⟨a, b, ha, hb, e⟩
      have hp := sq_pos hne
      have e1 : a.y * b.z - a.z * b.y = 0 := congrArg V3.x hc
      have e2 : a.z * b.x - a.x * b.z = 0 := congrArg V3.y hc
      have e3 : a.x * b.y - a.y * b.x = 0 := congrArg V3.z hc
      have q : dt a a * dt b d = dt a b * dt a d := by unfold dt; grind
      rw [had, Int.mul_zero] at q
      rcases Int.mul_eq_zero.1 q with h | h
      · omega
      · exact h
    · exact ⟨⟨1, 0, 0⟩, by simp, fun a ha => by
        have : a = ⟨0, 0, 0⟩ := Classical.byContradiction fun e => h1 ⟨a, ha, e⟩
        rw [this, dt_zero_l]⟩
theorem bound_of (f : V3 → Int) : ∀ S : List V3, ∃ K : Int, 0 < K ∧ ∀ v ∈ S, f v < K
  | [] => ⟨1, by omega, fun v hv => by cases hv⟩
  | x :: S => by
    obtain ⟨K, h0, h⟩ := bound_of f S
    rcases Int.le_total K (f x + 1) with h1 | h1
    · exact ⟨f x + 1, by omega, fun v hv => by
        rcases List.mem_cons.1 hv with rfl | hv
        · omega
        · have := h v hv; omega⟩
    · exact ⟨K, h0, fun v hv => by
        rcases List.mem_cons.1 hv with rfl | hv
        · omega
        · exact h v hv⟩
/-- The only greatest point of a direction is a vertex. -/
theorem corner_of {L : List V3} (h : hCheck L = 0) {A c : V3} (hA : A ∈ L) (hc : ∀ v ∈ L, v ≠ A → dt c v < dt c A) : cornerB (facets L) A = true := by
  obtain ⟨h48, hin, _⟩ := check_ok h
  rw [cornerB_span]
  apply Classical.byContradiction
  intro hno
  have hall : ∀ a b c, a ∈ ((facets L).filter fun p => pSide p A == 0).map (·.n) → b ∈ ((facets L).filter fun p => pSide p A == 0).map (·.n) → c ∈ ((facets L).filter fun p => pSide p A == 0).map (·.n) → dt (crs a b) c = 0 := by
    intro a b c ha hb hc
    obtain ⟨p, hp, rfl⟩ := List.mem_map.1 ha
    obtain ⟨q, hq, rfl⟩ := List.mem_map.1 hb
    obtain ⟨r, hr, rfl⟩ := List.mem_map.1 hc
    have bp := (facet_side h (List.mem_filter.1 hp).1).1
    have bq := (facet_side h (List.mem_filter.1 hq).1).1
    have br := (facet_side h (List.mem_filter.1 hr).1).1
    have hx := cross_big bp bq
    rw [← dot_big hx.2 br, ← hx.1]
    exact Classical.byContradiction fun e => hno (span_iff.2 ⟨p, q, r, hp, hq, hr, e⟩)
  obtain ⟨d0, hd0, hperp0⟩ := perp_all _ hall
  -- the direction, so turned that c looks along it
  obtain ⟨d, hd, hperp, hcd⟩ : ∃ d : V3, d ≠ ⟨0, 0, 0⟩ ∧ (∀ p ∈ facets L, pSide p A = 0 → dt p.n d = 0) ∧ 0 ≤ dt c d := by
    have hp : ∀ p ∈ facets L, pSide p A = 0 → dt p.n d0 = 0 := fun p hp hs => hperp0 _ (List.mem_map.2 ⟨p, List.mem_filter.2 ⟨hp, by simp [hs]⟩, rfl⟩)
    rcases Int.le_total 0 (dt c d0) with h1 | h1
    · exact ⟨d0, hd0, hp, h1⟩
    · have e : ∀ n, dt n ⟨-d0.x, -d0.y, -d0.z⟩ = -dt n d0 := fun n => by unfold dt; grind
      refine ⟨⟨-d0.x, -d0.y, -d0.z⟩, fun e0 => hd0 ?_, fun p hp' hs => by rw [e, hp p hp' hs]; rfl, by rw [e]; omega⟩
      injection e0 with a1 a2 a3
      exact v3_zero ⟨by omega, by omega, by omega⟩
  obtain ⟨K, hK0, hK⟩ := bound_of (fun v => dt d v - dt d A) L
  have hmax : ∀ v ∈ L, dt (lin K c 1 d) v ≤ dt (lin K c 1 d) A := fun v hv => by
    rw [dt_lin, dt_lin]
    by_cases e : v = A
    · subst e; exact Int.le_refl _
    · have h1 := hc v hv e
      have h2 := hK v hv
      have h3 := Int.mul_le_mul_of_nonneg_left (show dt c v + 1 ≤ dt c A by omega) (Int.le_of_lt hK0)
      rw [Int.mul_add] at h3
      omega
  have hpos : 0 < dt (lin K c 1 d) d := by
    rw [dt_lin]
    have := Int.mul_nonneg (Int.le_of_lt hK0) hcd
    have := sq_pos hd
    omega
  obtain ⟨p, hp, hpd, hpA, _⟩ := facet_looksA h hA hmax hpos
  have := hperp p hp hpA
  omega
/-- A vertex is the only greatest point of some direction, in whatever list that the facets' planes hold. -/
theorem corner_dir {L : List V3} (h : hCheck L = 0) {x : V3} (hx : x ∈ L) (hc : cornerB (facets L) x = true) : ∃ c : V3, ∀ v ∈ L, v ≠ x → dt c v < dt c x := by
  obtain ⟨h48, hin, _⟩ := check_ok h
  rw [cornerB_span, span_iff] at hc
  obtain ⟨p, q, r, hp, hq, hr, hne⟩ := hc
  obtain ⟨hp, sp⟩ := List.mem_filter.1 hp
  obtain ⟨hq, sq⟩ := List.mem_filter.1 hq
  obtain ⟨hr, sr⟩ := List.mem_filter.1 hr
  have key : ∀ p ∈ facets L, (pSide p x == 0) = true → ∀ v ∈ L, dt p.n v ≤ dt p.n x := fun p hp sp v hv => by
    obtain ⟨_, _, A, B, C, _, _, _, _, _, _, _, hs⟩ := facet_side h hp
    have h1 : pSide p x = 0 := by simpa using sp
    rw [hs x (vIn_all hin hx)] at h1
    have h2 := ordI_zero'.1 h1
    have h3 := (facet_props h hp).2.1 v hv
    rw [hs v (vIn_all hin hv)] at h3
    have h4 : ¬ dt p.n A < dt p.n v := fun e => by
      unfold ordI at h3
      rw [if_neg (by omega), if_pos e] at h3
      omega
    omega
  have bp := (facet_side h hp).1
  have bq := (facet_side h hq).1
  have br := (facet_side h hr).1
  have hX := cross_big bp bq
  rw [hX.1, dot_big hX.2 br] at hne
  refine ⟨lin 1 (lin 1 p.n 1 q.n) 1 r.n, fun v hv hvx => ?_⟩
  have k1 := key p hp sp v hv
  have k2 := key q hq sq v hv
  have k3 := key r hr sr v hv
  rw [dt_lin, dt_lin, dt_lin, dt_lin]
  by_cases he : dt p.n v = dt p.n x ∧ dt q.n v = dt q.n x ∧ dt r.n v = dt r.n x
  · exfalso
    apply hvx
    obtain ⟨e1, e2, e3⟩ := he
    have f1 : dt p.n (sb v x) = 0 := by rw [dt_sb]; omega
    have f2 : dt q.n (sb v x) = 0 := by rw [dt_sb]; omega
    have f3 : dt r.n (sb v x) = 0 := by rw [dt_sb]; omega
    have z : ∀ a : Int, dt (crs p.n q.n) r.n * a = 0 → a = 0 := fun a h => by
      rcases Int.mul_eq_zero.1 h with h | h
      · exact absurd h hne
      · exact h
    have c1 : dt (crs p.n q.n) r.n * (sb v x).x = 0 := by
      generalize sb v x = w at *
      unfold dt crs at *
      grind
    have c2 : dt (crs p.n q.n) r.n * (sb v x).y = 0 := by
      generalize sb v x = w at *
      unfold dt crs at *
      grind
    have c3 : dt (crs p.n q.n) r.n * (sb v x).z = 0 := by
      generalize sb v x = w at *
      unfold dt crs at *
      grind
    have d1 := z _ c1
    have d2 := z _ c2
    have d3 := z _ c3
    unfold sb at d1 d2 d3
    simp only [] at d1 d2 d3
    obtain ⟨a, b, c⟩ := v
    obtain ⟨a', b', c'⟩ := x
    simp only [] at d1 d2 d3
    congr 1 <;> omega
  · omega
end Go.Proofs.Ytccnlnkgoaelpaa
namespace Go.Proofs.Ytccnlnkgoaelpaa
open Go.RowKit

/-- Some vertex is greatest in a direction. -/
theorem maxcorner {L : List V3} (h : hCheck L = 0) (N : V3) : ∃ w ∈ L, cornerB (facets L) w = true ∧ ∀ v ∈ L, dt N v ≤ dt N w := by
  obtain ⟨h48, hin, hpos⟩ := check_ok h
  obtain ⟨w, hw, hm⟩ := max_of (lin 1000000 N 1 ⟨10000, 100, 1⟩) L (by intro e; rw [e] at hpos; simp at hpos)
  have bw := vIn_all hin hw
  have ev : ∀ v : V3, dt ⟨10000, 100, 1⟩ v = 10000 * v.x + 100 * v.y + v.z := fun v => by unfold dt; simp
  have key : ∀ v ∈ L, dt N v ≤ dt N w ∧ (v ≠ w → dt (lin 1000000 N 1 ⟨10000, 100, 1⟩) v < dt (lin 1000000 N 1 ⟨10000, 100, 1⟩) w) := fun v hv => by
    have bv := vIn_all hin hv
    have q := hm v hv
    rw [dt_lin, dt_lin, ev, ev] at q
    obtain ⟨v1, v2, v3, v4, v5, v6⟩ := bv
    obtain ⟨w1, w2, w3, w4, w5, w6⟩ := bw
    refine ⟨by omega, fun hne => ?_⟩
    rw [dt_lin, dt_lin, ev, ev]
    rcases Int.lt_or_eq_of_le q with h1 | h1
    · exact h1
    · exfalso
      apply hne
      obtain ⟨a, b, c⟩ := v
      obtain ⟨a', b', c'⟩ := w
      simp only [] at v1 v2 v3 v4 v5 v6 w1 w2 w3 w4 w5 w6 h1
      congr 1 <;> omega
  exact ⟨w, hw, corner_of h hw (fun v hv hne => (key v hv).2 hne), fun v hv => (key v hv).1⟩
theorem facet_sup {L : List V3} (h : hCheck L = 0) {p : Pl} (hp : p ∈ facets L) : ∀ v ∈ L, dt p.n v ≤ p.b := fun v hv => by
  obtain ⟨h48, hin, _⟩ := check_ok h
  obtain ⟨_, _, A, B, C, _, _, _, _, _, _, hb, hs⟩ := facet_side h hp
  have h3 := (facet_props h hp).2.1 v hv
  rw [hs v (vIn_all hin hv)] at h3
  have h4 : ¬ dt p.n A < dt p.n v := fun e => by
    unfold ordI at h3
    rw [if_neg (by omega), if_pos e] at h3
    omega
  omega
theorem push {L : List V3} (h : hCheck L = 0) {p : Pl} (hp : p ∈ facets L) (M : V3) {v0 : V3} (h0 : v0 ∈ L) (ht : dt p.n v0 = p.b) : ∃ w ∈ L, cornerB (facets L) w = true ∧ dt p.n w = p.b ∧ dt M v0 ≤ dt M w := by
  obtain ⟨K, hK0, hK⟩ := bound_of (fun v => dt M v - dt M v0) L
  obtain ⟨w, hw, hc, hm⟩ := maxcorner h (lin K p.n 1 M)
  have q := hm v0 h0
  rw [dt_lin, dt_lin, ht] at q
  have hs := facet_sup h hp w hw
  have hKw := hK w hw
  have e : dt p.n w = p.b := by
    rcases Int.lt_or_eq_of_le hs with h1 | h1
    · have h3 := Int.mul_le_mul_of_nonneg_left (show dt p.n w + 1 ≤ p.b by omega) (Int.le_of_lt hK0)
      rw [Int.mul_add] at h3
      omega
    · exact h1
  rw [e] at q
  exact ⟨w, hw, hc, e, by omega⟩
theorem dt_negv (M v : V3) : dt ⟨-M.x, -M.y, -M.z⟩ v = -dt M v := by unfold dt; grind
/-- What all vertices on a facet share, its points do. -/
theorem share {L : List V3} (h : hCheck L = 0) {p : Pl} (hp : p ∈ facets L) (M : V3) {c : Int} (hc : ∀ w ∈ L, cornerB (facets L) w = true → dt p.n w = p.b → dt M w = c) {v0 : V3} (h0 : v0 ∈ L) (ht : dt p.n v0 = p.b) : dt M v0 = c := by
  obtain ⟨w, hw, h1, h2, h3⟩ := push h hp M h0 ht
  obtain ⟨u, hu, k1, k2, k3⟩ := push h hp ⟨-M.x, -M.y, -M.z⟩ h0 ht
  rw [dt_negv, dt_negv] at k3
  have := hc w hw h1 h2
  have := hc u hu k1 k2
  omega
theorem v3_of_units {a b : V3} (h : ∀ M, dt M a = dt M b) : a = b := by
  have h1 := h ⟨1, 0, 0⟩
  have h2 := h ⟨0, 1, 0⟩
  have h3 := h ⟨0, 0, 1⟩
  unfold dt at h1 h2 h3
  simp at h1 h2 h3
  exact V3.ext h1 h2 h3
/-- Three vertices on a facet that do not lie on a line. -/
theorem corners3 {L : List V3} (h : hCheck L = 0) {p : Pl} (hp : p ∈ facets L) : ∃ a b c, (a ∈ L ∧ cornerB (facets L) a = true ∧ dt p.n a = p.b) ∧ (b ∈ L ∧ cornerB (facets L) b = true ∧ dt p.n b = p.b) ∧ (c ∈ L ∧ cornerB (facets L) c = true ∧ dt p.n c = p.b) ∧ crs (sb b a) (sb c a) ≠ ⟨0, 0, 0⟩ := by
  obtain ⟨bn, hn0, A, B, C, hA, hB, hC, hX, eB, eC, hb, hs⟩ := facet_side h hp
  have tA : dt p.n A = p.b := hb.symm
  have tB : dt p.n B = p.b := eB.trans hb.symm
  have tC : dt p.n C = p.b := eC.trans hb.symm
  obtain ⟨a, ha, ca, ta, _⟩ := push h hp ⟨0, 0, 0⟩ hA tA
  have hb2 : ∃ b, (b ∈ L ∧ cornerB (facets L) b = true ∧ dt p.n b = p.b) ∧ b ≠ a := Classical.byContradiction fun hno => by
    have hall : ∀ w ∈ L, cornerB (facets L) w = true → dt p.n w = p.b → w = a := fun w hw h1 h2 => Classical.byContradiction fun e => hno ⟨w, ⟨hw, h1, h2⟩, e⟩
    have eq : ∀ v ∈ L, dt p.n v = p.b → v = a := fun v hv ht => v3_of_units fun M => share h hp M (fun w hw h1 h2 => by rw [hall w hw h1 h2]) hv ht
    apply hX
    rw [eq A hA tA, eq B hB tB]
    unfold sb crs
    simp
  obtain ⟨b, ⟨hbm, cb, tb⟩, hab⟩ := hb2
  apply Classical.byContradiction
  intro hno
  have hcol : ∀ w ∈ L, cornerB (facets L) w = true → dt p.n w = p.b → crs (sb b a) (sb w a) = ⟨0, 0, 0⟩ := fun w hw h1 h2 => Classical.byContradiction fun e => hno ⟨a, b, w, ⟨ha, ca, ta⟩, ⟨hbm, cb, tb⟩, ⟨hw, h1, h2⟩, e⟩
  have hM : ∀ v ∈ L, dt p.n v = p.b → dt (crs p.n (sb b a)) v = dt (crs p.n (sb b a)) a := fun v hv ht => share h hp _ (fun w hw h1 h2 => by
    have q := hcol w hw h1 h2
    have e : dt (crs p.n (sb b a)) (sb w a) = dt p.n (crs (sb b a) (sb w a)) := by
      generalize sb b a = l
      generalize sb w a = t
      unfold dt crs
      grind
    rw [q, dt_zero_r, dt_sb] at e
    omega) hv ht
  have mA := hM A hA tA
  have mB := hM B hB tB
  have mC := hM C hC tC
  have nl : dt p.n (sb b a) = 0 := by rw [dt_sb]; omega
  have hl : sb b a ≠ ⟨0, 0, 0⟩ := fun e => hab (by
    have e1 := congrArg V3.x e
    have e2 := congrArg V3.y e
    have e3 := congrArg V3.z e
    unfold sb at e1 e2 e3
    simp only [] at e1 e2 e3
    exact V3.ext (by omega) (by omega) (by omega))
  have hM0 : crs p.n (sb b a) ≠ ⟨0, 0, 0⟩ := fun e => hl (by
    generalize sb b a = l at *
    have e1 : p.n.y * l.z - p.n.z * l.y = 0 := congrArg V3.x e
    have e2 : p.n.z * l.x - p.n.x * l.z = 0 := congrArg V3.y e
    have e3 : p.n.x * l.y - p.n.y * l.x = 0 := congrArg V3.z e
    have hnn := sq_pos hn0
    generalize p.n = n at *
    unfold dt at nl hnn
    have f1 : l.x * (n.x * n.x + n.y * n.y + n.z * n.z) = 0 := by grind
    have f2 : l.y * (n.x * n.x + n.y * n.y + n.z * n.z) = 0 := by grind
    have f3 : l.z * (n.x * n.x + n.y * n.y + n.z * n.z) = 0 := by grind
    have z : ∀ a : Int, a * (n.x * n.x + n.y * n.y + n.z * n.z) = 0 → a = 0 := fun a h => by
      rcases Int.mul_eq_zero.1 h with h | h
      · exact h
      · omega
    exact v3_zero ⟨z _ f1, z _ f2, z _ f3⟩)
  have nM : dt p.n (crs p.n (sb b a)) = 0 := by generalize sb b a = l; unfold dt crs; grind
  have P1 := par (n := p.n) (a := sb B A) (b := sb C A) (by rw [dt_sb]; omega) (by rw [dt_sb]; omega)
  have P2 := par (n := crs p.n (sb b a)) (a := sb B A) (b := sb C A) (by rw [dt_sb]; omega) (by rw [dt_sb]; omega)
  have hXX := sq_pos hX
  have hnn := sq_pos hn0
  have hMM := sq_pos hM0
  generalize crs (sb B A) (sb C A) = X at *
  generalize crs p.n (sb b a) = M at *
  have q1 := P1 M
  rw [nM, Int.mul_zero] at q1
  rcases Int.mul_eq_zero.1 q1.symm with h1 | h1
  · have q := P1 p.n
    rw [h1, Int.zero_mul] at q
    have := Int.mul_pos hXX hnn
    omega
  · have q := P2 M
    rw [h1, Int.mul_zero] at q
    have := Int.mul_pos hXX hMM
    omega
end Go.Proofs.Ytccnlnkgoaelpaa
namespace Go.Proofs.Ytccnlnkgoaelpaa
open Go.RowKit

theorem abs_par {a b c A B C : Nat} (h1 : a * B = b * A) (h2 : b * C = c * B) (h3 : c * A = a * C) (g : Nat.gcd (Nat.gcd a b) c = 1) (G : Nat.gcd (Nat.gcd A B) C = 1) : a = A ∧ b = B ∧ c = C := by
  have e : ∀ k a b c : Nat, Nat.gcd (Nat.gcd (k * a) (k * b)) (k * c) = k * Nat.gcd (Nat.gcd a b) c := fun k a b c => by rw [Nat.gcd_mul_left, Nat.gcd_mul_left]
  refine ⟨?_, ?_, ?_⟩
  · have x := e A a b c
    have y := e a A B C
    rw [g] at x
    rw [G] at y
    rw [Nat.mul_comm A a, Nat.mul_comm A b, ← h1, Nat.mul_comm A c, h3] at x
    rw [x] at y
    omega
  · have x := e B a b c
    have y := e b A B C
    rw [g] at x
    rw [G] at y
    rw [Nat.mul_comm B a, h1, Nat.mul_comm B b, Nat.mul_comm B c, ← h2] at x
    rw [x] at y
    omega
  · have x := e C a b c
    have y := e c A B C
    rw [g] at x
    rw [G] at y
    rw [Nat.mul_comm C a, ← h3, Nat.mul_comm C b, h2, Nat.mul_comm C c] at x
    rw [x] at y
    omega
theorem gcd_big {n : V3} (b : Bd 4608 n) (h : vGcd n = 1) : Nat.gcd (Nat.gcd n.x.natAbs n.y.natAbs) n.z.natAbs = 1 := by
  obtain ⟨b1, b2, b3, b4, b5, b6⟩ := b
  have mi : ∀ a : Int, -4608 ≤ a → minI a = false := fun a h => by unfold minI; simp; omega
  unfold vGcd at h
  rw [mi _ b1, mi _ b3, mi _ b5] at h
  simp at h
  exact_mod_cast h
theorem prim_par {n N : V3} (bn : Bd 4608 n) (bN : Bd 4608 N) (hn : vGcd n = 1) (hN : vGcd N = 1) (c1 : n.x * N.y = n.y * N.x) (c2 : n.y * N.z = n.z * N.y) (c3 : n.z * N.x = n.x * N.z) : n = N ∨ n = ⟨-N.x, -N.y, -N.z⟩ := by
  have e1 := congrArg Int.natAbs c1
  have e2 := congrArg Int.natAbs c2
  have e3 := congrArg Int.natAbs c3
  rw [Int.natAbs_mul, Int.natAbs_mul] at e1 e2 e3
  obtain ⟨a1, a2, a3⟩ := abs_par e1 e2 e3 (gcd_big bn hn) (gcd_big bN hN)
  have s1 : n.x * n.x = N.x * N.x := by
    rcases (show n.x = N.x ∨ n.x = -N.x by omega) with e | e
    · rw [e]
    · rw [e, Int.neg_mul_neg]
  have s2 : n.y * n.y = N.y * N.y := by
    rcases (show n.y = N.y ∨ n.y = -N.y by omega) with e | e
    · rw [e]
    · rw [e, Int.neg_mul_neg]
  have s3 : n.z * n.z = N.z * N.z := by
    rcases (show n.z = N.z ∨ n.z = -N.z by omega) with e | e
    · rw [e]
    · rw [e, Int.neg_mul_neg]
  have hN0 : N ≠ ⟨0, 0, 0⟩ := fun e => by
    have q := gcd_big bN hN
    rw [e] at q
    simp at q
  have hq := sq_pos hN0
  have q1 : dt N N * n.x = dt n N * N.x := by unfold dt; grind
  have q2 : dt N N * n.y = dt n N * N.y := by unfold dt; grind
  have q3 : dt N N * n.z = dt n N * N.z := by unfold dt; grind
  have q4 : (dt n N - dt N N) * (dt n N + dt N N) = 0 := by
    have e : dt n N * dt n N = dt N N * dt N N := by unfold dt; grind
    have e2 : (dt n N - dt N N) * (dt n N + dt N N) = dt n N * dt n N - dt N N * dt N N := by grind
    rw [e2, e, Int.sub_self]
  have cn : ∀ a b : Int, dt N N * a = dt N N * b → a = b := fun a b h => Int.eq_of_mul_eq_mul_left (by omega) h
  rcases Int.mul_eq_zero.1 q4 with e | e
  · have es : dt n N = dt N N := by omega
    rw [es] at q1 q2 q3
    exact .inl (V3.ext (cn _ _ q1) (cn _ _ q2) (cn _ _ q3))
  · have es : dt n N = -dt N N := by omega
    rw [es, Int.neg_mul, ← Int.mul_neg] at q1 q2 q3
    exact .inr (V3.ext (cn _ _ q1) (cn _ _ q2) (cn _ _ q3))
/-- A facet is the plane through any three points on it that do not lie on a line. -/
theorem both_of {L : List V3} (h : hCheck L = 0) {p : Pl} (hp : p ∈ facets L) {a b c : V3} (ha : Bd 24 a) (hb : Bd 24 b) (hc : Bd 24 c) (ta : dt p.n a = p.b) (tb : dt p.n b = p.b) (tc : dt p.n c = p.b) (hX : crs (sb b a) (sb c a) ≠ ⟨0, 0, 0⟩) : p ∈ both a b c := by
  have ho := ok_of_crs ha hb hc hX
  obtain ⟨N, m, t⟩ := thrP ha hb hc ho
  have hm := t.m1
  have hval := (facet_props h hp).1
  have bn := (facet_side h hp).1
  have g1 : ∀ q : Pl, pValid q = true → vGcd q.n = 1 := fun q hq => by
    unfold pValid at hq
    simp only [Bool.and_eq_true, beq_iff_eq] at hq
    exact hq.2.1
  obtain ⟨h1, h2, h3⟩ := cross_perp p.n (sb b a) (sb c a)
  have p1 : dt p.n (sb b a) = 0 := by rw [dt_sb]; omega
  have p2 : dt p.n (sb c a) = 0 := by rw [dt_sb]; omega
  rw [p1, p2] at h1 h2 h3
  simp only [Int.mul_zero, Int.sub_zero] at h1 h2 h3
  have x1 : (crs (sb b a) (sb c a)).x = N.x * m := t.ex
  have x2 : (crs (sb b a) (sb c a)).y = N.y * m := t.ey
  have x3 : (crs (sb b a) (sb c a)).z = N.z * m := t.ez
  simp only [x1, x2, x3] at h1 h2 h3
  clear x1 x2 x3
  have z : ∀ a : Int, a * m = 0 → a = 0 := fun a h => by
    rcases Int.mul_eq_zero.1 h with h | h
    · exact h
    · omega
  have d1 := z (p.n.y * N.z - p.n.z * N.y) (by grind)
  have d2 := z (p.n.z * N.x - p.n.x * N.z) (by grind)
  have d3 := z (p.n.x * N.y - p.n.y * N.x) (by grind)
  unfold both
  rw [if_pos ho, t.th]
  rcases prim_par bn t.b (g1 p hval) (g1 ⟨N, dt N a⟩ t.va) (by omega) (by omega) (by omega) with e | e
  · have : p = ⟨N, dt N a⟩ := by
      obtain ⟨n, b0⟩ := p
      simp only [] at e ta
      subst e
      rw [ta]
    rw [this]
    simp
  · have : p = pFlip ⟨N, dt N a⟩ := by
      obtain ⟨n, b0⟩ := p
      simp only [] at e ta
      subst e
      have q := dot_plain t.b (ha.mono (by omega))
      have e1 : vDot N a = dt N a := q.1
      have e2 := dt_negv N a
      unfold pFlip
      simp only []
      rw [vneg_plain t.b, ← ta, e2, ← e1, wr_id ⟨by omega, by omega⟩]
    rw [this]
    simp
/-- The vertices do not lie in one plane, and have the same facets. -/
theorem verts_facets {L V : List V3} (h : hCheck L = 0) (hlen : V.length ≤ 48) (hV : ∀ v, v ∈ V ↔ v ∈ L ∧ cornerB (facets L) v = true) : hCheck V = 0 ∧ facets V = facets L := by
  obtain ⟨h48, hin, hpos⟩ := check_ok h
  have hinV : V.all vIn = true := List.all_eq_true.2 fun v hv => List.all_eq_true.1 hin v ((hV v).1 hv).1
  have through : ∀ p ∈ facets L, IsThr V p := fun p hp => by
    obtain ⟨a, b, c, ⟨ha, ca, ta⟩, ⟨hb, cb, tb⟩, ⟨hc, cc, tc⟩, hX⟩ := corners3 h hp
    exact ⟨a, b, c, (hV a).2 ⟨ha, ca⟩, (hV b).2 ⟨hb, cb⟩, (hV c).2 ⟨hc, cc⟩, both_of h hp (vIn_all hin ha) (vIn_all hin hb) (vIn_all hin hc) ta tb tc hX⟩
  have hflat : flatB V = false := by
    obtain ⟨p, hp, _⟩ := facet_looks h (d := ⟨1, 0, 0⟩) (by simp)
    obtain ⟨w, hw, hcw, hmin⟩ := maxcorner h ⟨-p.n.x, -p.n.y, -p.n.z⟩
    obtain ⟨bn, hn0, A, B, C, hA, hB, hC, hX, eB, eC, hb, hs⟩ := facet_side h hp
    have hne : dt p.n w ≠ p.b := fun e => by
      obtain ⟨v, hv, hvb⟩ := not_flat h p.n p.b hn0
      have h1 := hmin v hv
      rw [dt_negv, dt_negv] at h1
      have h2 := facet_sup h hp v hv
      omega
    obtain ⟨i, j, k, hi, hj, hk, hbth⟩ := (thr_iff hinV p).2 (through p hp)
    have bi := vIn_all hinV (vAt_mem hi)
    have bj := vIn_all hinV (vAt_mem (L := V) (i := j) (by omega))
    have bk := vIn_all hinV (vAt_mem (L := V) (i := k) (by omega))
    obtain ⟨ho, hpe⟩ := both_ok ((both_rev bk bj bi).1 hbth)
    obtain ⟨mm, hmm, ew⟩ := mem_vAt ((hV w).2 ⟨hw, hcw⟩)
    refine flat_no hinV hi hj hk hmm ho (fun e => hne ?_)
    rw [ew] at e
    have hside : pSide p w = 0 := by
      rcases hpe with rfl | rfl
      · exact e
      · rw [side_flip bi bj bk ho, e]; rfl
    rw [hs w (vIn_all hin hw)] at hside
    have := ordI_zero'.1 hside
    omega
  have hcV : hCheck V = 0 := by
    unfold hCheck
    rw [if_neg (by omega), if_pos hinV, hflat]
    rfl
  refine ⟨hcV, sorted_eq pLt_strict (sorted_facets V) (sorted_facets L) fun p => ⟨fun hp => ?_, fun hp => ?_⟩⟩
  · obtain ⟨⟨a, b, c, ha, hb, hc, hbt⟩, _⟩ := (mem_facets hinV p).1 hp
    refine (mem_facets hin p).2 ⟨⟨a, b, c, ((hV a).1 ha).1, ((hV b).1 hb).1, ((hV c).1 hc).1, hbt⟩, ?_⟩
    obtain ⟨w, hw, hcw, hmax⟩ := maxcorner h p.n
    have hwb := facet_sup hcV hp w ((hV w).2 ⟨hw, hcw⟩)
    obtain ⟨_, _, A, B, C, _, _, _, _, _, _, hb', hs⟩ := facet_side hcV hp
    unfold insideB
    rw [List.all_eq_true]
    intro v hv
    rw [hs v (vIn_all hin hv)]
    have h1 := hmax v hv
    have := ordI_le (show dt p.n v ≤ dt p.n A by omega)
    simpa using this
  · refine (mem_facets hinV p).2 ⟨through p hp, ?_⟩
    unfold insideB
    rw [List.all_eq_true]
    intro v hv
    simpa using (facet_props h hp).2.1 v ((hV v).1 hv).1
/-- The points but one: a vertex lies outside of their hull, another point inside. -/
theorem others_has {L O : List V3} (h : hCheck L = 0) {x : V3} (hx : x ∈ L) (hO : ∀ v, v ∈ O ↔ v ∈ L ∧ v ≠ x) (hcO : hCheck O = 0) : hHas O x = !cornerB (facets L) x := by
  obtain ⟨h48, hin, hpos⟩ := check_ok h
  obtain ⟨_, hinO, hposO⟩ := check_ok hcO
  have bx := vIn_all hin hx
  cases hc : cornerB (facets L) x with
  | true =>
    obtain ⟨c, hcm⟩ := corner_dir h hx hc
    obtain ⟨A, hA, hmax⟩ := max_of c O (by intro e; rw [e] at hposO; simp at hposO)
    have hlt := hcm A ((hO A).1 hA).1 ((hO A).1 hA).2
    obtain ⟨p, hp, hpd, hpA, hs⟩ := facet_looksA hcO (N0 := c) (d := sb x A) hA hmax (by rw [dt_sb]; omega)
    rw [dt_sb] at hpd
    obtain ⟨k, hk, rfl⟩ := mem_pAt hp
    refine has_no hk rfl ?_
    rw [hs x bx]
    unfold ordI
    rw [if_neg (by omega), if_pos (by omega)]
    omega
  | false =>
    refine has_yes hcO bx.vIn (fun j hj => ?_)
    have hp := pAt_mem hj
    generalize pAt (facets O) j = p at *
    obtain ⟨_, _, A, B, C, hA, _, _, _, _, _, hb, hs⟩ := facet_side hcO hp
    rw [hs x bx]
    refine ordI_le (Classical.byContradiction fun e => ?_)
    have hu : cornerB (facets L) x = true := corner_of h (c := p.n) hx (fun v hv hne => by
      have := facet_sup hcO hp v ((hO v).2 ⟨hv, hne⟩)
      omega)
    rw [hc] at hu
    cases hu
/-- If the other points lie in one plane, the one is a vertex. -/
theorem others_flat {L O : List V3} (h : hCheck L = 0) {x : V3} (hx : x ∈ L) (hO : ∀ v, v ∈ O ↔ v ∈ L ∧ v ≠ x) (hlen : O.length ≤ 48) : hCheck O = 0 ∨ (hCheck O = 11 ∧ cornerB (facets L) x = true) := by
  obtain ⟨h48, hin, hpos⟩ := check_ok h
  have hinO : O.all vIn = true := List.all_eq_true.2 fun v hv => List.all_eq_true.1 hin v ((hO v).1 hv).1
  have hval : hCheck O = if flatB O = true then 11 else 0 := by
    unfold hCheck
    rw [if_neg (by omega), if_pos hinO]
  cases hf : flatB O with
  | false => left; rw [hval, hf]; rfl
  | true =>
    right
    refine ⟨by rw [hval, hf]; rfl, Classical.byContradiction fun hno => ?_⟩
    -- x lies in a facet of L through three vertices; none of them is x: so these are others, and a further vertex lies off it
    obtain ⟨p, hp, _⟩ := facet_looks h (d := ⟨1, 0, 0⟩) (by simp)
    obtain ⟨a, b, c, ⟨ha, ca, ta⟩, ⟨hb, cb, tb⟩, ⟨hc, cc, tc⟩, hX⟩ := corners3 h hp
    obtain ⟨w, hw, hcw, hmin⟩ := maxcorner h ⟨-p.n.x, -p.n.y, -p.n.z⟩
    obtain ⟨bn, hn0, A, B, C, hA, hB, hC, _, eB, eC, hpb, hs⟩ := facet_side h hp
    have nx : ∀ v, cornerB (facets L) v = true → v ≠ x := fun v hv e => hno (by rw [← e]; exact hv)
    have hne : dt p.n w ≠ p.b := fun e => by
      obtain ⟨v, hv, hvb⟩ := not_flat h p.n p.b hn0
      have h1 := hmin v hv
      rw [dt_negv, dt_negv] at h1
      have h2 := facet_sup h hp v hv
      omega
    obtain ⟨i, j, k, hi, hj, hk, hbth⟩ := (thr_iff hinO p).2 ⟨a, b, c, (hO a).2 ⟨ha, nx a ca⟩, (hO b).2 ⟨hb, nx b cb⟩, (hO c).2 ⟨hc, nx c cc⟩, both_of h hp (vIn_all hin ha) (vIn_all hin hb) (vIn_all hin hc) ta tb tc hX⟩
    have bi := vIn_all hinO (vAt_mem hi)
    have bj := vIn_all hinO (vAt_mem (L := O) (i := j) (by omega))
    have bk := vIn_all hinO (vAt_mem (L := O) (i := k) (by omega))
    obtain ⟨ho, hpe⟩ := both_ok ((both_rev bk bj bi).1 hbth)
    obtain ⟨mm, hmm, ew⟩ := mem_vAt ((hO w).2 ⟨hw, nx w hcw⟩)
    have hfl : flatB O = false := flat_no hinO hi hj hk hmm ho (fun e => hne (by
      rw [ew] at e
      have hside : pSide p w = 0 := by
        rcases hpe with rfl | rfl
        · exact e
        · rw [side_flip bi bj bk ho, e]; rfl
      rw [hs w (vIn_all hin hw)] at hside
      have := ordI_zero'.1 hside
      omega))
    rw [hf] at hfl
    cases hfl
end Go.Proofs.Ytccnlnkgoaelpaa
namespace Go.Proofs.Ytccnlnkgoaelpaa
open Go.RowKit

theorem mem_facets_iff {L : List V3} (h : hCheck L = 0) (p : Pl) : p ∈ facets L ↔ Bd 4608 p.n ∧ vGcd p.n = 1 ∧ (∀ v ∈ L, dt p.n v ≤ p.b) ∧ ∃ A B C, A ∈ L ∧ B ∈ L ∧ C ∈ L ∧ crs (sb B A) (sb C A) ≠ ⟨0, 0, 0⟩ ∧ dt p.n A = p.b ∧ dt p.n B = p.b ∧ dt p.n C = p.b := by
  obtain ⟨h48, hin, hpos⟩ := check_ok h
  have gv : ∀ q ∈ facets L, vGcd q.n = 1 := fun q hq => by
    have hv := (facet_props h hq).1
    unfold pValid at hv
    simp only [Bool.and_eq_true, beq_iff_eq] at hv
    exact hv.2.1
  constructor
  · intro hp
    obtain ⟨bn, hn0, A, B, C, hA, hB, hC, hX, eB, eC, hb, hs⟩ := facet_side h hp
    exact ⟨bn, gv p hp, facet_sup h hp, A, B, C, hA, hB, hC, hX, hb.symm, eB.trans hb.symm, eC.trans hb.symm⟩
  · rintro ⟨bn, hg, hsup, A, B, C, hA, hB, hC, hX, tA, tB, tC⟩
    have hn0 : p.n ≠ ⟨0, 0, 0⟩ := fun e => by
      have q := gcd_big bn hg
      rw [e] at q
      simp at q
    obtain ⟨p', f⟩ := facet_of h hsup hA hB hC tA tB tC hn0 hX
    obtain ⟨s, t, hs, ht, hpar⟩ := f.par
    have u1 := hpar ⟨1, 0, 0⟩
    have u2 := hpar ⟨0, 1, 0⟩
    have u3 := hpar ⟨0, 0, 1⟩
    unfold dt at u1 u2 u3
    simp at u1 u2 u3
    have hst := Int.mul_pos hs ht
    have z : ∀ a b : Int, s * t * a = s * t * b → a = b := fun a b h => Int.eq_of_mul_eq_mul_left (by omega) h
    have c1 : p.n.x * p'.n.y = p.n.y * p'.n.x := z _ _ (by grind)
    have c2 : p.n.y * p'.n.z = p.n.z * p'.n.y := z _ _ (by grind)
    have c3 : p.n.z * p'.n.x = p.n.x * p'.n.z := z _ _ (by grind)
    have hn : p.n = p'.n := by
      rcases prim_par bn f.bd hg (gv p' f.mem) c1 c2 c3 with e | e
      · exact e
      · exfalso
        apply hn0
        have k1 : p.n.x = -p'.n.x := by rw [e]
        have k2 : p.n.y = -p'.n.y := by rw [e]
        have k3 : p.n.z = -p'.n.z := by rw [e]
        have m : ∀ a b : Int, a = -b → s * a = t * b → a = 0 := fun a b h1 h2 => by
          subst h1
          have q : (s + t) * b = 0 := by grind
          rcases Int.mul_eq_zero.1 q with h | h
          · omega
          · omega
        exact v3_zero ⟨m _ _ k1 u1, m _ _ k2 u2, m _ _ k3 u3⟩
    have hb : p'.b = p.b := by
      obtain ⟨_, _, A', B', C', hA', _, _, _, _, _, hb', hs'⟩ := facet_side h f.mem
      have bA := vIn_all hin hA
      have q1 := f.side A bA
      rw [hs' A bA] at q1
      have q2 : ordI (dt p'.n A) (dt p'.n A) = 0 := ordI_zero'.2 rfl
      rw [q2] at q1
      have := ordI_zero'.1 q1
      rw [hb', ← this, ← hn, tA]
    have : p = p' := by
      obtain ⟨n, b⟩ := p
      obtain ⟨n', b'⟩ := p'
      simp only [] at hn hb
      rw [hn, hb]
    rw [this]
    exact f.mem
def mvP (s : V3) (p : Pl) : Pl := ⟨p.n, p.b + dt p.n s⟩
def addV (a s : V3) : V3 := ⟨a.x + s.x, a.y + s.y, a.z + s.z⟩
theorem dt_addV (n a s : V3) : dt n (addV a s) = dt n a + dt n s := by unfold dt addV; grind
theorem sb_addV (a b s : V3) : sb (addV a s) (addV b s) = sb a b := by unfold sb addV; simp; omega
/-- Moved points have the moved facets. -/
theorem facets_moved {L M : List V3} {s : V3} (h : hCheck L = 0) (hM0 : hCheck M = 0) (hM : ∀ v, v ∈ M ↔ ∃ u ∈ L, v = addV u s) : facets M = (facets L).map (mvP s) := by
  refine sorted_eq pLt_strict (sorted_facets M) ?_ fun p => ?_
  · -- facets with the same normal are the same: so the order is that of the normals
    have hs := sorted_facets L
    unfold SortedL at hs ⊢
    rw [List.pairwise_map]
    have same : ∀ p ∈ facets L, ∀ q ∈ facets L, p.n = q.n → p.b = q.b := fun p hp q hq e => by
      obtain ⟨_, _, h1, A, _, _, hA, _, _, _, tA, _, _⟩ := (mem_facets_iff h p).1 hp
      obtain ⟨_, _, h2, B, _, _, hB, _, _, _, tB, _, _⟩ := (mem_facets_iff h q).1 hq
      have k1 := h1 B hB
      have k2 := h2 A hA
      rw [e] at k1 tA
      omega
    refine hs.imp_of_mem fun {p q} hp hq hpq => ?_
    rw [pLt_iff] at hpq ⊢
    unfold mvP
    simp only []
    rcases hpq with h1 | ⟨h1, h2 | ⟨h2, h3 | ⟨h3, h4⟩⟩⟩
    · exact .inl h1
    · exact .inr ⟨h1, .inl h2⟩
    · exact .inr ⟨h1, .inr ⟨h2, .inl h3⟩⟩
    · have := same p hp q hq (V3.ext h1 h2 h3)
      omega
  · rw [List.mem_map, mem_facets_iff hM0]
    constructor
    · rintro ⟨b1, b2, b3, A, B, C, hA, hB, hC, hX, tA, tB, tC⟩
      obtain ⟨a, ha, rfl⟩ := (hM A).1 hA
      obtain ⟨b, hb, rfl⟩ := (hM B).1 hB
      obtain ⟨c, hc, rfl⟩ := (hM C).1 hC
      rw [dt_addV] at tA tB tC
      rw [sb_addV, sb_addV] at hX
      refine ⟨⟨p.n, p.b - dt p.n s⟩, (mem_facets_iff h _).2 ⟨b1, b2, fun v hv => ?_, a, b, c, ha, hb, hc, hX, ?_, ?_, ?_⟩, ?_⟩
      · have q := b3 _ ((hM _).2 ⟨v, hv, rfl⟩)
        rw [dt_addV] at q
        simp only []
        omega
      · simp only []; omega
      · simp only []; omega
      · simp only []; omega
      · unfold mvP
        simp only []
        rw [Int.sub_add_cancel]
    · rintro ⟨p0, hp0, rfl⟩
      obtain ⟨b1, b2, b3, a, b, c, ha, hb, hc, hX, tA, tB, tC⟩ := (mem_facets_iff h p0).1 hp0
      refine ⟨b1, b2, fun v hv => ?_, addV a s, addV b s, addV c s, (hM _).2 ⟨a, ha, rfl⟩, (hM _).2 ⟨b, hb, rfl⟩, (hM _).2 ⟨c, hc, rfl⟩, by rw [sb_addV, sb_addV]; exact hX, ?_, ?_, ?_⟩
      · obtain ⟨u, hu, rfl⟩ := (hM v).1 hv
        have q := b3 u hu
        unfold mvP
        simp only []
        rw [dt_addV]
        omega
      all_goals unfold mvP; simp only []; rw [dt_addV]; omega
end Go.Proofs.Ytccnlnkgoaelpaa
namespace Go.Proofs.Ytccnlnkgoaelpaa
open Go.RowKit

theorem corner_iff {L : List V3} (h : hCheck L = 0) {x : V3} (hx : x ∈ L) : cornerB (facets L) x = true ↔ ∃ c : V3, ∀ v ∈ L, v ≠ x → dt c v < dt c x :=
  ⟨corner_dir h hx, fun ⟨_, hc⟩ => corner_of h hx hc⟩
theorem mem_ext {L : List V3} (h : hCheck L = 0) {v : V3} : v ∈ hExtreme L ↔ v ∈ L ∧ ∃ c : V3, ∀ u ∈ L, u ≠ v → dt c u < dt c v := by
  have e : hExtreme L = (distinctL L).filter (cornerB (facets L)) := if_pos h
  rw [e, List.mem_filter, mem_distinct]
  constructor
  · rintro ⟨h1, h2⟩
    exact ⟨h1, (corner_iff h h1).1 h2⟩
  · rintro ⟨h1, h2⟩
    exact ⟨h1, (corner_iff h h1).2 h2⟩
theorem sorted_ext {L : List V3} (h : hCheck L = 0) : SortedL vLt (hExtreme L) := by
  have e : hExtreme L = (distinctL L).filter (cornerB (facets L)) := if_pos h
  rw [e]
  exact (sorted_distinct L).filter _
theorem addV_inj {a b s : V3} (h : addV a s = addV b s) : a = b := by
  have h1 := congrArg V3.x h
  have h2 := congrArg V3.y h
  have h3 := congrArg V3.z h
  unfold addV at h1 h2 h3
  simp only [] at h1 h2 h3
  exact V3.ext (by omega) (by omega) (by omega)
/-- Moved points have the moved vertices. -/
theorem verts_moved {L M : List V3} {s : V3} (h : hCheck L = 0) (hM0 : hCheck M = 0) (hM : ∀ v, v ∈ M ↔ ∃ u ∈ L, v = addV u s) : hExtreme M = (hExtreme L).map (fun u => addV u s) := by
  refine sorted_eq vLt_strict (sorted_ext hM0) ?_ fun v => ?_
  · have hs := sorted_ext h
    unfold SortedL at hs ⊢
    rw [List.pairwise_map]
    refine hs.imp fun {a b} hab => ?_
    rw [vLt_iff] at hab ⊢
    unfold addV
    simp only []
    omega
  · rw [List.mem_map, mem_ext hM0]
    constructor
    · rintro ⟨hv, c, hc⟩
      obtain ⟨u, hu, rfl⟩ := (hM v).1 hv
      refine ⟨u, (mem_ext h).2 ⟨hu, c, fun w hw hne => ?_⟩, rfl⟩
      have q := hc (addV w s) ((hM _).2 ⟨w, hw, rfl⟩) (fun e => hne (addV_inj e))
      rw [dt_addV, dt_addV] at q
      omega
    · rintro ⟨u, hu, rfl⟩
      obtain ⟨hu, c, hc⟩ := (mem_ext h).1 hu
      refine ⟨(hM _).2 ⟨u, hu, rfl⟩, c, fun w hw hne => ?_⟩
      obtain ⟨t, ht, rfl⟩ := (hM w).1 hw
      have q := hc t ht (fun e => hne (by rw [e]))
      rw [dt_addV, dt_addV]
      omega
theorem sign_mul {D b p q : Int} (h : D * p = b * q) (hp : p < 0) (hq : q < 0) : (0 < D → 0 < b) ∧ (D < 0 → b < 0) := by
  constructor
  · intro hD
    have h1 := Int.mul_pos hD (show 0 < -p by omega)
    rw [Int.mul_neg, h, ← Int.mul_neg] at h1
    exact mul_sign (m := -q) (by omega) h1
  · intro hD
    have h1 := Int.mul_pos (show 0 < -D by omega) (show 0 < -p by omega)
    rw [Int.neg_mul_neg, h] at h1
    have h2 : 0 < (-b) * (-q) := by rw [Int.neg_mul_neg]; exact h1
    have := mul_sign (m := -q) (by omega) h2
    omega
theorem two_zero {a b c d x y : Int} (hD : a * d - c * b ≠ 0) (h1 : a * x + b * y = 0) (h2 : c * x + d * y = 0) : x = 0 ∧ y = 0 := by
  have e1 : (a * d - c * b) * x = 0 := by grind
  have e2 : (a * d - c * b) * y = 0 := by grind
  constructor
  · rcases Int.mul_eq_zero.1 e1 with h | h
    · exact absurd h hD
    · exact h
  · rcases Int.mul_eq_zero.1 e2 with h | h
    · exact absurd h hD
    · exact h
/-- At most two lines through a point have a plane figure on one side and a further point of it on them. -/
theorem three_lines {a1 b1 a2 b2 a3 b3 x1 y1 x2 y2 x3 y3 : Int} (h12 : a1 * b2 - a2 * b1 ≠ 0) (h13 : a1 * b3 - a3 * b1 ≠ 0) (h23 : a2 * b3 - a3 * b2 ≠ 0)
    (z1 : ¬ (x1 = 0 ∧ y1 = 0)) (z2 : ¬ (x2 = 0 ∧ y2 = 0)) (z3 : ¬ (x3 = 0 ∧ y3 = 0))
    (u11 : a1 * x1 + b1 * y1 = 0) (u21 : a2 * x1 + b2 * y1 ≤ 0) (u31 : a3 * x1 + b3 * y1 ≤ 0)
    (u12 : a1 * x2 + b1 * y2 ≤ 0) (u22 : a2 * x2 + b2 * y2 = 0) (u32 : a3 * x2 + b3 * y2 ≤ 0)
    (u13 : a1 * x3 + b1 * y3 ≤ 0) (u23 : a2 * x3 + b2 * y3 ≤ 0) (u33 : a3 * x3 + b3 * y3 = 0) : False := by
  have s21 : a2 * x1 + b2 * y1 < 0 := by
    rcases Int.lt_or_eq_of_le u21 with h | h
    · exact h
    · exact absurd (two_zero h12 u11 h) z1
  have s31 : a3 * x1 + b3 * y1 < 0 := by
    rcases Int.lt_or_eq_of_le u31 with h | h
    · exact h
    · exact absurd (two_zero h13 u11 h) z1
  have s12 : a1 * x2 + b1 * y2 < 0 := by
    rcases Int.lt_or_eq_of_le u12 with h | h
    · exact h
    · exact absurd (two_zero h12 h u22) z2
  have s32 : a3 * x2 + b3 * y2 < 0 := by
    rcases Int.lt_or_eq_of_le u32 with h | h
    · exact h
    · exact absurd (two_zero h23 u22 h) z2
  have s13 : a1 * x3 + b1 * y3 < 0 := by
    rcases Int.lt_or_eq_of_le u13 with h | h
    · exact h
    · exact absurd (two_zero h13 h u33) z3
  have s23 : a2 * x3 + b2 * y3 < 0 := by
    rcases Int.lt_or_eq_of_le u23 with h | h
    · exact h
    · exact absurd (two_zero h23 h u33) z3
  have e1 : (a1 * b2 - a2 * b1) * (a3 * x1 + b3 * y1) = (a1 * b3 - a3 * b1) * (a2 * x1 + b2 * y1) := by grind
  have e2 : (a1 * b2 - a2 * b1) * (a3 * x2 + b3 * y2) = (a3 * b2 - a2 * b3) * (a1 * x2 + b1 * y2) := by grind
  have e3 : (a3 * b2 - a2 * b3) * (a1 * x3 + b1 * y3) + (a1 * b3 - a3 * b1) * (a2 * x3 + b2 * y3) = 0 := by grind
  have k1 := sign_mul e1 s31 s21
  have k2 := sign_mul e2 s32 s12
  generalize a1 * b2 - a2 * b1 = D at *
  generalize a1 * b3 - a3 * b1 = B at *
  generalize a3 * b2 - a2 * b3 = A at *
  generalize a1 * x3 + b1 * y3 = p at *
  generalize a2 * x3 + b2 * y3 = q at *
  rcases Int.lt_trichotomy D 0 with h | h | h
  · have := Int.mul_pos (show 0 < -A by have := k2.2 h; omega) (show 0 < -p by omega)
    have := Int.mul_pos (show 0 < -B by have := k1.2 h; omega) (show 0 < -q by omega)
    rw [Int.neg_mul_neg] at *
    omega
  · exact h12 h
  · have m1 := Int.mul_pos (k2.1 h) (show 0 < -p by omega)
    have m2 := Int.mul_pos (k1.1 h) (show 0 < -q by omega)
    rw [Int.mul_neg] at m1 m2
    omega
end Go.Proofs.Ytccnlnkgoaelpaa
namespace Go.Proofs.Ytccnlnkgoaelpaa
open Go.RowKit

def rotV (v : V3) : V3 := ⟨v.y, v.z, v.x⟩
theorem dt_rot (a b : V3) : dt (rotV a) (rotV b) = dt a b := by unfold dt rotV; simp only []; omega
theorem crs_rot (a b : V3) : crs (rotV a) (rotV b) = rotV (crs a b) := rfl
theorem rot_zero {v : V3} : rotV v = ⟨0, 0, 0⟩ ↔ v = ⟨0, 0, 0⟩ := by
  obtain ⟨x, y, z⟩ := v
  unfold rotV
  constructor
  · intro h
    injection h with h1 h2 h3
    simp only [] at h1 h2 h3
    subst h1; subst h2; subst h3; rfl
  · intro h
    injection h with h1 h2 h3
    subst h1; subst h2; subst h3; rfl
/-- Three planes through a line, that hold a point off it each, and have the others' points on one side. -/
structure Three (l n1 n2 n3 u1 u2 u3 : V3) : Prop where
  p1 : dt n1 l = 0
  p2 : dt n2 l = 0
  p3 : dt n3 l = 0
  h12 : crs n1 n2 ≠ ⟨0, 0, 0⟩
  h13 : crs n1 n3 ≠ ⟨0, 0, 0⟩
  h23 : crs n2 n3 ≠ ⟨0, 0, 0⟩
  z1 : crs l u1 ≠ ⟨0, 0, 0⟩
  z2 : crs l u2 ≠ ⟨0, 0, 0⟩
  z3 : crs l u3 ≠ ⟨0, 0, 0⟩
  u11 : dt n1 u1 = 0
  u21 : dt n2 u1 ≤ 0
  u31 : dt n3 u1 ≤ 0
  u12 : dt n1 u2 ≤ 0
  u22 : dt n2 u2 = 0
  u32 : dt n3 u2 ≤ 0
  u13 : dt n1 u3 ≤ 0
  u23 : dt n2 u3 ≤ 0
  u33 : dt n3 u3 = 0
theorem Three.rot {l n1 n2 n3 u1 u2 u3 : V3} (t : Three l n1 n2 n3 u1 u2 u3) : Three (rotV l) (rotV n1) (rotV n2) (rotV n3) (rotV u1) (rotV u2) (rotV u3) := by
  refine ⟨by rw [dt_rot]; exact t.p1, by rw [dt_rot]; exact t.p2, by rw [dt_rot]; exact t.p3, ?_, ?_, ?_, ?_, ?_, ?_, by rw [dt_rot]; exact t.u11, by rw [dt_rot]; exact t.u21, by rw [dt_rot]; exact t.u31, by rw [dt_rot]; exact t.u12, by rw [dt_rot]; exact t.u22, by rw [dt_rot]; exact t.u32, by rw [dt_rot]; exact t.u13, by rw [dt_rot]; exact t.u23, by rw [dt_rot]; exact t.u33⟩
  · rw [crs_rot]; exact fun e => t.h12 (rot_zero.1 e)
  · rw [crs_rot]; exact fun e => t.h13 (rot_zero.1 e)
  · rw [crs_rot]; exact fun e => t.h23 (rot_zero.1 e)
  · rw [crs_rot]; exact fun e => t.z1 (rot_zero.1 e)
  · rw [crs_rot]; exact fun e => t.z2 (rot_zero.1 e)
  · rw [crs_rot]; exact fun e => t.z3 (rot_zero.1 e)
theorem Three.neg {l n1 n2 n3 u1 u2 u3 : V3} (t : Three l n1 n2 n3 u1 u2 u3) : Three ⟨-l.x, -l.y, -l.z⟩ n1 n2 n3 u1 u2 u3 := by
  have e : ∀ n, dt n l = 0 → dt n ⟨-l.x, -l.y, -l.z⟩ = 0 := fun n h => by unfold dt at *; grind
  have c : ∀ u, crs ⟨-l.x, -l.y, -l.z⟩ u = ⟨0, 0, 0⟩ → crs l u = ⟨0, 0, 0⟩ := fun u h => by
    have h1 := congrArg V3.x h
    have h2 := congrArg V3.y h
    have h3 := congrArg V3.z h
    unfold crs at *
    simp only [] at h1 h2 h3
    exact V3.ext (by simp only []; grind) (by simp only []; grind) (by simp only []; grind)
  exact ⟨e _ t.p1, e _ t.p2, e _ t.p3, t.h12, t.h13, t.h23, fun h => t.z1 (c _ h), fun h => t.z2 (c _ h), fun h => t.z3 (c _ h), t.u11, t.u21, t.u31, t.u12, t.u22, t.u32, t.u13, t.u23, t.u33⟩
theorem Three.no_z {l n1 n2 n3 u1 u2 u3 : V3} (t : Three l n1 n2 n3 u1 u2 u3) (hz : 0 < l.z) : False := by
  have cz : ∀ n m : V3, dt n l = 0 → dt m l = 0 → crs n m ≠ ⟨0, 0, 0⟩ → n.x * m.y - m.x * n.y ≠ 0 := fun n m hn hm hne e => hne (by
    obtain ⟨h1, h2, h3⟩ := cross_perp l n m
    have hn' : dt l n = 0 := by unfold dt at *; grind
    have hm' : dt l m = 0 := by unfold dt at *; grind
    rw [hn', hm'] at h1 h2
    simp only [Int.mul_zero, Int.sub_zero] at h1 h2
    have e0 : (crs n m).z = 0 := by unfold crs; simp only []; grind
    rw [e0] at h1 h2
    simp only [Int.mul_zero, Int.zero_sub, Int.sub_zero] at h1 h2
    have z : ∀ a : Int, l.z * a = 0 → a = 0 := fun a h => by
      rcases Int.mul_eq_zero.1 h with h | h
      · omega
      · exact h
    exact v3_zero ⟨z _ (by omega), z _ (by omega), e0⟩)
  have pr : ∀ n u : V3, dt n l = 0 → n.x * (l.z * u.x - l.x * u.z) + n.y * (l.z * u.y - l.y * u.z) = l.z * dt n u := fun n u h => by
    unfold dt at *
    grind
  have nz : ∀ u : V3, crs l u ≠ ⟨0, 0, 0⟩ → ¬ (l.z * u.x - l.x * u.z = 0 ∧ l.z * u.y - l.y * u.z = 0) := fun u hu h => hu (by
    have hp := cross_perp (⟨0, 0, 1⟩ : V3) l u
    have e1 : (crs l u).y = 0 := by unfold crs; simp only []; omega
    have e2 : (crs l u).x = 0 := by unfold crs; simp only []; omega
    have e3 : l.z * (crs l u).z = 0 := by
      have q := crs_self_l l u
      unfold dt at q
      rw [e1, e2] at q
      rw [Int.mul_comm]
      simpa using q
    have e4 : (crs l u).z = 0 := by
      rcases Int.mul_eq_zero.1 e3 with h | h
      · omega
      · exact h
    exact v3_zero ⟨e2, e1, e4⟩)
  have le : ∀ n u : V3, dt n l = 0 → dt n u ≤ 0 → n.x * (l.z * u.x - l.x * u.z) + n.y * (l.z * u.y - l.y * u.z) ≤ 0 := fun n u h1 h2 => by
    rw [pr n u h1]
    have := Int.mul_nonneg (Int.le_of_lt hz) (show 0 ≤ -dt n u by omega)
    rw [Int.mul_neg] at this
    omega
  have eq : ∀ n u : V3, dt n l = 0 → dt n u = 0 → n.x * (l.z * u.x - l.x * u.z) + n.y * (l.z * u.y - l.y * u.z) = 0 := fun n u h1 h2 => by
    rw [pr n u h1, h2, Int.mul_zero]
  exact three_lines (cz _ _ t.p1 t.p2 t.h12) (cz _ _ t.p1 t.p3 t.h13) (cz _ _ t.p2 t.p3 t.h23) (nz _ t.z1) (nz _ t.z2) (nz _ t.z3)
    (eq _ _ t.p1 t.u11) (le _ _ t.p2 t.u21) (le _ _ t.p3 t.u31) (le _ _ t.p1 t.u12) (eq _ _ t.p2 t.u22) (le _ _ t.p3 t.u32) (le _ _ t.p1 t.u13) (le _ _ t.p2 t.u23) (eq _ _ t.p3 t.u33)
theorem Three.no {l n1 n2 n3 u1 u2 u3 : V3} (t : Three l n1 n2 n3 u1 u2 u3) : False := by
  have hl : l ≠ ⟨0, 0, 0⟩ := fun e => t.z1 (by rw [e]; unfold crs; simp)
  rcases Int.lt_trichotomy l.z 0 with h | h | h
  · exact t.neg.no_z (by simp only []; omega)
  · rcases Int.lt_trichotomy l.x 0 with h1 | h1 | h1
    · exact t.rot.neg.no_z (by unfold rotV; simp only []; omega)
    · rcases Int.lt_trichotomy l.y 0 with h2 | h2 | h2
      · exact t.rot.rot.neg.no_z (by unfold rotV; simp only []; omega)
      · exact hl (v3_zero ⟨h1, h2, h⟩)
      · exact t.rot.rot.no_z (by unfold rotV; simp only []; omega)
    · exact t.rot.no_z (by unfold rotV; simp only []; omega)
  · exact t.no_z h
end Go.Proofs.Ytccnlnkgoaelpaa
