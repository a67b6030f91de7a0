/- Moved and rotated lists of points; counting edges step by step. No program in sight. -/
import Derived.Test.YtccnlnkgoaelpaaGeo9
import Derived.Test.YtccnlnkgoaelpaaHullA
namespace Go.Proofs.Ytccnlnkgoaelpaa
open Go.RowKit

theorem facet_prim {L : List V3} (h : hCheck L = 0) {p : Pl} (hp : p ∈ facets L) : Bd 4608 p.n ∧ vGcd p.n = 1 := by
  have q := (mem_facets_iff h p).1 hp
  exact ⟨q.1, q.2.1⟩
/-- Two facets through a point are the same if their normals are parallel. -/
theorem facets_par {L : List V3} (h : hCheck L = 0) {p q : Pl} (hp : p ∈ facets L) (hq : q ∈ facets L) {a : V3} (ta : dt p.n a = p.b) (tb : dt q.n a = q.b) (hpar : crs p.n q.n = ⟨0, 0, 0⟩) : p = q := by
  obtain ⟨b1, g1⟩ := facet_prim h hp
  obtain ⟨b2, g2⟩ := facet_prim h hq
  have e1 : p.n.y * q.n.z - p.n.z * q.n.y = 0 := congrArg V3.x hpar
  have e2 : p.n.z * q.n.x - p.n.x * q.n.z = 0 := congrArg V3.y hpar
  have e3 : p.n.x * q.n.y - p.n.y * q.n.x = 0 := congrArg V3.z hpar
  rcases prim_par b1 b2 g1 g2 (by omega) (by omega) (by omega) with e | e
  · obtain ⟨n, b⟩ := p
    obtain ⟨n', b'⟩ := q
    simp only [] at e ta tb
    subst e
    rw [← ta, ← tb]
  · exfalso
    obtain ⟨_, hn0, _⟩ := facet_side h hq
    obtain ⟨v, hv, hne⟩ := not_flat h q.n q.b hn0
    have k1 := facet_sup h hp v hv
    have k2 := facet_sup h hq v hv
    rw [← ta, e, dt_negv, dt_negv, tb] at k1
    omega
/-- A facet has a point off each line. -/
theorem facet_off {L : List V3} (h : hCheck L = 0) {p : Pl} (hp : p ∈ facets L) (a l : V3) (hl : l ≠ ⟨0, 0, 0⟩) : ∃ u ∈ L, dt p.n u = p.b ∧ crs l (sb u a) ≠ ⟨0, 0, 0⟩ := by
  obtain ⟨_, _, A, B, C, hA, hB, hC, hX, eB, eC, hb, _⟩ := facet_side h hp
  by_cases h1 : crs l (sb A a) = ⟨0, 0, 0⟩
  · by_cases h2 : crs l (sb B a) = ⟨0, 0, 0⟩
    · by_cases h3 : crs l (sb C a) = ⟨0, 0, 0⟩
      · exfalso
        apply hX
        have c1 : crs l (sb B A) = ⟨0, 0, 0⟩ := by
          have x1 := congrArg V3.x h1
          have y1 := congrArg V3.y h1
          have z1 := congrArg V3.z h1
          have x2 := congrArg V3.x h2
          have y2 := congrArg V3.y h2
          have z2 := congrArg V3.z h2
          unfold crs sb at *
          simp only [] at x1 y1 z1 x2 y2 z2
          exact V3.ext (by simp only []; grind) (by simp only []; grind) (by simp only []; grind)
        have c2 : crs l (sb C A) = ⟨0, 0, 0⟩ := by
          have x1 := congrArg V3.x h1
          have y1 := congrArg V3.y h1
          have z1 := congrArg V3.z h1
          have x2 := congrArg V3.x h3
          have y2 := congrArg V3.y h3
          have z2 := congrArg V3.z h3
          unfold crs sb at *
          simp only [] at x1 y1 z1 x2 y2 z2
          exact V3.ext (by simp only []; grind) (by simp only []; grind) (by simp only []; grind)
        generalize sb B A = s at *
        generalize sb C A = t at *
        have hll := sq_pos hl
        have s1 : l.y * s.z - l.z * s.y = 0 := congrArg V3.x c1
        have s2 : l.z * s.x - l.x * s.z = 0 := congrArg V3.y c1
        have s3 : l.x * s.y - l.y * s.x = 0 := congrArg V3.z c1
        have t1 : l.y * t.z - l.z * t.y = 0 := congrArg V3.x c2
        have t2 : l.z * t.x - l.x * t.z = 0 := congrArg V3.y c2
        have t3 : l.x * t.y - l.y * t.x = 0 := congrArg V3.z c2
        have z : ∀ a : Int, dt l l * a = 0 → a = 0 := fun a h => by
          rcases Int.mul_eq_zero.1 h with h | h
          · omega
          · exact h
        have S : ∀ k : Int, k = dt l s → dt l l * s.x = k * l.x ∧ dt l l * s.y = k * l.y ∧ dt l l * s.z = k * l.z := fun k hk => by
          subst hk
          unfold dt
          refine ⟨?_, ?_, ?_⟩ <;> grind
        obtain ⟨k1, k2, k3⟩ := S _ rfl
        unfold crs
        refine v3_zero ⟨z _ ?_, z _ ?_, z _ ?_⟩
        · simp only []
          have e : dt l l * (s.y * t.z - s.z * t.y) = (dt l l * s.y) * t.z - (dt l l * s.z) * t.y := by grind
          rw [e, k2, k3]
          have e2 : dt l s * l.y * t.z - dt l s * l.z * t.y = dt l s * (l.y * t.z - l.z * t.y) := by grind
          rw [e2, t1, Int.mul_zero]
        · simp only []
          have e : dt l l * (s.z * t.x - s.x * t.z) = (dt l l * s.z) * t.x - (dt l l * s.x) * t.z := by grind
          rw [e, k3, k1]
          have e2 : dt l s * l.z * t.x - dt l s * l.x * t.z = dt l s * (l.z * t.x - l.x * t.z) := by grind
          rw [e2, t2, Int.mul_zero]
        · simp only []
          have e : dt l l * (s.x * t.y - s.y * t.x) = (dt l l * s.x) * t.y - (dt l l * s.y) * t.x := by grind
          rw [e, k1, k2]
          have e2 : dt l s * l.x * t.y - dt l s * l.y * t.x = dt l s * (l.x * t.y - l.y * t.x) := by grind
          rw [e2, t3, Int.mul_zero]
      · exact ⟨C, hC, by omega, h3⟩
    · exact ⟨B, hB, by omega, h2⟩
  · exact ⟨A, hA, by omega, h1⟩
/-- Of three facets that hold two points, two are the same. -/
theorem line_two {L : List V3} (h : hCheck L = 0) {p q r : Pl} (hp : p ∈ facets L) (hq : q ∈ facets L) (hr : r ∈ facets L) {a b : V3} (hab : a ≠ b) (pa : dt p.n a = p.b) (pb : dt p.n b = p.b) (qa : dt q.n a = q.b) (qb : dt q.n b = q.b) (ra : dt r.n a = r.b) (rb : dt r.n b = r.b) : p = q ∨ p = r ∨ q = r := by
  apply Classical.byContradiction
  intro hno
  have n1 : p ≠ q := fun e => hno (.inl e)
  have n2 : p ≠ r := fun e => hno (.inr (.inl e))
  have n3 : q ≠ r := fun e => hno (.inr (.inr e))
  have hl : sb b a ≠ ⟨0, 0, 0⟩ := fun e => hab (by
    have e1 := congrArg V3.x e
    have e2 := congrArg V3.y e
    have e3 := congrArg V3.z e
    unfold sb at e1 e2 e3
    simp only [] at e1 e2 e3
    exact V3.ext (by omega) (by omega) (by omega))
  obtain ⟨u1, hu1, t1, z1⟩ := facet_off h hp a (sb b a) hl
  obtain ⟨u2, hu2, t2, z2⟩ := facet_off h hq a (sb b a) hl
  obtain ⟨u3, hu3, t3, z3⟩ := facet_off h hr a (sb b a) hl
  have sp := facet_sup h hp
  have sq' := facet_sup h hq
  have sr := facet_sup h hr
  refine Three.no (l := sb b a) (n1 := p.n) (n2 := q.n) (n3 := r.n) (u1 := sb u1 a) (u2 := sb u2 a) (u3 := sb u3 a) ⟨?_, ?_, ?_, fun e => n1 (facets_par h hp hq pa qa e), fun e => n2 (facets_par h hp hr pa ra e), fun e => n3 (facets_par h hq hr qa ra e), z1, z2, z3, ?_, ?_, ?_, ?_, ?_, ?_, ?_, ?_, ?_⟩
  all_goals rw [dt_sb]
  · omega
  · omega
  · omega
  · omega
  · have := sq' u1 hu1; omega
  · have := sr u1 hu1; omega
  · have := sp u2 hu2; omega
  · omega
  · have := sr u2 hu2; omega
  · have := sp u3 hu3; omega
  · have := sq' u3 hu3; omega
  · omega
end Go.Proofs.Ytccnlnkgoaelpaa
namespace Go.Proofs.Ytccnlnkgoaelpaa
open Go.RowKit

/-- A supporting plane turned about what lies on it and farthest in the direction M. -/
theorem turnG {S : List V3} {N M : V3} {b c : Int} (hs : ∀ v ∈ S, dt N v ≤ b) (ht : ∀ v ∈ S, dt N v = b → dt M v ≤ c) (hex : ∃ v ∈ S, 0 < dt M v - c) :
    ∃ N' b' u, (∀ v ∈ S, dt N' v ≤ b') ∧ u ∈ S ∧ dt M u ≠ c ∧ dt N' u = b' ∧ (∀ v, dt N v = b → dt M v = c → dt N' v = b') ∧ (∀ v, dt N v = b → dt M v < c → dt N' v < b') ∧ ∀ v, dt N v < b → dt M v ≤ c → dt N' v < b' := by
  obtain ⟨u, hu, hp, hm⟩ := min_ratio (fun v => dt M v - c) (fun v => b - dt N v) S hex
  have hq : 0 < b - dt N u := by
    have h1 := hs u hu
    rcases Int.lt_or_eq_of_le h1 with h2 | h2
    · omega
    · have := ht u hu h2; omega
  refine ⟨lin (dt M u - c) N (b - dt N u) M, (dt M u - c) * b + (b - dt N u) * c, u, fun v hv => ?_, hu, by omega, ?_, fun v h1 h2 => ?_, fun v h1 h2 => ?_, fun v h1 h2 => ?_⟩
  · rw [dt_lin]
    have hsv := hs v hv
    by_cases hpv : 0 < dt M v - c
    · have h := hm v hv hpv
      have e1 : (b - dt N u) * (dt M v - c) = (b - dt N u) * dt M v - (b - dt N u) * c := by grind
      have e2 : (b - dt N v) * (dt M u - c) = (dt M u - c) * b - (dt M u - c) * dt N v := by grind
      rw [e1, e2] at h
      omega
    · have a1 := Int.mul_le_mul_of_nonneg_left hsv (Int.le_of_lt hp)
      have a2 := Int.mul_le_mul_of_nonneg_left (show dt M v ≤ c by omega) (Int.le_of_lt hq)
      omega
  · rw [dt_lin]; grind
  · rw [dt_lin, h1, h2]
  · rw [dt_lin, h1]
    have a2 := Int.mul_lt_mul_of_pos_left h2 hq
    omega
  · rw [dt_lin]
    have a1 := Int.mul_lt_mul_of_pos_left h1 hp
    have a2 := Int.mul_le_mul_of_nonneg_left h2 (Int.le_of_lt hq)
    omega
theorem on_line {l t M : V3} (hl : l ≠ ⟨0, 0, 0⟩) (hc : crs l t = ⟨0, 0, 0⟩) (hM : dt M l = 0) : dt M t = 0 := by
  have e1 : l.y * t.z - l.z * t.y = 0 := congrArg V3.x hc
  have e2 : l.z * t.x - l.x * t.z = 0 := congrArg V3.y hc
  have e3 : l.x * t.y - l.y * t.x = 0 := congrArg V3.z hc
  have hp := sq_pos hl
  have q : dt l l * dt M t = dt l t * dt M l := by unfold dt; grind
  rw [hM, Int.mul_zero] at q
  rcases Int.mul_eq_zero.1 q with h | h
  · omega
  · exact h
theorem FacetOf.b {L : List V3} (h : hCheck L = 0) {N' A : V3} {p : Pl} (hA : A ∈ L) (f : FacetOf L N' A p) : dt p.n A = p.b := by
  obtain ⟨h48, hin, _⟩ := check_ok h
  obtain ⟨_, _, A', B', C', hA', _, _, _, _, _, hb', hs'⟩ := facet_side h f.mem
  have bA := vIn_all hin hA
  have q1 := f.side A bA
  rw [hs' A bA] at q1
  have q2 : ordI (dt p.n A) (dt p.n A) = 0 := ordI_zero'.2 rfl
  rw [q2] at q1
  rw [hb']
  exact ordI_zero'.1 q1
theorem FacetOf.tight {L : List V3} (h : hCheck L = 0) {N' A : V3} {p : Pl} (hA : A ∈ L) (f : FacetOf L N' A p) (w : V3) : dt p.n w = p.b ↔ dt N' w = dt N' A := by
  obtain ⟨s, t, hs, ht, hpar⟩ := f.par
  have hb := f.b h hA
  have q1 := hpar w
  have q2 := hpar A
  constructor
  · intro e
    rw [e, ← hb, ← q2] at q1
    exact Int.eq_of_mul_eq_mul_left (by omega) q1
  · intro e
    rw [e, q2] at q1
    rw [← hb]
    exact (Int.eq_of_mul_eq_mul_left (by omega) q1).symm
/-- The facet behind an edge v w of a facet: M is farthest on the facet along the edge. -/
theorem neighbor {L : List V3} (h : hCheck L = 0) {p : Pl} (hp : p ∈ facets L) {v w M : V3} (hv : v ∈ L) (hw : w ∈ L) (tv : dt p.n v = p.b) (tw : dt p.n w = p.b) (hne : sb w v ≠ ⟨0, 0, 0⟩) (hMw : dt M w = dt M v)
    (hM : ∀ u ∈ L, dt p.n u = p.b → dt M u ≤ dt M v) (hoff : ∃ u ∈ L, dt p.n u = p.b ∧ dt M u < dt M v) : ∃ q ∈ facets L, q ≠ p ∧ dt q.n v = q.b ∧ dt q.n w = q.b := by
  have sp := facet_sup h hp
  obtain ⟨uo, huo, to, hMo⟩ := hoff
  have hnl : dt p.n (sb w v) = 0 := by rw [dt_sb]; omega
  have hMl : dt M (sb w v) = 0 := by rw [dt_sb]; omega
  obtain ⟨_, hn0, _⟩ := facet_side h hp
  by_cases hA : ∃ u ∈ L, 0 < dt M u - dt M v
  · obtain ⟨N', b', u, h1, hu, h3, h4, h5, h6, _⟩ := turnG sp hM hA
    have bv := h5 v tv rfl
    have bw := h5 w tw hMw
    have bo := h6 uo to hMo
    have hN : N' ≠ ⟨0, 0, 0⟩ := fun e => by rw [e, dt_zero_l] at bv bo; omega
    have hX : crs (sb w v) (sb u v) ≠ ⟨0, 0, 0⟩ := fun e => h3 (by
      have q := on_line hne e hMl
      rw [dt_sb] at q
      omega)
    obtain ⟨q, f⟩ := facet_of h h1 hv hw hu bv bw h4 hN hX
    refine ⟨q, f.mem, fun e => ?_, f.b h hv, (f.tight h hv w).2 (by omega)⟩
    have q2 := (f.tight h hv uo).1 (by rw [e]; exact to)
    omega
  · have hMs : ∀ u ∈ L, dt M u ≤ dt M v := fun u hu => Classical.byContradiction fun e => hA ⟨u, hu, by omega⟩
    by_cases hB : ∃ t ∈ L, dt M t = dt M v ∧ dt p.n t < p.b
    · obtain ⟨t, ht, hMt, hnt⟩ := hB
      have hN : M ≠ ⟨0, 0, 0⟩ := fun e => by rw [e, dt_zero_l, dt_zero_l] at hMo; omega
      have hX : crs (sb w v) (sb t v) ≠ ⟨0, 0, 0⟩ := fun e => by
        have q := on_line hne e hnl
        rw [dt_sb] at q
        omega
      obtain ⟨q, f⟩ := facet_of h hMs hv hw ht rfl hMw hMt hN hX
      refine ⟨q, f.mem, fun e => ?_, f.b h hv, (f.tight h hv w).2 hMw⟩
      have q2 := (f.tight h hv t).2 hMt
      rw [e] at q2
      omega
    · have htight : ∀ u ∈ L, dt M u = dt M v → dt ⟨-p.n.x, -p.n.y, -p.n.z⟩ u ≤ -p.b := fun u hu e => by
        have h1 := sp u hu
        have h2 : ¬ dt p.n u < p.b := fun h3 => hB ⟨u, hu, e, h3⟩
        rw [dt_negv]
        omega
      obtain ⟨x, hx, hxb⟩ := not_flat h p.n p.b hn0
      obtain ⟨N', b', u, h1, hu, h3, h4, h5, _, h7⟩ := turnG (c := -p.b) hMs htight ⟨x, hx, by rw [dt_negv]; have := sp x hx; omega⟩
      have bv := h5 v rfl (by rw [dt_negv]; omega)
      have bw := h5 w hMw (by rw [dt_negv]; omega)
      rw [dt_negv] at h3
      have hX : crs (sb w v) (sb u v) ≠ ⟨0, 0, 0⟩ := fun e => by
        have q := on_line hne e hnl
        rw [dt_sb] at q
        omega
      have bo := h7 uo hMo (by rw [dt_negv]; omega)
      have hN : N' ≠ ⟨0, 0, 0⟩ := fun e => by rw [e, dt_zero_l] at bv bo; omega
      obtain ⟨q, f⟩ := facet_of h h1 hv hw hu bv bw h4 hN hX
      refine ⟨q, f.mem, fun e => ?_, f.b h hv, (f.tight h hv w).2 (by omega)⟩
      have q2 := (f.tight h hv u).2 (by omega)
      rw [e] at q2
      omega
end Go.Proofs.Ytccnlnkgoaelpaa
namespace Go.Proofs.Ytccnlnkgoaelpaa
open Go.RowKit

theorem binet (c e s t : V3) : dt c s * dt e t - dt c t * dt e s = dt (crs c e) (crs s t) := by unfold dt crs; grind
theorem cce (n c : V3) : dt (crs c (crs n c)) n = dt c c * dt n n - dt c n * dt c n := by unfold dt crs; grind
theorem lagrange (n c : V3) : dt c c * dt n n - dt c n * dt c n = dt (crs n c) (crs n c) := by unfold dt crs; grind
/-- Of the points on a facet one is first, seen from a vertex v, in the sense of e; and a vertex lies there. -/
theorem edge_end {L : List V3} (h : hCheck L = 0) {p : Pl} (hp : p ∈ facets L) {v c e : V3} (hv : v ∈ L) (tv : dt p.n v = p.b) (hc : ∀ u ∈ L, u ≠ v → dt c u < dt c v)
    (he : ∀ s t : V3, dt p.n s = 0 → dt p.n t = 0 → crs s t ≠ ⟨0, 0, 0⟩ → dt c s * dt e t - dt c t * dt e s ≠ 0) :
    ∃ w G, w ∈ L ∧ cornerB (facets L) w = true ∧ dt p.n w = p.b ∧ w ≠ v ∧ dt G w = dt G v ∧ (∀ u ∈ L, dt p.n u = p.b → dt G u ≤ dt G v) ∧ (∃ u ∈ L, dt p.n u = p.b ∧ dt G u < dt G v) ∧
      ∀ u ∈ L, dt p.n u = p.b → 0 ≤ dt e (sb u v) * dt c (sb v w) - dt e (sb w v) * dt c (sb v u) := by
  obtain ⟨_, hn0, A, B, C, hA, hB, hC, hX, eB, eC, hb, _⟩ := facet_side h hp
  -- the points on the facet but v
  have hmem : ∀ u, u ∈ L.filter (fun u => decide (dt p.n u = p.b)) ↔ u ∈ L ∧ dt p.n u = p.b := fun u => by rw [List.mem_filter]; simp
  have hex : ∃ u ∈ L.filter (fun u => decide (dt p.n u = p.b)), 0 < dt c (sb v u) := by
    obtain ⟨u, hu, tu, hoff⟩ := facet_off h hp v p.n hn0
    refine ⟨u, (hmem u).2 ⟨hu, tu⟩, ?_⟩
    have hne : u ≠ v := fun e0 => hoff (by rw [e0]; unfold crs sb; simp)
    have := hc u hu hne
    rw [dt_sb]
    omega
  obtain ⟨u1, hu1, hp1, hm⟩ := min_ratio (fun u => dt c (sb v u)) (fun u => dt e (sb u v)) _ hex
  obtain ⟨hu1, t1⟩ := (hmem u1).1 hu1
  have hcv : ∀ u ∈ L, 0 ≤ dt c (sb v u) := fun u hu => by
    by_cases e0 : u = v
    · subst e0; rw [dt_sb]; omega
    · have := hc u hu e0; rw [dt_sb]; omega
  -- G = (e.(u1 - v)) (-c) - (c.(v - u1)) e
  have hG : ∀ u, dt (lin (-dt e (sb u1 v)) c (-dt c (sb v u1)) e) u - dt (lin (-dt e (sb u1 v)) c (-dt c (sb v u1)) e) v = dt e (sb u1 v) * dt c (sb v u) - dt e (sb u v) * dt c (sb v u1) := fun u => by
    rw [dt_lin, dt_lin, dt_sb c v u, dt_sb e u v]
    grind
  generalize lin (-dt e (sb u1 v)) c (-dt c (sb v u1)) e = G at *
  have hGle : ∀ u ∈ L, dt p.n u = p.b → dt G u ≤ dt G v := fun u hu tu => by
    have q := hG u
    by_cases h0 : 0 < dt c (sb v u)
    · have := hm u ((hmem u).2 ⟨hu, tu⟩) h0
      omega
    · have e0 : u = v := Classical.byContradiction fun e0 => h0 (by have := hc u hu e0; rw [dt_sb]; omega)
      subst e0
      omega
  have hG1 : dt G u1 = dt G v := by have := hG u1; omega
  have hs0 : sb u1 v ≠ ⟨0, 0, 0⟩ := fun e0 => by
    have q : dt c (sb v u1) = -dt c (sb u1 v) := by rw [dt_sb, dt_sb]; omega
    rw [e0, dt_zero_r] at q
    omega
  have hoff : ∃ u ∈ L, dt p.n u = p.b ∧ dt G u < dt G v := by
    obtain ⟨u, hu, tu, hx⟩ := facet_off h hp v (sb u1 v) hs0
    refine ⟨u, hu, tu, ?_⟩
    have h1 := hGle u hu tu
    have h2 := hG u
    have h3 := he (sb u1 v) (sb u v) (by rw [dt_sb]; omega) (by rw [dt_sb]; omega) hx
    have q1 : dt c (sb v u) = -dt c (sb u v) := by rw [dt_sb, dt_sb]; omega
    have q2 : dt c (sb v u1) = -dt c (sb u1 v) := by rw [dt_sb, dt_sb]; omega
    rw [q1, q2] at h2
    rcases Int.lt_or_eq_of_le h1 with h4 | h4
    · exact h4
    · exfalso
      apply h3
      grind
  -- a vertex on the ray
  obtain ⟨K, hK0, hK⟩ := bound_of (fun u => dt c (sb v u) - dt c (sb v u1)) L
  obtain ⟨w, hw, hcw, tw, hmw⟩ := push h hp (lin K G (-1) c) hu1 t1
  rw [dt_lin, dt_lin, hG1] at hmw
  have hGw := hGle w hw tw
  have hKw := hK w hw
  rw [dt_sb, dt_sb] at hKw
  have hGe : dt G w = dt G v := by
    rcases Int.lt_or_eq_of_le hGw with h1 | h1
    · have h3 := Int.mul_le_mul_of_nonneg_left (show dt G w + 1 ≤ dt G v by omega) (Int.le_of_lt hK0)
      rw [Int.mul_add] at h3
      omega
    · exact h1
  rw [hGe] at hmw
  have hwv : w ≠ v := fun e0 => by
    subst e0
    rw [dt_sb] at hp1
    omega
  refine ⟨w, G, hw, hcw, tw, hwv, hGe, hGle, hoff, fun u hu tu => ?_⟩
  -- w lies on the ray of u1
  have hcw0 : 0 < dt c (sb v w) := by have := hc w hw hwv; rw [dt_sb]; omega
  have e1 := hG w
  have e2 := hG u
  have e3 := hGle u hu tu
  have k1 : dt e (sb u1 v) * dt c (sb v w) = dt e (sb w v) * dt c (sb v u1) := by omega
  have k2 : dt e (sb u1 v) * dt c (sb v u) ≤ dt e (sb u v) * dt c (sb v u1) := by omega
  have k3 := Int.mul_le_mul_of_nonneg_right k2 (Int.le_of_lt hcw0)
  have k4 : 0 ≤ dt c (sb v u1) * (dt e (sb u v) * dt c (sb v w) - dt e (sb w v) * dt c (sb v u)) := by
    have a1 : dt e (sb u1 v) * dt c (sb v u) * dt c (sb v w) = (dt e (sb w v) * dt c (sb v u1)) * dt c (sb v u) := by rw [← k1]; grind
    have a2 : dt e (sb u v) * dt c (sb v u1) * dt c (sb v w) = dt c (sb v u1) * (dt e (sb u v) * dt c (sb v w)) := by grind
    have a3 : (dt e (sb w v) * dt c (sb v u1)) * dt c (sb v u) = dt c (sb v u1) * (dt e (sb w v) * dt c (sb v u)) := by grind
    rw [a1, a2, a3] at k3
    rw [Int.mul_sub]
    omega
  exact mul_sign_le (m := dt c (sb v u1)) (by omega) (by rw [Int.mul_comm]; exact k4)
end Go.Proofs.Ytccnlnkgoaelpaa
namespace Go.Proofs.Ytccnlnkgoaelpaa
open Go.RowKit

theorem four_vec (n s1 s2 t M : V3) : dt n (crs s1 s2) * dt M t = dt n (crs t s2) * dt M s1 + dt n (crs s1 t) * dt M s2 + dt (crs s1 s2) t * dt M n := by
  unfold dt crs; grind
theorem coplanar {n s1 s2 t : V3} (hn : n ≠ ⟨0, 0, 0⟩) (h1 : dt n s1 = 0) (h2 : dt n s2 = 0) (h3 : dt n t = 0) : dt (crs s1 s2) t = 0 := by
  obtain ⟨c1, c2, c3⟩ := cross_perp n s1 s2
  rw [h1, h2] at c1 c2 c3
  simp only [Int.mul_zero, Int.sub_zero] at c1 c2 c3
  have hp := sq_pos hn
  have q : dt n n * dt (crs s1 s2) t = dt n (crs s1 s2) * dt n t := by
    generalize crs s1 s2 = X at *
    unfold dt
    grind
  rw [h3, Int.mul_zero] at q
  rcases Int.mul_eq_zero.1 q with h | h
  · omega
  · exact h
/-- In the plane perpendicular to n. -/
theorem plane_comb {n s1 s2 t : V3} (hn : n ≠ ⟨0, 0, 0⟩) (h1 : dt n s1 = 0) (h2 : dt n s2 = 0) (h3 : dt n t = 0) (M : V3) : dt n (crs s1 s2) * dt M t = dt n (crs t s2) * dt M s1 + dt n (crs s1 t) * dt M s2 := by
  have q := four_vec n s1 s2 t M
  rw [coplanar hn h1 h2 h3, Int.zero_mul, Int.add_zero] at q
  exact q
/-- The sense of two vectors of the plane by c and e = n x c. -/
theorem sense {n s t : V3} (c : V3) (hn : n ≠ ⟨0, 0, 0⟩) (h1 : dt n s = 0) (h2 : dt n t = 0) : dt n n * (dt c s * dt (crs n c) t - dt c t * dt (crs n c) s) = dt (crs n c) (crs n c) * dt n (crs s t) := by
  obtain ⟨c1, c2, c3⟩ := cross_perp n s t
  rw [h1, h2] at c1 c2 c3
  simp only [Int.mul_zero, Int.sub_zero] at c1 c2 c3
  rw [binet, ← lagrange, ← cce]
  generalize crs s t = X at *
  generalize crs c (crs n c) = Y at *
  unfold dt
  grind
end Go.Proofs.Ytccnlnkgoaelpaa
namespace Go.Proofs.Ytccnlnkgoaelpaa
open Go.RowKit

/-- Two facets that share three points that do not lie on a line are the same. -/
theorem same_of_two {L : List V3} (h : hCheck L = 0) {p q : Pl} (hp : p ∈ facets L) (hq : q ∈ facets L) {a s1 s2 : V3} (ta : dt p.n a = p.b) (tb : dt q.n a = q.b) (p1 : dt p.n s1 = 0) (p2 : dt p.n s2 = 0) (q1 : dt q.n s1 = 0) (q2 : dt q.n s2 = 0) (hX : crs s1 s2 ≠ ⟨0, 0, 0⟩) : p = q := by
  refine facets_par h hp hq ta tb ?_
  have P := par p1 p2
  have Q := par q1 q2
  have hXX := sq_pos hX
  generalize crs s1 s2 = X at *
  have z : ∀ a : Int, dt X X * (dt X X * a) = 0 → a = 0 := fun a h => by
    rcases Int.mul_eq_zero.1 h with h | h
    · omega
    · rcases Int.mul_eq_zero.1 h with h | h
      · omega
      · exact h
  have px := P ⟨1, 0, 0⟩
  have py := P ⟨0, 1, 0⟩
  have pz := P ⟨0, 0, 1⟩
  have qx := Q ⟨1, 0, 0⟩
  have qy := Q ⟨0, 1, 0⟩
  have qz := Q ⟨0, 0, 1⟩
  generalize dt X X = d at *
  generalize dt p.n X = k at *
  generalize dt q.n X = m at *
  unfold dt at px py pz qx qy qz
  simp at px py pz qx qy qz
  unfold crs
  refine v3_zero ⟨z _ ?_, z _ ?_, z _ ?_⟩
  · simp only []
    have e : d * (d * (p.n.y * q.n.z - p.n.z * q.n.y)) = (d * p.n.y) * (d * q.n.z) - (d * p.n.z) * (d * q.n.y) := by grind
    rw [e, py, pz, qy, qz]
    grind
  · simp only []
    have e : d * (d * (p.n.z * q.n.x - p.n.x * q.n.z)) = (d * p.n.z) * (d * q.n.x) - (d * p.n.x) * (d * q.n.z) := by grind
    rw [e, px, pz, qx, qz]
    grind
  · simp only []
    have e : d * (d * (p.n.x * q.n.y - p.n.y * q.n.x)) = (d * p.n.x) * (d * q.n.y) - (d * p.n.y) * (d * q.n.x) := by grind
    rw [e, px, py, qx, qy]
    grind
theorem triple_ne {n s t : V3} (hn : n ≠ ⟨0, 0, 0⟩) (h1 : dt n s = 0) (h2 : dt n t = 0) (h : crs s t ≠ ⟨0, 0, 0⟩) : dt n (crs s t) ≠ 0 := fun e => by
  have P := par h1 h2 n
  rw [e, Int.zero_mul] at P
  have := Int.mul_pos (sq_pos h) (sq_pos hn)
  omega
theorem two_edges {L : List V3} (h : hCheck L = 0) {p : Pl} (hp : p ∈ facets L) {v : V3} (hv : v ∈ L) (cv : cornerB (facets L) v = true) (tv : dt p.n v = p.b) :
    ∃ w1 w2 q1 q2, (w1 ∈ L ∧ cornerB (facets L) w1 = true ∧ dt p.n w1 = p.b ∧ w1 ≠ v) ∧ (w2 ∈ L ∧ cornerB (facets L) w2 = true ∧ dt p.n w2 = p.b ∧ w2 ≠ v) ∧
      (q1 ∈ facets L ∧ q1 ≠ p ∧ dt q1.n v = q1.b ∧ dt q1.n w1 = q1.b) ∧ (q2 ∈ facets L ∧ q2 ≠ p ∧ dt q2.n v = q2.b ∧ dt q2.n w2 = q2.b) ∧ q1 ≠ q2 ∧
      (∀ q ∈ facets L, q ≠ p → ∀ u ∈ L, u ≠ v → dt p.n u = p.b → dt q.n v = q.b → dt q.n u = q.b → q = q1 ∨ q = q2) ∧
      dt p.n (crs (sb w1 v) (sb w2 v)) < 0 ∧ ∀ u ∈ L, dt p.n u = p.b → dt p.n (crs (sb w1 v) (sb u v)) ≤ 0 ∧ dt p.n (crs (sb u v) (sb w2 v)) ≤ 0 := by
  obtain ⟨c, hc⟩ := corner_dir h hv cv
  obtain ⟨_, hn0, A, B, C, hA, hB, hC, hX0, eB, eC, hb, _⟩ := facet_side h hp
  have hnn := sq_pos hn0
  have inpl : ∀ u, dt p.n u = p.b → dt p.n (sb u v) = 0 := fun u hu => by rw [dt_sb]; omega
  have he0 : crs p.n c ≠ ⟨0, 0, 0⟩ := fun e => by
    obtain ⟨u, hu, tu, hoff⟩ := facet_off h hp v p.n hn0
    have hne : u ≠ v := fun e0 => hoff (by rw [e0]; unfold crs sb; simp)
    have q : dt (sb u v) c = 0 := on_line hn0 e (by have := inpl u tu; unfold dt at *; grind)
    have q2 : dt c (sb u v) = 0 := by unfold dt at *; grind
    rw [dt_sb] at q2
    have := hc u hu hne
    omega
  have hee := sq_pos he0
  have sgn : ∀ s t : V3, dt p.n s = 0 → dt p.n t = 0 → dt p.n p.n * (dt c s * dt (crs p.n c) t - dt c t * dt (crs p.n c) s) = dt (crs p.n c) (crs p.n c) * dt p.n (crs s t) := fun s t h1 h2 => sense c hn0 h1 h2
  have he1 : ∀ s t : V3, dt p.n s = 0 → dt p.n t = 0 → crs s t ≠ ⟨0, 0, 0⟩ → dt c s * dt (crs p.n c) t - dt c t * dt (crs p.n c) s ≠ 0 := fun s t h1 h2 h3 e => by
    have q := sgn s t h1 h2
    rw [e, Int.mul_zero] at q
    rcases Int.mul_eq_zero.1 q.symm with h4 | h4
    · omega
    · exact triple_ne hn0 h1 h2 h3 h4
  obtain ⟨w1, G1, hw1, cw1, tw1, nw1, g11, g12, g13, k1⟩ := edge_end h hp hv tv hc he1
  obtain ⟨w2, G2, hw2, cw2, tw2, nw2, g21, g22, g23, k2⟩ := edge_end (e := ⟨-(crs p.n c).x, -(crs p.n c).y, -(crs p.n c).z⟩) h hp hv tv hc (fun s t h1 h2 h3 e => he1 s t h1 h2 h3 (by rw [dt_negv, dt_negv] at e; grind))
  have nz : ∀ w, w ≠ v → sb w v ≠ ⟨0, 0, 0⟩ := fun w hw e => hw (by
    have e1 := congrArg V3.x e
    have e2 := congrArg V3.y e
    have e3 := congrArg V3.z e
    unfold sb at e1 e2 e3
    simp only [] at e1 e2 e3
    exact V3.ext (by omega) (by omega) (by omega))
  obtain ⟨q1, hq1, n1, a1, b1⟩ := neighbor h hp hv hw1 tv tw1 (nz _ nw1) g11 g12 g13
  obtain ⟨q2, hq2, n2, a2, b2⟩ := neighbor h hp hv hw2 tv tw2 (nz _ nw2) g21 g22 g23
  have rev : ∀ w, dt c (sb v w) = -dt c (sb w v) := fun w => by rw [dt_sb, dt_sb]; omega
  have sg : ∀ x y : Int, dt p.n p.n * x = dt (crs p.n c) (crs p.n c) * y → x ≤ 0 → y ≤ 0 := fun x y e hx => by
    have q := Int.mul_nonneg (Int.le_of_lt hnn) (show 0 ≤ -x by omega)
    rw [Int.mul_neg, e, ← Int.mul_neg] at q
    have := mul_sign_le (m := dt (crs p.n c) (crs p.n c)) (by omega) (by rw [Int.mul_comm]; exact q)
    omega
  have anti : ∀ s t : V3, dt p.n (crs s t) = -dt p.n (crs t s) := fun s t => by unfold dt crs; grind
  have T1 : ∀ u ∈ L, dt p.n u = p.b → dt p.n (crs (sb w1 v) (sb u v)) ≤ 0 := fun u hu tu => by
    refine sg _ _ (sgn _ _ (inpl _ tw1) (inpl _ tu)) ?_
    have q := k1 u hu tu
    rw [rev, rev] at q
    grind
  have T2 : ∀ u ∈ L, dt p.n u = p.b → dt p.n (crs (sb u v) (sb w2 v)) ≤ 0 := fun u hu tu => by
    refine sg _ _ (sgn _ _ (inpl _ tu) (inpl _ tw2)) ?_
    have q := k2 u hu tu
    rw [rev, rev, dt_negv, dt_negv] at q
    grind
  have T12 : dt p.n (crs (sb w1 v) (sb w2 v)) < 0 := by
    rcases Int.lt_or_eq_of_le (T1 w2 hw2 tw2) with h1 | h1
    · exact h1
    · exfalso
      obtain ⟨u, hu, tu, hoff⟩ := facet_off h hp v (sb w1 v) (nz _ nw1)
      have x1 := triple_ne hn0 (inpl _ tw1) (inpl _ tu) hoff
      have y1 := T1 u hu tu
      have y2 := T2 u hu tu
      have comb := plane_comb hn0 (inpl _ tw1) (inpl _ tu) (inpl _ tw2) c
      rw [h1] at comb
      have cw1' := hc w1 hw1 nw1
      have cw2' := hc w2 hw2 nw2
      have hcu : dt c (sb u v) ≤ 0 := by
        rw [dt_sb]
        by_cases e0 : u = v
        · rw [e0]; omega
        · have := hc u hu e0; omega
      have an := anti (sb w2 v) (sb u v)
      -- T(w1,u) * c(w2) = T(w2,u) * c(w1)
      simp only [Int.zero_mul, Int.add_zero] at comb
      have s1 : dt c (sb w1 v) < 0 := by rw [dt_sb]; omega
      have s2 : dt c (sb w2 v) < 0 := by rw [dt_sb]; omega
      have m1 := Int.mul_pos (show 0 < -dt p.n (crs (sb w1 v) (sb u v)) by omega) (show 0 < -dt c (sb w2 v) by omega)
      have m2 := Int.mul_nonneg (show 0 ≤ dt p.n (crs (sb w2 v) (sb u v)) by omega) (show 0 ≤ -dt c (sb w1 v) by omega)
      rw [Int.neg_mul_neg] at m1
      rw [Int.mul_neg] at m2
      omega
  have hX12 : crs (sb w1 v) (sb w2 v) ≠ ⟨0, 0, 0⟩ := fun e => by rw [e, dt_zero_r] at T12; omega
  refine ⟨w1, w2, q1, q2, ⟨hw1, cw1, tw1, nw1⟩, ⟨hw2, cw2, tw2, nw2⟩, ⟨hq1, n1, a1, b1⟩, ⟨hq2, n2, a2, b2⟩, fun e => ?_, fun q hq hqp u hu huv tu qv qu => ?_, T12, fun u hu tu => ⟨T1 u hu tu, T2 u hu tu⟩⟩
  · subst e
    exact n1 (same_of_two h hp hq1 tv a1 (inpl _ tw1) (inpl _ tw2) (by rw [dt_sb]; omega) (by rw [dt_sb]; omega) hX12).symm
  · have sq' := facet_sup h hq
    have comb := plane_comb hn0 (inpl _ tw1) (inpl _ tw2) (inpl _ tu) q.n
    have z0 : dt q.n (sb u v) = 0 := by rw [dt_sb]; omega
    have z1 : dt q.n (sb w1 v) ≤ 0 := by rw [dt_sb]; have := sq' w1 hw1; omega
    have z2 : dt q.n (sb w2 v) ≤ 0 := by rw [dt_sb]; have := sq' w2 hw2; omega
    have y1 := T1 u hu tu
    have y2 := T2 u hu tu
    rw [z0, Int.mul_zero] at comb
    have m1 := Int.mul_nonneg (show 0 ≤ -dt p.n (crs (sb u v) (sb w2 v)) by omega) (show 0 ≤ -dt q.n (sb w1 v) by omega)
    have m2 := Int.mul_nonneg (show 0 ≤ -dt p.n (crs (sb w1 v) (sb u v)) by omega) (show 0 ≤ -dt q.n (sb w2 v) by omega)
    rw [Int.neg_mul_neg] at m1 m2
    have r1 : dt p.n (crs (sb u v) (sb w2 v)) * dt q.n (sb w1 v) = 0 := by omega
    have r2 : dt p.n (crs (sb w1 v) (sb u v)) * dt q.n (sb w2 v) = 0 := by omega
    have fin1 : dt q.n (sb w1 v) = 0 → q = q1 := fun e => by
      rw [dt_sb] at e
      rcases line_two h hp hq hq1 (Ne.symm nw1) tv tw1 qv (by omega) a1 b1 with e2 | e2 | e2
      · exact absurd e2.symm hqp
      · exact absurd e2.symm n1
      · exact e2
    have fin2 : dt q.n (sb w2 v) = 0 → q = q2 := fun e => by
      rw [dt_sb] at e
      rcases line_two h hp hq hq2 (Ne.symm nw2) tv tw2 qv (by omega) a2 b2 with e2 | e2 | e2
      · exact absurd e2.symm hqp
      · exact absurd e2.symm n2
      · exact e2
    rcases Int.mul_eq_zero.1 r1 with r1 | r1
    · rcases Int.mul_eq_zero.1 r2 with r2 | r2
      · exfalso
        apply nz u huv
        have all : ∀ M, dt M (sb u v) = dt M ⟨0, 0, 0⟩ := fun M => by
          have q := plane_comb hn0 (inpl _ tw1) (inpl _ tw2) (inpl _ tu) M
          rw [r1, r2, Int.zero_mul, Int.zero_mul, Int.add_zero] at q
          rw [dt_zero_r]
          rcases Int.mul_eq_zero.1 q with h1 | h1
          · omega
          · exact h1
        exact v3_of_units all
      · exact .inr (fin2 r2)
    · exact .inl (fin1 r1)
end Go.Proofs.Ytccnlnkgoaelpaa
namespace Go.Proofs.Ytccnlnkgoaelpaa
open Go.RowKit

def hgt (v : V3) : Int := dt ⟨10000, 100, 1⟩ v
theorem hgt_inj {L : List V3} (h : hCheck L = 0) {u v : V3} (hu : u ∈ L) (hv : v ∈ L) (e : hgt u = hgt v) : u = v := by
  obtain ⟨h48, hin, hpos⟩ := check_ok h
  obtain ⟨v1, v2, v3, v4, v5, v6⟩ := vIn_all hin hv
  obtain ⟨w1, w2, w3, w4, w5, w6⟩ := vIn_all hin hu
  unfold hgt dt at e
  obtain ⟨a, b, c⟩ := v
  obtain ⟨a', b', c'⟩ := u
  simp only [] at v1 v2 v3 v4 v5 v6 w1 w2 w3 w4 w5 w6 e
  congr 1 <;> omega
/-- A vertex. -/
structure IsV (L : List V3) (v : V3) : Prop where
  mem : v ∈ L
  cor : cornerB (facets L) v = true
theorem isV_iff {L : List V3} (h : hCheck L = 0) {v : V3} : v ∈ hExtreme L ↔ IsV L v := by
  rw [mem_ext h]
  exact ⟨fun ⟨a, b⟩ => ⟨a, (corner_iff h a).2 b⟩, fun ⟨a, b⟩ => ⟨a, (corner_iff h a).1 b⟩⟩
/-- Two different facets have at most two vertices in common. -/
theorem no_three {L : List V3} (h : hCheck L = 0) {p q : Pl} (hp : p ∈ facets L) (hq : q ∈ facets L) (hpq : p ≠ q) {u v w : V3} (hu : IsV L u) (hv : IsV L v) (hw : IsV L w)
    (pu : dt p.n u = p.b) (pv : dt p.n v = p.b) (pw : dt p.n w = p.b) (qu : dt q.n u = q.b) (qv : dt q.n v = q.b) (qw : dt q.n w = q.b) (uv : u ≠ v) (uw : u ≠ w) (vw : v ≠ w) : False := by
  by_cases hX : crs (sb v u) (sb w u) = ⟨0, 0, 0⟩
  · obtain ⟨a, ha⟩ := corner_dir h hu.mem hu.cor
    obtain ⟨b, hb⟩ := corner_dir h hv.mem hv.cor
    obtain ⟨e, he⟩ := corner_dir h hw.mem hw.cor
    have a1 := ha v hv.mem (Ne.symm uv)
    have a2 := ha w hw.mem (Ne.symm uw)
    have b1 := hb u hu.mem uv
    have b2 := hb w hw.mem (Ne.symm vw)
    have e1 := he u hu.mem uw
    have e2 := he v hv.mem vw
    have par : ∀ c d : V3, dt c (sb v u) * dt d (sb w u) = dt c (sb w u) * dt d (sb v u) := fun c d => by
      have q := binet c d (sb v u) (sb w u)
      rw [hX, dt_zero_r] at q
      omega
    have k1 := par a b
    have k2 := par a e
    have k3 := par b e
    rw [dt_sb, dt_sb, dt_sb, dt_sb] at k1 k2 k3
    have A1n : dt a v - dt a u < 0 := by omega
    have A2n : dt a w - dt a u < 0 := by omega
    have B1p : 0 < dt b v - dt b u := by omega
    have B2l : dt b w - dt b u < dt b v - dt b u := by omega
    have E2p : 0 < dt e w - dt e u := by omega
    have E1l : dt e v - dt e u < dt e w - dt e u := by omega
    generalize dt a v - dt a u = A1 at *
    generalize dt a w - dt a u = A2 at *
    generalize dt b v - dt b u = B1 at *
    generalize dt b w - dt b u = B2 at *
    generalize dt e v - dt e u = E1 at *
    generalize dt e w - dt e u = E2 at *
    -- A1 B2 = A2 B1, A1 E2 = A2 E1, B1 E2 = B2 E1
    have r1 : 0 < B2 := by
      have m := Int.mul_pos (show 0 < -A2 by omega) B1p
      have q : 0 < B2 * (-A1) := by grind
      exact mul_sign (m := -A1) (by omega) q
    have r2 : 0 < E1 := by
      have m := Int.mul_pos (show 0 < -A1 by omega) E2p
      have q : 0 < E1 * (-A2) := by grind
      exact mul_sign (m := -A2) (by omega) q
    have m1 := Int.mul_lt_mul_of_pos_left E1l B1p
    have m2 := Int.mul_lt_mul_of_pos_right B2l r2
    omega
  · exact hpq (same_of_two h hp hq pu qu (by rw [dt_sb]; omega) (by rw [dt_sb]; omega) (by rw [dt_sb]; omega) (by rw [dt_sb]; omega) hX)
/-- An edge of p and q at v goes up. -/
def Up (L : List V3) (v : V3) (p q : Pl) : Prop := p ≠ q ∧ dt p.n v = p.b ∧ dt q.n v = q.b ∧ ∃ w, IsV L w ∧ dt p.n w = p.b ∧ dt q.n w = q.b ∧ hgt v < hgt w
def Low (L : List V3) (v : V3) (p : Pl) : Prop := dt p.n v = p.b ∧ ∀ w, IsV L w → dt p.n w = p.b → hgt v ≤ hgt w
def Mixed (L : List V3) (v : V3) (p : Pl) : Prop := dt p.n v = p.b ∧ (∃ w ∈ L, dt p.n w = p.b ∧ hgt v < hgt w) ∧ ∃ w ∈ L, dt p.n w = p.b ∧ hgt w < hgt v
/-- The facets behind the edges at v that go up: two if v is the lowest of p, one if it is neither the lowest nor the highest. -/
theorem up_count {L : List V3} (h : hCheck L = 0) {p : Pl} (hp : p ∈ facets L) {v : V3} (hv : IsV L v) (tv : dt p.n v = p.b) :
    ∃ q1 q2, q1 ∈ facets L ∧ q2 ∈ facets L ∧ q1 ≠ q2 ∧ ∃ b1 b2 : Prop, (∀ q ∈ facets L, Up L v p q ↔ (q = q1 ∧ b1) ∨ (q = q2 ∧ b2)) ∧ (Low L v p ↔ b1 ∧ b2) ∧ (Mixed L v p ↔ (b1 ∧ ¬b2) ∨ (¬b1 ∧ b2)) := by
  obtain ⟨w1, w2, q1, q2, ⟨hw1, c1, t1, n1⟩, ⟨hw2, c2, t2, n2⟩, ⟨hq1, np1, a1, a1'⟩, ⟨hq2, np2, a2, a2'⟩, h12, hall, hT, hT2⟩ := two_edges h hp hv.mem hv.cor tv
  have v1 : IsV L w1 := ⟨hw1, c1⟩
  have v2 : IsV L w2 := ⟨hw2, c2⟩
  have hn0 : p.n ≠ ⟨0, 0, 0⟩ := (facet_side h hp).2.1
  have inpl : ∀ u, dt p.n u = p.b → dt p.n (sb u v) = 0 := fun u hu => by rw [dt_sb]; omega
  have d1 : hgt w1 ≠ hgt v := fun e => n1 (hgt_inj h hw1 hv.mem e)
  have d2 : hgt w2 ≠ hgt v := fun e => n2 (hgt_inj h hw2 hv.mem e)
  -- all points between
  have cone : ∀ M : V3, ∀ u ∈ L, dt p.n u = p.b → 0 ≤ dt M (sb w1 v) → 0 ≤ dt M (sb w2 v) → 0 ≤ dt M (sb u v) := fun M u hu tu m1 m2 => by
    have comb := plane_comb hn0 (inpl _ t1) (inpl _ t2) (inpl _ tu) M
    obtain ⟨y1, y2⟩ := hT2 u hu tu
    have k1 := Int.mul_nonneg (show 0 ≤ -dt p.n (crs (sb u v) (sb w2 v)) by omega) m1
    have k2 := Int.mul_nonneg (show 0 ≤ -dt p.n (crs (sb w1 v) (sb u v)) by omega) m2
    rw [Int.neg_mul] at k1 k2
    have k3 : 0 ≤ dt M (sb u v) * (-dt p.n (crs (sb w1 v) (sb w2 v))) := by
      rw [Int.mul_neg, Int.mul_comm, comb]
      omega
    exact mul_sign_le (m := -dt p.n (crs (sb w1 v) (sb w2 v))) (by omega) k3
  have hs : ∀ u, dt ⟨10000, 100, 1⟩ (sb u v) = hgt u - hgt v := fun u => dt_sb _ _ _
  have low : hgt v < hgt w1 → hgt v < hgt w2 → ∀ u ∈ L, dt p.n u = p.b → hgt v ≤ hgt u := fun k1 k2 u hu tu => by
    have := cone ⟨10000, 100, 1⟩ u hu tu (by rw [hs]; omega) (by rw [hs]; omega)
    rw [hs] at this
    omega
  have hgh : hgt w1 < hgt v → hgt w2 < hgt v → ∀ u ∈ L, dt p.n u = p.b → hgt u ≤ hgt v := fun k1 k2 u hu tu => by
    have := cone ⟨-10000, -100, -1⟩ u hu tu (by have := hs w1; have e := dt_negv ⟨10000, 100, 1⟩ (sb w1 v); simp only [] at e; rw [e]; omega) (by have := hs w2; have e := dt_negv ⟨10000, 100, 1⟩ (sb w2 v); simp only [] at e; rw [e]; omega)
    have e := dt_negv ⟨10000, 100, 1⟩ (sb u v)
    simp only [] at e
    rw [e, hs] at this
    omega
  refine ⟨q1, q2, hq1, hq2, h12, hgt v < hgt w1, hgt v < hgt w2, fun q hq => ⟨?_, ?_⟩, ⟨fun ⟨_, k⟩ => ?_, fun ⟨k1, k2⟩ => ⟨tv, fun w hw tw => low k1 k2 w hw.mem tw⟩⟩, ⟨?_, ?_⟩⟩
  · rintro ⟨hpq, _, qv, w, hw, pw, qw, hl⟩
    have hwv : w ≠ v := fun e => by subst e; omega
    rcases hall q hq (Ne.symm hpq) w hw.mem hwv pw qv qw with e | e
    · subst e
      refine .inl ⟨rfl, ?_⟩
      by_cases e : w = w1
      · subst e; exact hl
      · exact (no_three h hp hq hpq hv hw v1 tv pw t1 qv qw a1' (Ne.symm hwv) (Ne.symm n1) e).elim
    · subst e
      refine .inr ⟨rfl, ?_⟩
      by_cases e : w = w2
      · subst e; exact hl
      · exact (no_three h hp hq hpq hv hw v2 tv pw t2 qv qw a2' (Ne.symm hwv) (Ne.symm n2) e).elim
  · rintro (⟨rfl, hl⟩ | ⟨rfl, hl⟩)
    · exact ⟨Ne.symm np1, tv, a1, w1, v1, t1, a1', hl⟩
    · exact ⟨Ne.symm np2, tv, a2, w2, v2, t2, a2', hl⟩
  · have k1 := k w1 v1 t1
    have k2 := k w2 v2 t2
    omega
  · rintro ⟨_, ⟨u, hu, tu, gu⟩, ⟨x, hx, tx, gx⟩⟩
    by_cases k1 : hgt v < hgt w1
    · refine .inl ⟨k1, fun k2 => ?_⟩
      have := low k1 k2 x hx tx
      omega
    · refine .inr ⟨k1, ?_⟩
      apply Classical.byContradiction
      intro k2
      have := hgh (by omega) (by omega) u hu tu
      omega
  · rintro (⟨k1, k2⟩ | ⟨k1, k2⟩)
    · exact ⟨tv, ⟨w1, hw1, t1, k1⟩, ⟨w2, hw2, t2, by omega⟩⟩
    · exact ⟨tv, ⟨w2, hw2, t2, k2⟩, ⟨w1, hw1, t1, by omega⟩⟩
end Go.Proofs.Ytccnlnkgoaelpaa
namespace Go.Proofs.Ytccnlnkgoaelpaa
open Go.RowKit

theorem hgt_sb (u v : V3) : dt ⟨10000, 100, 1⟩ (sb u v) = hgt u - hgt v := dt_sb _ _ _
theorem corner_side {L : List V3} {v c : V3} (hc : ∀ u ∈ L, u ≠ v → dt c u < dt c v) {u : V3} (hu : u ∈ L) (h : hgt u ≠ hgt v) : dt c (sb u v) < 0 := by
  rw [dt_sb]
  have := hc u hu (fun e => h (by rw [e]))
  omega
theorem mixed_dir {L : List V3} (h : hCheck L = 0) {p : Pl} (hp : p ∈ facets L) {v : V3} (hv : IsV L v) (m : Mixed L v p) :
    ∃ d, dt ⟨10000, 100, 1⟩ d = 0 ∧ dt p.n d = 0 ∧ ∀ q ∈ facets L, q ≠ p → dt q.n v = q.b → dt q.n d < 0 := by
  obtain ⟨tv, ⟨u, hu, tu, gu⟩, ⟨x, hx, tx, gx⟩⟩ := m
  obtain ⟨c, hc⟩ := corner_dir h hv.mem hv.cor
  have cu := corner_side hc hu (show hgt u ≠ hgt v by omega)
  have cx := corner_side hc hx (show hgt x ≠ hgt v by omega)
  have hX : crs (sb u v) (sb x v) ≠ ⟨0, 0, 0⟩ := fun e => by
    have q := binet c ⟨10000, 100, 1⟩ (sb u v) (sb x v)
    rw [e, dt_zero_r, hgt_sb, hgt_sb] at q
    have m1 := Int.mul_pos (show 0 < -dt c (sb u v) by omega) (show 0 < hgt v - hgt x by omega)
    have m2 := Int.mul_pos (show 0 < -dt c (sb x v) by omega) (show 0 < hgt u - hgt v by omega)
    grind
  have pu : dt p.n (sb u v) = 0 := by rw [dt_sb]; omega
  have px : dt p.n (sb x v) = 0 := by rw [dt_sb]; omega
  refine ⟨lin (hgt v - hgt x) (sb u v) (hgt u - hgt v) (sb x v), ?_, ?_, fun q hq hqp tq => ?_⟩
  · have e : ∀ M a b : V3, ∀ s t : Int, dt M (lin s a t b) = s * dt M a + t * dt M b := fun M a b s t => by unfold dt lin; grind
    rw [e, hgt_sb, hgt_sb]; grind
  · have e : ∀ M a b : V3, ∀ s t : Int, dt M (lin s a t b) = s * dt M a + t * dt M b := fun M a b s t => by unfold dt lin; grind
    rw [e, pu, px]; omega
  · have e : ∀ M a b : V3, ∀ s t : Int, dt M (lin s a t b) = s * dt M a + t * dt M b := fun M a b s t => by unfold dt lin; grind
    have sq' := facet_sup h hq
    have z1 : dt q.n (sb u v) ≤ 0 := by rw [dt_sb]; have := sq' u hu; omega
    have z2 : dt q.n (sb x v) ≤ 0 := by rw [dt_sb]; have := sq' x hx; omega
    rw [e]
    have m1 := Int.mul_nonneg (show 0 ≤ hgt v - hgt x by omega) (show 0 ≤ -dt q.n (sb u v) by omega)
    have m2 := Int.mul_nonneg (show 0 ≤ hgt u - hgt v by omega) (show 0 ≤ -dt q.n (sb x v) by omega)
    rw [Int.mul_neg] at m1 m2
    apply Classical.byContradiction
    intro hn
    have y1 : (hgt v - hgt x) * dt q.n (sb u v) = 0 := by omega
    have y2 : (hgt u - hgt v) * dt q.n (sb x v) = 0 := by omega
    have y1' : dt q.n (sb u v) = 0 := by rcases Int.mul_eq_zero.1 y1 with k | k <;> omega
    have y2' : dt q.n (sb x v) = 0 := by rcases Int.mul_eq_zero.1 y2 with k | k <;> omega
    exact hqp (same_of_two h hq hp tq tv y1' y2' pu px hX)
theorem sgn_of {A B s t : Int} (h : A * s = B * t) (hs : s < 0) (ht : t < 0) : (0 < A → 0 < B) ∧ (A < 0 → B < 0) ∧ (A = 0 → B = 0) := by
  refine ⟨fun hA => ?_, fun hA => ?_, fun hA => ?_⟩
  · have m := Int.mul_pos hA (show 0 < -s by omega)
    have : 0 < B * (-t) := by rw [Int.mul_neg] at m ⊢; omega
    exact mul_sign (m := -t) (by omega) this
  · have m := Int.mul_pos (show 0 < -A by omega) (show 0 < -s by omega)
    have : 0 < (-B) * (-t) := by rw [Int.neg_mul_neg] at m ⊢; omega
    have := mul_sign (m := -t) (by omega) this
    omega
  · rw [hA, Int.zero_mul] at h
    rcases Int.mul_eq_zero.1 h.symm with k | k <;> omega
theorem mixed_two {L : List V3} (h : hCheck L = 0) {v : V3} (hv : IsV L v) {p1 p2 p3 : Pl} (h1 : p1 ∈ facets L) (h2 : p2 ∈ facets L) (h3 : p3 ∈ facets L) (m1 : Mixed L v p1) (m2 : Mixed L v p2) (m3 : Mixed L v p3)
    (n12 : p1 ≠ p2) (n13 : p1 ≠ p3) (n23 : p2 ≠ p3) : False := by
  obtain ⟨d1, a1, b1, c1⟩ := mixed_dir h h1 hv m1
  obtain ⟨d2, a2, b2, c2⟩ := mixed_dir h h2 hv m2
  obtain ⟨d3, a3, b3, c3⟩ := mixed_dir h h3 hv m3
  have s21 := c1 p2 h2 (Ne.symm n12) m2.1
  have s31 := c1 p3 h3 (Ne.symm n13) m3.1
  have s12 := c2 p1 h1 n12 m1.1
  have s32 := c2 p3 h3 (Ne.symm n23) m3.1
  have s13 := c3 p1 h1 n13 m1.1
  have s23 := c3 p2 h2 n23 m2.1
  have hH : (⟨10000, 100, 1⟩ : V3) ≠ ⟨0, 0, 0⟩ := fun e => by have := congrArg V3.x e; simp at this
  have k1 := plane_comb hH a1 a2 a3 p1.n
  have k2 := plane_comb hH a1 a2 a3 p2.n
  have k3 := plane_comb hH a1 a2 a3 p3.n
  rw [b1, Int.mul_zero, Int.zero_add] at k1
  rw [b2, Int.mul_zero, Int.add_zero] at k2
  rw [b3, Int.mul_zero] at k3
  have hX : crs d1 d2 ≠ ⟨0, 0, 0⟩ := fun e => by
    have q := binet p1.n p2.n d1 d2
    rw [e, dt_zero_r, b1, b2, Int.zero_mul] at q
    have := Int.mul_pos (show 0 < -dt p1.n d2 by omega) (show 0 < -dt p2.n d1 by omega)
    rw [Int.neg_mul_neg] at this
    omega
  have hne := triple_ne hH a1 a2 hX
  generalize dt ⟨10000, 100, 1⟩ (crs d1 d2) = X at *
  generalize dt ⟨10000, 100, 1⟩ (crs d1 d3) = Y at *
  generalize dt ⟨10000, 100, 1⟩ (crs d3 d2) = Z at *
  obtain ⟨r1, r2, _⟩ := sgn_of k1 s13 s12
  obtain ⟨r4, r5, _⟩ := sgn_of k2 s23 s21
  have k3' : (-Y) * dt p3.n d2 = Z * dt p3.n d1 := by rw [Int.neg_mul]; omega
  obtain ⟨r7, r8, r9⟩ := sgn_of k3' s32 s31
  omega
theorem mixed_ex {L : List V3} (h : hCheck L = 0) {v : V3} (hv : IsV L v) (hup : ∃ u ∈ L, hgt v < hgt u) (hdn : ∃ x ∈ L, hgt x < hgt v) :
    ∃ p ∈ facets L, Mixed L v p := by
  obtain ⟨c, hc⟩ := corner_dir h hv.mem hv.cor
  have lr : ∀ M a b : V3, ∀ s t : Int, dt M (lin s a t b) = s * dt M a + t * dt M b := fun M a b s t => by unfold dt lin; grind
  let D : V3 → V3 → V3 := fun u x => lin (hgt v - hgt x) (sb u v) (hgt u - hgt v) (sb x v)
  let S : List V3 := (L.filter fun u => decide (hgt v < hgt u)).flatMap fun u => (L.filter fun x => decide (hgt x < hgt v)).map (D u)
  have mS : ∀ d, d ∈ S ↔ ∃ u x, u ∈ L ∧ hgt v < hgt u ∧ x ∈ L ∧ hgt x < hgt v ∧ d = D u x := fun d => by
    simp only [S, List.mem_flatMap, List.mem_filter, List.mem_map, decide_eq_true_eq]
    constructor
    · rintro ⟨u, ⟨hu, gu⟩, x, ⟨hx, gx⟩, e⟩
      exact ⟨u, x, hu, gu, hx, gx, e.symm⟩
    · rintro ⟨u, x, hu, gu, hx, gx, e⟩
      exact ⟨u, ⟨hu, gu⟩, x, ⟨hx, gx⟩, e.symm⟩
  have cD : ∀ u x, u ∈ L → hgt v < hgt u → x ∈ L → hgt x < hgt v → 0 < -dt c (D u x) := fun u x hu gu hx gx => by
    have cu := corner_side hc hu (show hgt u ≠ hgt v by omega)
    have cx := corner_side hc hx (show hgt x ≠ hgt v by omega)
    show 0 < -dt c (lin _ _ _ _)
    rw [lr]
    have m1 := Int.mul_pos (show 0 < hgt v - hgt x by omega) (show 0 < -dt c (sb u v) by omega)
    have m2 := Int.mul_pos (show 0 < hgt u - hgt v by omega) (show 0 < -dt c (sb x v) by omega)
    rw [Int.mul_neg] at m1 m2
    omega
  obtain ⟨u0, hu0, gu0⟩ := hup
  obtain ⟨x0, hx0, gx0⟩ := hdn
  obtain ⟨d, hd, hpd, hmin⟩ := min_ratio (fun d => -dt c d) (fun d => dt (crs ⟨10000, 100, 1⟩ c) d) S ⟨D u0 x0, (mS _).2 ⟨u0, x0, hu0, gu0, hx0, gx0, rfl⟩, cD _ _ hu0 gu0 hx0 gx0⟩
  obtain ⟨u, x, hu, gu, hx, gx, ed⟩ := (mS d).1 hd
  have hH : (⟨10000, 100, 1⟩ : V3) ≠ ⟨0, 0, 0⟩ := fun e => by have := congrArg V3.x e; simp at this
  have hHd : dt ⟨10000, 100, 1⟩ d = 0 := by rw [ed]; show dt _ (lin _ _ _ _) = 0; rw [lr, hgt_sb, hgt_sb]; grind
  -- the direction that supports the crossings
  obtain ⟨G, hG⟩ : ∃ G : V3, ∀ w, dt G w = (-dt c d) * dt (crs ⟨10000, 100, 1⟩ c) w + dt (crs ⟨10000, 100, 1⟩ c) d * dt c w := ⟨lin (-dt c d) (crs ⟨10000, 100, 1⟩ c) (dt (crs ⟨10000, 100, 1⟩ c) d) c, fun w => dt_lin _ _ _ _ _⟩
  have G0 : dt G d = 0 := by rw [hG]; grind
  have Gp : ∀ u x, u ∈ L → hgt v < hgt u → x ∈ L → hgt x < hgt v → 0 ≤ (hgt v - hgt x) * dt G (sb u v) + (hgt u - hgt v) * dt G (sb x v) := fun u x hu gu hx gx => by
    have q := hmin (D u x) ((mS _).2 ⟨u, x, hu, gu, hx, gx, rfl⟩) (cD _ _ hu gu hx gx)
    rw [← lr]
    show 0 ≤ dt G (D u x)
    rw [hG]
    grind
  have G0' : (hgt v - hgt x) * dt G (sb u v) + (hgt u - hgt v) * dt G (sb x v) = 0 := by
    rw [← lr]; show dt G (D u x) = 0; rw [← ed]; exact G0
  have Gy : dt G (crs ⟨10000, 100, 1⟩ d) < 0 := by
    rw [hG]
    have e1 : dt (crs ⟨10000, 100, 1⟩ c) (crs ⟨10000, 100, 1⟩ d) = dt ⟨10000, 100, 1⟩ ⟨10000, 100, 1⟩ * dt c d - dt ⟨10000, 100, 1⟩ d * dt ⟨10000, 100, 1⟩ c := by unfold dt crs; grind
    have e2 : dt c (crs ⟨10000, 100, 1⟩ d) = -dt (crs ⟨10000, 100, 1⟩ c) d := by unfold dt crs; grind
    rw [e1, e2, hHd]
    have hHH := sq_pos hH
    generalize dt ⟨10000, 100, 1⟩ ⟨10000, 100, 1⟩ = H at *
    generalize dt (crs ⟨10000, 100, 1⟩ c) d = E at *
    generalize dt c d = C at *
    have m1 := Int.mul_pos (Int.mul_pos hpd hpd) hHH
    have m2 : 0 ≤ E * E := by
      rcases Int.le_total 0 E with k | k
      · exact Int.mul_nonneg k k
      · have := Int.mul_nonneg (show 0 ≤ -E by omega) (show 0 ≤ -E by omega)
        rw [Int.neg_mul_neg] at this
        exact this
    grind
  have hHy : dt ⟨10000, 100, 1⟩ (crs ⟨10000, 100, 1⟩ d) = 0 := by unfold dt crs; grind
  obtain ⟨N', hN'⟩ : ∃ N' : V3, ∀ w, dt N' w = (-(hgt u - hgt v)) * dt G w + dt G (sb u v) * dt ⟨10000, 100, 1⟩ w := ⟨lin (-(hgt u - hgt v)) G (dt G (sb u v)) ⟨10000, 100, 1⟩, fun w => dt_lin _ _ _ _ _⟩
  have tu : dt N' (sb u v) = 0 := by rw [hN', hgt_sb]; grind
  have tx : dt N' (sb x v) = 0 := by rw [hN', hgt_sb]; grind
  have ne : N' ≠ ⟨0, 0, 0⟩ := fun e => by
    have q := hN' (crs ⟨10000, 100, 1⟩ d)
    rw [e, dt_zero_l, hHy, Int.mul_zero, Int.add_zero] at q
    have := Int.mul_pos (show 0 < hgt u - hgt v by omega) (show 0 < -dt G (crs ⟨10000, 100, 1⟩ d) by omega)
    rw [Int.mul_neg] at this
    rw [Int.neg_mul] at q
    omega
  have sup : ∀ w ∈ L, dt N' (sb w v) ≤ 0 := fun w hw => by
    rw [hN', hgt_sb]
    rcases Int.lt_trichotomy (hgt w) (hgt v) with k | k | k
    · have q := Gp u w hu gu hw k
      grind
    · have e := hgt_inj h hw hv.mem k
      rw [e]
      have z : sb v v = ⟨0, 0, 0⟩ := by unfold sb; simp
      rw [z, dt_zero_r]
      omega
    · have q := Gp w x hw k hx gx
      have m := Int.mul_nonneg (show 0 ≤ hgt u - hgt v by omega) q
      have : 0 ≤ (-(-(hgt u - hgt v) * dt G (sb w v) + dt G (sb u v) * (hgt w - hgt v))) * (hgt v - hgt x) := by
        have E : ∀ a b e s p r : Int, (-(-p * a + e * r)) * s = p * (s * a + r * b) - r * (s * e + p * b) := fun a b e s p r => by grind
        rw [E _ (dt G (sb x v)), G0', Int.mul_zero, Int.sub_zero]
        exact m
      have := mul_sign_le (m := hgt v - hgt x) (by omega) this
      omega
  have cu := corner_side hc hu (show hgt u ≠ hgt v by omega)
  have cx := corner_side hc hx (show hgt x ≠ hgt v by omega)
  have hX : crs (sb u v) (sb x v) ≠ ⟨0, 0, 0⟩ := fun e => by
    have q := binet c ⟨10000, 100, 1⟩ (sb u v) (sb x v)
    rw [e, dt_zero_r, hgt_sb, hgt_sb] at q
    have m1 := Int.mul_pos (show 0 < -dt c (sb u v) by omega) (show 0 < hgt v - hgt x by omega)
    have m2 := Int.mul_pos (show 0 < -dt c (sb x v) by omega) (show 0 < hgt u - hgt v by omega)
    grind
  rw [dt_sb] at tu tx
  obtain ⟨p, f⟩ := facet_of h (N' := N') (A := v) (B := u) (C := x) (b' := dt N' v) (fun w hw => by have := sup w hw; rw [dt_sb] at this; omega) hv.mem hu hx rfl (by omega) (by omega) ne hX
  exact ⟨p, f.mem, (f.tight h hv.mem v).2 rfl, ⟨u, hu, (f.tight h hv.mem u).2 (by omega), gu⟩, ⟨x, hx, (f.tight h hv.mem x).2 (by omega), gx⟩⟩
end Go.Proofs.Ytccnlnkgoaelpaa
namespace Go.Proofs.Ytccnlnkgoaelpaa
open Go.RowKit

def sm {α : Type} (f : α → Nat) : List α → Nat
  | [] => 0
  | a :: l => f a + sm f l
theorem sm_congr {α : Type} {f g : α → Nat} : ∀ {l : List α}, (∀ a ∈ l, f a = g a) → sm f l = sm g l
  | [], _ => rfl
  | a :: l, h => by
    show f a + sm f l = g a + sm g l
    rw [h a (.head _), sm_congr fun b hb => h b (.tail _ hb)]
theorem sm_add {α : Type} (f g : α → Nat) : ∀ l : List α, sm (fun a => f a + g a) l = sm f l + sm g l
  | [] => rfl
  | a :: l => by
    show f a + g a + sm (fun a => f a + g a) l = f a + sm f l + (g a + sm g l)
    rw [sm_add f g l]; omega
theorem sm_mul {α : Type} (k : Nat) (f : α → Nat) : ∀ l : List α, sm (fun a => k * f a) l = k * sm f l
  | [] => by show 0 = k * 0; omega
  | a :: l => by
    show k * f a + sm (fun a => k * f a) l = k * (f a + sm f l)
    rw [sm_mul k f l, Nat.mul_add]
theorem sm_zero {α : Type} : ∀ {f : α → Nat} {l : List α}, (∀ a ∈ l, f a = 0) → sm f l = 0
  | _, [], _ => rfl
  | f, a :: l, h => by
    show f a + sm f l = 0
    rw [h a (.head _), sm_zero fun b hb => h b (.tail _ hb)]
theorem sm_const {α : Type} (k : Nat) : ∀ l : List α, sm (fun _ => k) l = k * l.length
  | [] => by show 0 = k * 0; omega
  | a :: l => by
    show k + sm (fun _ => k) l = k * (l.length + 1)
    rw [sm_const k l, Nat.mul_add]; omega
theorem sm_comm {α β : Type} (f : α → β → Nat) (m : List β) : ∀ l : List α, sm (fun a => sm (f a) m) l = sm (fun b => sm (fun a => f a b) l) m
  | [] => (sm_zero fun _ _ => rfl).symm
  | a :: l => by
    show sm (f a) m + sm (fun a => sm (f a) m) l = sm (fun b => f a b + sm (fun a => f a b) l) m
    rw [sm_comm f m l, sm_add]
theorem sm_append {α : Type} (f : α → Nat) : ∀ l m : List α, sm f (l ++ m) = sm f l + sm f m
  | [], m => by show sm f m = 0 + sm f m; omega
  | a :: l, m => by
    show f a + sm f (l ++ m) = f a + sm f l + sm f m
    rw [sm_append f l m]; omega
theorem sm_one {α : Type} {f : α → Nat} : ∀ {l : List α}, l.Nodup → ∀ {a : α}, a ∈ l → (∀ b ∈ l, b ≠ a → f b = 0) → sm f l = f a
  | [], _, _, h, _ => by cases h
  | x :: l, nd, a, h, h0 => by
    rw [List.nodup_cons] at nd
    show f x + sm f l = f a
    by_cases e : x = a
    · subst e
      rw [sm_zero fun b hb => h0 b (.tail _ hb) (fun e => nd.1 (e ▸ hb))]; rfl
    · have hm : a ∈ l := by
        cases h with
        | head => exact absurd rfl e
        | tail _ h => exact h
      rw [h0 x (.head _) e, sm_one nd.2 hm fun b hb => h0 b (.tail _ hb)]; omega
theorem sm_pos {α : Type} {f : α → Nat} : ∀ {l : List α} {a : α}, a ∈ l → f a ≤ sm f l
  | x :: l, a, h => by
    show f a ≤ f x + sm f l
    cases h with
    | head => omega
    | tail _ h => have := sm_pos (f := f) h; omega
/-- Of a list without repetition, with at most two that count. -/
theorem sm_two {α : Type} {f : α → Nat} (h1 : ∀ a, f a ≤ 1) : ∀ {l : List α}, l.Nodup → (∀ a b c, a ∈ l → b ∈ l → c ∈ l → a ≠ b → a ≠ c → b ≠ c → f a = 1 → f b = 1 → f c = 1 → False) → sm f l ≤ 2
  | [], _, _ => by show 0 ≤ 2; omega
  | x :: l, nd, h => by
    have h1' := h1
    rw [List.nodup_cons] at nd
    show f x + sm f l ≤ 2
    by_cases hx : f x = 1
    · have : sm f l ≤ 1 := by
        rcases Nat.lt_or_ge 1 (sm f l) with k | k
        · exfalso
          have two : ∀ {l : List α}, l.Nodup → (∀ a, a ∈ l → f a ≤ 1) → 1 < sm f l → ∃ b c, b ∈ l ∧ c ∈ l ∧ b ≠ c ∧ f b = 1 ∧ f c = 1 := by
            intro l
            induction l with
            | nil => intro _ _ k; exact absurd k (by show ¬ 1 < 0; omega)
            | cons y m ih =>
              intro nd h1 k
              rw [List.nodup_cons] at nd
              have k' : 1 < f y + sm f m := k
              have hy := h1 y (.head _)
              by_cases hm : 1 < sm f m
              · obtain ⟨b, c, hb, hc, r⟩ := ih nd.2 (fun a ha => h1 a (.tail _ ha)) hm
                exact ⟨b, c, .tail _ hb, .tail _ hc, r⟩
              · have hm1 : sm f m = 1 := by omega
                have : ∃ c ∈ m, f c = 1 := by
                  apply Classical.byContradiction
                  intro hn
                  have : sm f m = 0 := sm_zero fun a ha => by
                    have h9 := h1 a (.tail _ ha)
                    rcases Nat.lt_or_ge (f a) 1 with q | q
                    · omega
                    · exact absurd ⟨a, ha, by omega⟩ hn
                  omega
                obtain ⟨c, hc, ec⟩ := this
                exact ⟨y, c, .head _, .tail _ hc, fun e => nd.1 (e ▸ hc), by omega, ec⟩
          obtain ⟨b, c, hb, hc, hne, e1, e2⟩ := two nd.2 (fun a _ => h1 a) k
          exact h x b c (.head _) (.tail _ hb) (.tail _ hc) (fun e => nd.1 (e ▸ hb)) (fun e => nd.1 (e ▸ hc)) hne hx e1 e2
        · exact k
      omega
    · have := h1 x
      have q := sm_two h1 nd.2 fun a b c ha hb hc => h a b c (.tail _ ha) (.tail _ hb) (.tail _ hc)
      omega
theorem sm_sym {α : Type} {f : α → α → Nat} (hs : ∀ a b, f a b = f b a) (h0 : ∀ a, f a a = 0) (A : List α) (a : α) :
    sm (fun p => sm (f p) (A ++ [a])) (A ++ [a]) = sm (fun p => sm (f p) A) A + 2 * sm (f a) A := by
  have one : ∀ g : α → Nat, sm g [a] = g a := fun g => by show g a + 0 = g a; omega
  rw [sm_append, one, sm_append, one, h0]
  have e : sm (fun p => sm (f p) (A ++ [a])) A = sm (fun p => sm (f p) A) A + sm (f a) A := by
    rw [← sm_add]
    exact sm_congr fun b _ => by rw [sm_append, one, hs b a]
  rw [e]
  omega
theorem sm_even {α : Type} {f : α → α → Nat} (hs : ∀ a b, f a b = f b a) (h0 : ∀ a, f a a = 0) : ∀ l : List α, ∃ k, sm (fun p => sm (f p) l) l = 2 * k
  | [] => ⟨0, rfl⟩
  | a :: l => by
    obtain ⟨k, hk⟩ := sm_even hs h0 l
    refine ⟨k + sm (f a) l, ?_⟩
    show f a a + sm (f a) l + sm (fun p => f p a + sm (f p) l) l = _
    rw [sm_add, hk, h0, sm_congr (f := fun p => f p a) (g := f a) fun b _ => hs b a]
    omega
theorem charf {α : Type} (P : α → Prop) : ∃ f : α → Nat, ∀ x, (P x → f x = 1) ∧ (¬P x → f x = 0) :=
  ⟨fun x => @ite _ (P x) (Classical.propDecidable _) 1 0, fun x => ⟨fun h => @if_pos _ (Classical.propDecidable _) h _ _ _, fun h => @if_neg _ (Classical.propDecidable _) h _ _ _⟩⟩
theorem sorted_nodup {l : List V3} (h : SortedL vLt l) : l.Nodup := by
  unfold SortedL at h
  exact h.imp fun {a b} hab e => by subst e; rw [vLt_iff] at hab; omega
theorem two_of {α : Type} : ∀ {l : List α}, l.Nodup → 1 < l.length → ∃ a b, a ∈ l ∧ b ∈ l ∧ a ≠ b
  | [], _, h => absurd h (by show ¬ 1 < 0; omega)
  | [_], _, h => absurd h (by show ¬ 1 < 1; omega)
  | a :: b :: l, nd, _ => ⟨a, b, .head _, .tail _ (.head _), fun e => by subst e; rw [List.nodup_cons] at nd; exact nd.1 (.head _)⟩
theorem of_two {α : Type} : ∀ {l : List α} {a b : α}, a ∈ l → b ∈ l → a ≠ b → 1 < l.length
  | [], _, _, h, _, _ => by cases h
  | [x], a, b, h, k, hne => by
    rw [List.mem_singleton] at h k
    exact absurd (h.trans k.symm) hne
  | _ :: _ :: _, _, _, _, _, _ => by simp
end Go.Proofs.Ytccnlnkgoaelpaa
namespace Go.Proofs.Ytccnlnkgoaelpaa
open Go.RowKit

def shared (V : List V3) (p q : Pl) : List V3 := V.filter fun x => decide (pSide p x = 0) && decide (pSide q x = 0)
def edgeB (V : List V3) (p q : Pl) : Bool := decide (1 < (shared V p q).length)
def edgesTo (V : List V3) (F : List Pl) : Nat → Nat
  | 0 => 0
  | i + 1 => edgesTo V F i + ((F.take i).filter (edgeB V (F.getD i ⟨⟨0, 0, 0⟩, 0⟩))).length
theorem side_on {L : List V3} (h : hCheck L = 0) {p : Pl} (hp : p ∈ facets L) {x : V3} (hx : x ∈ L) : pSide p x = 0 ↔ dt p.n x = p.b := by
  obtain ⟨h48, hin, _⟩ := check_ok h
  obtain ⟨_, _, A', B', C', hA', _, _, _, _, _, hb', hs'⟩ := facet_side h hp
  rw [hs' x (vIn_all hin hx), hb']
  exact ordI_zero'
theorem mem_shared {L : List V3} (h : hCheck L = 0) {p q : Pl} (hp : p ∈ facets L) (hq : q ∈ facets L) {x : V3} : x ∈ shared (hExtreme L) p q ↔ IsV L x ∧ dt p.n x = p.b ∧ dt q.n x = q.b := by
  unfold shared
  rw [List.mem_filter, isV_iff h]
  simp only [Bool.and_eq_true, decide_eq_true_eq]
  constructor
  · rintro ⟨a, b, c⟩
    exact ⟨a, (side_on h hp a.mem).1 b, (side_on h hq a.mem).1 c⟩
  · rintro ⟨a, b, c⟩
    exact ⟨a, (side_on h hp a.mem).2 b, (side_on h hq a.mem).2 c⟩
theorem nodup_ext {L : List V3} (h : hCheck L = 0) : (hExtreme L).Nodup := sorted_nodup (sorted_ext h)
theorem edge_iff {L : List V3} (h : hCheck L = 0) {p q : Pl} (hp : p ∈ facets L) (hq : q ∈ facets L) : edgeB (hExtreme L) p q = true ↔ ∃ a b, IsV L a ∧ IsV L b ∧ hgt a < hgt b ∧ dt p.n a = p.b ∧ dt q.n a = q.b ∧ dt p.n b = p.b ∧ dt q.n b = q.b := by
  unfold edgeB
  rw [decide_eq_true_eq]
  constructor
  · intro k
    obtain ⟨a, b, ha, hb, hne⟩ := two_of ((nodup_ext h).filter _) k
    obtain ⟨a1, a2, a3⟩ := (mem_shared h hp hq).1 ha
    obtain ⟨b1, b2, b3⟩ := (mem_shared h hp hq).1 hb
    rcases Int.lt_trichotomy (hgt a) (hgt b) with e | e | e
    · exact ⟨a, b, a1, b1, e, a2, a3, b2, b3⟩
    · exact absurd (hgt_inj h a1.mem b1.mem e) hne
    · exact ⟨b, a, b1, a1, e, b2, b3, a2, a3⟩
  · rintro ⟨a, b, a1, b1, e, a2, a3, b2, b3⟩
    exact of_two ((mem_shared h hp hq).2 ⟨a1, a2, a3⟩) ((mem_shared h hp hq).2 ⟨b1, b2, b3⟩) (fun e' => by subst e'; omega)
theorem edges_sum {V : List V3} {F : List Pl} (nd : F.Nodup) {g : Pl → Pl → Nat} (hs : ∀ p q, g p q = g q p) (h0 : ∀ p, g p p = 0) (h1 : ∀ p ∈ F, ∀ q ∈ F, p ≠ q → g p q = if edgeB V p q = true then 1 else 0) :
    ∀ k, k ≤ F.length → sm (fun p => sm (g p) (F.take k)) (F.take k) = 2 * edgesTo V F k
  | 0, _ => rfl
  | k + 1, hk => by
    have ih := edges_sum nd hs h0 h1 k (by omega)
    have e : F.take (k + 1) = F.take k ++ [F[k]'(by omega)] := List.take_succ_eq_append_getElem (by omega)
    have eg : F.getD k ⟨⟨0, 0, 0⟩, 0⟩ = F[k]'(by omega) := by rw [List.getD_eq_getElem?_getD, List.getElem?_eq_getElem (by omega)]; rfl
    rw [e, sm_sym hs h0, ih]
    show _ = 2 * (edgesTo V F k + ((F.take k).filter (edgeB V (F.getD k ⟨⟨0, 0, 0⟩, 0⟩))).length)
    rw [eg, Nat.mul_add]
    congr 2
    have cnt : ∀ l : List Pl, (∀ q ∈ l, q ∈ F ∧ q ≠ F[k]'(by omega)) → sm (g (F[k]'(by omega))) l = (l.filter (edgeB V (F[k]'(by omega)))).length := by
      intro l
      induction l with
      | nil => intro _; rfl
      | cons a m ih =>
        intro hl
        have ha := hl a (.head _)
        show g _ a + sm _ m = _
        rw [ih fun q hq => hl q (.tail _ hq), h1 _ (List.getElem_mem _) a ha.1 (Ne.symm ha.2), List.filter_cons]
        split
        · rw [List.length_cons]; omega
        · omega
    refine cnt _ fun q hq => ⟨List.mem_of_mem_take hq, fun e2 => ?_⟩
    subst e2
    have nd' : (F.take (k + 1)).Nodup := nd.sublist (List.take_sublist _ _)
    rw [e, List.nodup_append] at nd'
    exact nd'.2.2 _ hq _ (.head _) rfl
theorem min_hgt : ∀ {l : List V3}, l ≠ [] → ∃ v ∈ l, ∀ w ∈ l, hgt v ≤ hgt w
  | [], h => absurd rfl h
  | [a], _ => ⟨a, .head _, fun w hw => by rw [List.mem_singleton] at hw; rw [hw]; exact Int.le_refl _⟩
  | a :: b :: l, _ => by
    obtain ⟨v, hv, hm⟩ := min_hgt (l := b :: l) (by simp)
    rcases Int.le_total (hgt a) (hgt v) with k | k
    · refine ⟨a, .head _, fun w hw => ?_⟩
      cases hw with
      | head => exact Int.le_refl _
      | tail _ hw => exact Int.le_trans k (hm w hw)
    · refine ⟨v, .tail _ hv, fun w hw => ?_⟩
      cases hw with
      | head => exact k
      | tail _ hw => exact hm w hw
theorem lowest_on {L : List V3} (h : hCheck L = 0) {p : Pl} (hp : p ∈ facets L) : ∃ v, IsV L v ∧ Low L v p := by
  obtain ⟨a, _, _, ⟨ha, ca, ta⟩, _⟩ := corners3 h hp
  have hm : ∀ x, x ∈ shared (hExtreme L) p p ↔ IsV L x ∧ dt p.n x = p.b := fun x => by rw [mem_shared h hp hp]; exact ⟨fun ⟨a, b, _⟩ => ⟨a, b⟩, fun ⟨a, b⟩ => ⟨a, b, b⟩⟩
  obtain ⟨v, hv, hl⟩ := min_hgt (l := shared (hExtreme L) p p) (fun e => by have := (hm a).2 ⟨⟨ha, ca⟩, ta⟩; rw [e] at this; cases this)
  obtain ⟨v1, v2⟩ := (hm v).1 hv
  exact ⟨v, v1, v2, fun w hw tw => hl w ((hm w).2 ⟨hw, tw⟩)⟩
theorem euler {L : List V3} (h : hCheck L = 0) : (hExtreme L).length + (facets L).length = edgesTo (hExtreme L) (facets L) (facets L).length + 2 := by
  have ndF : (facets L).Nodup := (sorted_facets L).imp fun {a b} hab e => by subst e; rw [pLt_strict.irr] at hab; cases hab
  have ndV := nodup_ext h
  have mV : ∀ v, v ∈ hExtreme L ↔ IsV L v := fun v => isV_iff h
  obtain ⟨up, hup⟩ := charf (fun x : V3 × Pl × Pl => Up L x.1 x.2.1 x.2.2)
  obtain ⟨lw, hlw⟩ := charf (fun x : V3 × Pl => Low L x.1 x.2)
  obtain ⟨mx, hmx⟩ := charf (fun x : V3 × Pl => Mixed L x.1 x.2)
  -- edges by their lower ends
  have upS : ∀ v p q, up (v, p, q) = up (v, q, p) := fun v p q => by
    have e : Up L v p q ↔ Up L v q p := ⟨fun ⟨a, b, c, w, d, e, f, g⟩ => ⟨Ne.symm a, c, b, w, d, f, e, g⟩, fun ⟨a, b, c, w, d, e, f, g⟩ => ⟨Ne.symm a, c, b, w, d, f, e, g⟩⟩
    by_cases k : Up L v p q
    · rw [(hup (v, p, q)).1 k, (hup (v, q, p)).1 (e.1 k)]
    · rw [(hup (v, p, q)).2 k, (hup (v, q, p)).2 (fun k' => k (e.2 k'))]
  have up0 : ∀ v p, up (v, p, p) = 0 := fun v p => (hup (v, p, p)).2 fun k => k.1 rfl
  have hg : ∀ p ∈ facets L, ∀ q ∈ facets L, p ≠ q → sm (fun v => up (v, p, q)) (hExtreme L) = if edgeB (hExtreme L) p q = true then 1 else 0 := fun p hp q hq hpq => by
    by_cases k : edgeB (hExtreme L) p q = true
    · rw [if_pos k]
      obtain ⟨a, b, va, vb, hl, pa, qa, pb, qb⟩ := (edge_iff h hp hq).1 k
      have ua : Up L a p q := ⟨hpq, pa, qa, b, vb, pb, qb, hl⟩
      rw [sm_one ndV ((mV a).2 va) (fun v hv hne => (hup (v, p, q)).2 fun ⟨_, pv, qv, w, vw, pw, qw, hvw⟩ => ?_)]
      · exact (hup (a, p, q)).1 ua
      · replace hvw : hgt v < hgt w := hvw
        have hvV := (mV v).1 hv
        have hab : a ≠ b := fun e => by subst e; omega
        have hvw' : v ≠ w := fun e => by subst e; omega
        by_cases e : v = b
        · subst e
          by_cases e2 : w = a
          · subst e2; omega
          · exact no_three h hp hq hpq va hvV vw pa pv pw qa qv qw hab (Ne.symm e2) hvw'
        · exact no_three h hp hq hpq va vb hvV pa pb pv qa qb qv hab (Ne.symm hne) (Ne.symm e)
    · rw [if_neg k]
      refine sm_zero fun v hv => (hup (v, p, q)).2 fun ⟨_, pv, qv, w, vw, pw, qw, hvw⟩ => k ?_
      exact (edge_iff h hp hq).2 ⟨v, w, (mV v).1 hv, vw, hvw, pv, qv, pw, qw⟩
  have E := edges_sum (V := hExtreme L) ndF (g := fun p q => sm (fun v => up (v, p, q)) (hExtreme L)) (fun p q => sm_congr fun v _ => upS v p q) (fun p => sm_zero fun v _ => up0 v p) hg (facets L).length (Nat.le_refl _)
  rw [List.take_length] at E
  -- the same sum by vertices
  have E2 : sm (fun p => sm (fun q => sm (fun v => up (v, p, q)) (hExtreme L)) (facets L)) (facets L) = sm (fun v => sm (fun p => sm (fun q => up (v, p, q)) (facets L)) (facets L)) (hExtreme L) := by
    rw [sm_congr (g := fun p => sm (fun v => sm (fun q => up (v, p, q)) (facets L)) (hExtreme L)) (fun p _ => sm_comm (fun q v => up (v, p, q)) (hExtreme L) (facets L)), sm_comm]
  have cnt : ∀ v ∈ hExtreme L, ∀ p ∈ facets L, sm (fun q => up (v, p, q)) (facets L) = 2 * lw (v, p) + mx (v, p) := fun v hv p hp => by
    have hvV := (mV v).1 hv
    by_cases tv : dt p.n v = p.b
    · obtain ⟨q1, q2, m1, m2, hne, b1, b2, hU, hL, hM⟩ := up_count h hp hvV tv
      obtain ⟨f1, hf1⟩ := charf (fun q : Pl => q = q1 ∧ b1)
      obtain ⟨f2, hf2⟩ := charf (fun q : Pl => q = q2 ∧ b2)
      have e : sm (fun q => up (v, p, q)) (facets L) = f1 q1 + f2 q2 := by
        rw [← sm_one ndF m1 (f := f1) fun q _ hq => (hf1 q).2 fun k => hq k.1, ← sm_one ndF m2 (f := f2) fun q _ hq => (hf2 q).2 fun k => hq k.1, ← sm_add]
        refine sm_congr fun q hq => ?_
        by_cases k1 : q = q1 ∧ b1
        · have k2 : ¬(q = q2 ∧ b2) := fun k2 => hne (k1.1.symm.trans k2.1)
          rw [(hf1 q).1 k1, (hf2 q).2 k2, (hup (v, p, q)).1 ((hU q hq).2 (.inl k1))]
        · by_cases k2 : q = q2 ∧ b2
          · rw [(hf1 q).2 k1, (hf2 q).1 k2, (hup (v, p, q)).1 ((hU q hq).2 (.inr k2))]
          · rw [(hf1 q).2 k1, (hf2 q).2 k2, (hup (v, p, q)).2 fun k => ((hU q hq).1 k).elim k1 k2]
      rw [e]
      by_cases k1 : b1 <;> by_cases k2 : b2
      · rw [(hf1 q1).1 ⟨rfl, k1⟩, (hf2 q2).1 ⟨rfl, k2⟩, (hlw (v, p)).1 (hL.2 ⟨k1, k2⟩), (hmx (v, p)).2 fun k => by rcases hM.1 k with ⟨_, k⟩ | ⟨k, _⟩ <;> contradiction]
      · rw [(hf1 q1).1 ⟨rfl, k1⟩, (hf2 q2).2 fun k => k2 k.2, (hlw (v, p)).2 fun k => k2 (hL.1 k).2, (hmx (v, p)).1 (hM.2 (.inl ⟨k1, k2⟩))]
      · rw [(hf1 q1).2 fun k => k1 k.2, (hf2 q2).1 ⟨rfl, k2⟩, (hlw (v, p)).2 fun k => k1 (hL.1 k).1, (hmx (v, p)).1 (hM.2 (.inr ⟨k1, k2⟩))]
      · rw [(hf1 q1).2 fun k => k1 k.2, (hf2 q2).2 fun k => k2 k.2, (hlw (v, p)).2 fun k => k1 (hL.1 k).1, (hmx (v, p)).2 fun k => by rcases hM.1 k with ⟨k, _⟩ | ⟨_, k⟩ <;> contradiction]
    · rw [(hlw (v, p)).2 fun k => tv k.1, (hmx (v, p)).2 fun k => tv k.1]
      exact sm_zero fun q _ => (hup (v, p, q)).2 fun k => tv k.2.1
  have perV : ∀ v ∈ hExtreme L, sm (fun p => sm (fun q => up (v, p, q)) (facets L)) (facets L) = 2 * sm (fun p => lw (v, p)) (facets L) + sm (fun p => mx (v, p)) (facets L) := fun v hv => by
    rw [← sm_mul, ← sm_add]
    exact sm_congr fun p hp => cnt v hv p hp
  -- each facet has one lowest vertex
  have lows : sm (fun v => sm (fun p => lw (v, p)) (facets L)) (hExtreme L) = (facets L).length := by
    rw [sm_comm, sm_congr (g := fun _ => 1), sm_const, Nat.one_mul]
    intro p hp
    obtain ⟨v, hv, hl⟩ := lowest_on h hp
    rw [sm_one ndV ((mV v).2 hv) fun w hw hne => (hlw (w, p)).2 fun k => hne ?_]
    · exact (hlw (v, p)).1 hl
    · have a1 := k.2 v hv hl.1
      have a2 := hl.2 w ((mV w).1 hw) k.1
      exact hgt_inj h ((mV w).1 hw).mem hv.mem (Int.le_antisymm a1 a2)
  -- the lowest and the highest vertex
  obtain ⟨lo, hlo, clo, mlo⟩ := maxcorner h ⟨-10000, -100, -1⟩
  obtain ⟨hi, hhi, chi, mhi⟩ := maxcorner h ⟨10000, 100, 1⟩
  have mlo' : ∀ u ∈ L, hgt lo ≤ hgt u := fun u hu => by
    have q := mlo u hu
    have e1 := dt_negv ⟨10000, 100, 1⟩ u
    have e2 := dt_negv ⟨10000, 100, 1⟩ lo
    simp only [] at e1 e2
    rw [e1, e2] at q
    unfold hgt
    omega
  have mhi' : ∀ u ∈ L, hgt u ≤ hgt hi := mhi
  have hne : lo ≠ hi := fun e => by
    obtain ⟨u, hu, k⟩ := not_flat h ⟨10000, 100, 1⟩ (hgt hi) (fun e => by have := congrArg V3.x e; simp at this)
    have a1 := mlo' u hu
    have a2 := mhi' u hu
    rw [e] at a1
    exact k (Int.le_antisymm a2 a1)
  have mixS : ∀ v ∈ hExtreme L, sm (fun p => mx (v, p)) (facets L) + ((if v = lo then 2 else 0) + (if v = hi then 2 else 0)) = 2 := fun v hv => by
    have hvV := (mV v).1 hv
    by_cases e1 : v = lo
    · subst e1
      rw [if_pos rfl, if_neg hne, sm_zero fun p _ => (hmx (v, p)).2 fun k => ?_]
      obtain ⟨_, _, x, hx, _, gx⟩ := k
      replace gx : hgt x < hgt v := gx
      have := mlo' x hx
      omega
    · by_cases e2 : v = hi
      · subst e2
        rw [if_neg e1, if_pos rfl, sm_zero fun p _ => (hmx (v, p)).2 fun k => ?_]
        obtain ⟨_, ⟨x, hx, _, gx⟩, _⟩ := k
        replace gx : hgt v < hgt x := gx
        have := mhi' x hx
        omega
      · rw [if_neg e1, if_neg e2]
        obtain ⟨k, hk⟩ := sm_even (f := fun p q => up (v, p, q)) (upS v) (up0 v) (facets L)
        rw [perV v hv] at hk
        have le2 : sm (fun p => mx (v, p)) (facets L) ≤ 2 := sm_two (fun p => by
            by_cases q : Mixed L v p
            · rw [(hmx (v, p)).1 q]; omega
            · rw [(hmx (v, p)).2 q]; omega) ndF fun a b c ha hb hc n1 n2 n3 f1 f2 f3 => by
          have t : ∀ p, mx (v, p) = 1 → Mixed L v p := fun p e => Classical.byContradiction fun q => by rw [(hmx (v, p)).2 q] at e; omega
          exact mixed_two h hvV ha hb hc (t a f1) (t b f2) (t c f3) n1 n2 n3
        have a1 := mlo' v hvV.mem
        have a2 := mhi' v hvV.mem
        have a3 : hgt v ≠ hgt lo := fun e => e1 (hgt_inj h hvV.mem hlo e)
        have a4 : hgt v ≠ hgt hi := fun e => e2 (hgt_inj h hvV.mem hhi e)
        obtain ⟨p, hp, hm⟩ := mixed_ex h hvV ⟨hi, hhi, by omega⟩ ⟨lo, hlo, by omega⟩
        have ge1 := sm_pos (f := fun p => mx (v, p)) hp
        rw [(hmx (v, p)).1 hm] at ge1
        omega
  have mixes : sm (fun v => sm (fun p => mx (v, p)) (facets L)) (hExtreme L) + (2 + 2) = 2 * (hExtreme L).length := by
    rw [← sm_const, ← sm_congr mixS, sm_add, sm_add]
    have s1 : sm (fun v => if v = lo then 2 else 0) (hExtreme L) = 2 := by
      rw [sm_one ndV ((mV lo).2 ⟨hlo, clo⟩) fun w _ hw => if_neg hw, if_pos rfl]
    have s2 : sm (fun v => if v = hi then 2 else 0) (hExtreme L) = 2 := by
      rw [sm_one ndV ((mV hi).2 ⟨hhi, chi⟩) fun w _ hw => if_neg hw, if_pos rfl]
    rw [s1, s2]
  have tot : 2 * edgesTo (hExtreme L) (facets L) (facets L).length = 2 * (facets L).length + sm (fun v => sm (fun p => mx (v, p)) (facets L)) (hExtreme L) := by
    rw [← E, E2, sm_congr perV, sm_add, sm_mul, lows]
  omega
end Go.Proofs.Ytccnlnkgoaelpaa
namespace Go.Proofs.Ytccnlnkgoaelpaa
open Go.RowKit

theorem check_moved {P M : List V3} {s : V3} (h : hCheck P = 0) (h8 : M.length ≤ 48) (hinM : M.all vIn = true) (hM : ∀ v, v ∈ M ↔ ∃ u ∈ P, v = addV u s) : hCheck M = 0 := by
  obtain ⟨h48, hin, hpos⟩ := check_ok h
  have hflat : flatB M = false := by
    obtain ⟨p, hp, _⟩ := facet_looks h (d := ⟨1, 0, 0⟩) (by simp)
    obtain ⟨bn, hn0, A, B, C, hA, hB, hC, hX, eB, eC, hb, hs⟩ := facet_side h hp
    have mA := (hM (addV A s)).2 ⟨A, hA, rfl⟩
    have mB := (hM (addV B s)).2 ⟨B, hB, rfl⟩
    have mC := (hM (addV C s)).2 ⟨C, hC, rfl⟩
    have ho := ok_of_crs (vIn_all hinM mA) (vIn_all hinM mB) (vIn_all hinM mC) (by rw [sb_addV, sb_addV]; exact hX)
    have hthr : IsThr M (pThrough (addV A s) (addV B s) (addV C s)) := ⟨_, _, _, mA, mB, mC, by unfold both; rw [if_pos ho]; exact .head _⟩
    obtain ⟨i, j, k, hi, hj, hk, hbth⟩ := (thr_iff hinM _).2 hthr
    have bi := vIn_all hinM (vAt_mem hi)
    have bj := vIn_all hinM (vAt_mem (L := M) (i := j) (by omega))
    have bk := vIn_all hinM (vAt_mem (L := M) (i := k) (by omega))
    obtain ⟨ho2, _⟩ := both_ok ((both_rev bk bj bi).1 hbth)
    obtain ⟨N, m, t⟩ := thrP bi bj bk ho2
    obtain ⟨u, hu, hne⟩ := not_flat h N (dt N (vAt M i) - dt N s) (fun e => t.ne (by rw [e]; simp))
    have mu := (hM (addV u s)).2 ⟨u, hu, rfl⟩
    obtain ⟨mm, hmm, ew⟩ := mem_vAt mu
    refine flat_no hinM hi hj hk hmm ho2 (fun e => hne ?_)
    rw [ew, t.th, t.sd _ (vIn_all hinM mu)] at e
    have := ordI_zero'.1 e
    rw [dt_addV] at this
    omega
  unfold hCheck
  rw [if_neg (by omega), if_pos hinM, hflat]
  rfl
def rotM (P : List V3) (s : V3) (t k : Nat) : List V3 := (List.range k).map fun i => addV (vAt P ((i + t) % P.length)) s
theorem rotM_len (P : List V3) (s : V3) (t k : Nat) : (rotM P s t k).length = k := by unfold rotM; rw [List.length_map, List.length_range]
theorem rotM_succ (P : List V3) (s : V3) (t k : Nat) : rotM P s t (k + 1) = rotM P s t k ++ [addV (vAt P ((k + t) % P.length)) s] := by
  unfold rotM; rw [List.range_succ, List.map_append]; rfl
theorem mem_rotM {P : List V3} {s : V3} {t : Nat} (h0 : 0 < P.length) (v : V3) : v ∈ rotM P s t P.length ↔ ∃ u ∈ P, v = addV u s := by
  unfold rotM
  rw [List.mem_map]
  constructor
  · rintro ⟨i, hi, rfl⟩
    exact ⟨_, vAt_mem (Nat.mod_lt _ h0), rfl⟩
  · rintro ⟨u, hu, rfl⟩
    obtain ⟨i, hi, rfl⟩ := mem_vAt hu
    refine ⟨(i + (P.length - t % P.length)) % P.length, List.mem_range.2 (Nat.mod_lt _ h0), ?_⟩
    congr 2
    have hr := Nat.mod_lt t h0
    have ht := Nat.div_add_mod t P.length
    rw [Nat.mod_add_mod]
    have e : i + (P.length - t % P.length) + t = i + P.length * (t / P.length + 1) := by rw [Nat.mul_add]; omega
    rw [e, Nat.add_mul_mod_self_left, Nat.mod_eq_of_lt hi]
theorem edge_step {V : List V3} {F : List Pl} (p : Pl) {j : Nat} (hj : j < F.length) : ((F.take (j + 1)).filter (edgeB V p)).length = ((F.take j).filter (edgeB V p)).length + if edgeB V p (pAt F j) = true then 1 else 0 := by
  have e : pAt F j = F[j] := by unfold pAt; simp [List.getD_eq_getElem?_getD, hj]
  rw [List.take_succ_eq_append_getElem hj, List.filter_append, List.length_append, e]
  congr 1
  rw [List.filter_cons]
  split <;> rfl
theorem shared_step {V : List V3} (p q : Pl) {k : Nat} (hk : k < V.length) : (shared (V.take (k + 1)) p q).length = (shared (V.take k) p q).length + if pSide p (vAt V k) = 0 ∧ pSide q (vAt V k) = 0 then 1 else 0 := by
  have e : vAt V k = V[k] := by unfold vAt; simp [List.getD_eq_getElem?_getD, hk]
  unfold shared
  rw [List.take_succ_eq_append_getElem hk, List.filter_append, List.length_append, e]
  congr 1
  rw [List.filter_cons]
  by_cases h1 : pSide p V[k] = 0 <;> by_cases h2 : pSide q V[k] = 0 <;> simp [h1, h2]
theorem edges_mono {V : List V3} {F : List Pl} {i : Nat} : ∀ {k : Nat}, i ≤ k → edgesTo V F i ≤ edgesTo V F k
  | 0, h => by obtain rfl : i = 0 := by omega
               exact Nat.le_refl _
  | k + 1, h => by
    rcases Nat.lt_or_ge k i with h1 | h1
    · obtain rfl : i = k + 1 := by omega
      exact Nat.le_refl _
    · exact Nat.le_trans (edges_mono h1) (Nat.le_add_right _ _)
theorem edges_part {V : List V3} {F : List Pl} {i j : Nat} (hi : i < F.length) (hj : j ≤ i) : edgesTo V F i + ((F.take j).filter (edgeB V (pAt F i))).length ≤ edgesTo V F F.length := by
  refine Nat.le_trans (Nat.add_le_add_left ?_ _) (edges_mono (i := i + 1) hi)
  refine (List.Sublist.filter _ ?_).length_le
  rw [show F.take j = (F.take i).take j by rw [List.take_take, Nat.min_eq_left hj]]
  exact List.take_sublist _ _
/-- All that the law asks of the plain lists. -/
theorem euler_law {P : List V3} {s : V3} {t : Nat} (h : hCheck P = 0) (h8 : P.length ≤ 8) (h11 : ∀ v ∈ P, In11 v) (hs : (-4 ≤ s.x ∧ s.x ≤ 4) ∧ (-4 ≤ s.y ∧ s.y ≤ 4) ∧ (-4 ≤ s.z ∧ s.z ≤ 4)) :
    hCheck (rotM P s t P.length) = 0 ∧ facets (rotM P s t P.length) = (facets P).map (mvP s) ∧ hExtreme (rotM P s t P.length) = (hExtreme P).map (fun u => addV u s) := by
  obtain ⟨h48, hin, hpos⟩ := check_ok h
  have hM := mem_rotM (P := P) (s := s) (t := t) hpos
  have hc : hCheck (rotM P s t P.length) = 0 := by
    refine check_moved h (by rw [rotM_len]; omega) (List.all_eq_true.2 fun v hv => ?_) hM
    obtain ⟨u, hu, rfl⟩ := (hM v).1 hv
    have b := h11 u hu
    unfold In11 at b
    unfold vIn inB addV
    simp only [Bool.and_eq_true, decide_eq_true_eq]
    omega
  exact ⟨hc, facets_moved h hc hM, verts_moved h hc hM⟩
theorem vAdd_in {u s : V3} (h11 : In11 u) (hs : (-4 ≤ s.x ∧ s.x ≤ 4) ∧ (-4 ≤ s.y ∧ s.y ≤ 4) ∧ (-4 ≤ s.z ∧ s.z ≤ 4)) : vAdd u s = addV u s := by
  unfold In11 at h11
  unfold vAdd addV
  rw [wr_id ⟨by omega, by omega⟩, wr_id ⟨by omega, by omega⟩, wr_id ⟨by omega, by omega⟩]
theorem moved_b {P : List V3} {s : V3} (h : hCheck P = 0) (hs : (-4 ≤ s.x ∧ s.x ≤ 4) ∧ (-4 ≤ s.y ∧ s.y ≤ 4) ∧ (-4 ≤ s.z ∧ s.z ≤ 4)) {p : Pl} (hp : p ∈ facets P) :
    vDot p.n s = dt p.n s ∧ (-400000 ≤ p.b ∧ p.b ≤ 400000) ∧ (-60000 ≤ dt p.n s ∧ dt p.n s ≤ 60000) := by
  obtain ⟨h48, hin, hpos⟩ := check_ok h
  obtain ⟨bn, hn0, A, B, C, hA, hB, hC, hX, eB, eC, hb, _⟩ := facet_side h hp
  have bA := vIn_all hin hA
  have pr : ∀ a b K : Int, -4608 ≤ a → a ≤ 4608 → -K ≤ b → b ≤ K → 0 ≤ K → -(4608 * K) ≤ a * b ∧ a * b ≤ 4608 * K := fun a b K h1 h2 h3 h4 h5 => by
    have m1 := Int.mul_nonneg (show 0 ≤ 4608 - a by omega) (show 0 ≤ K - b by omega)
    have m2 := Int.mul_nonneg (show 0 ≤ 4608 + a by omega) (show 0 ≤ K + b by omega)
    have m3 := Int.mul_nonneg (show 0 ≤ 4608 - a by omega) (show 0 ≤ K + b by omega)
    have m4 := Int.mul_nonneg (show 0 ≤ 4608 + a by omega) (show 0 ≤ K - b by omega)
    grind
  obtain ⟨n1, n2, n3, n4, n5, n6⟩ := bn
  obtain ⟨a1, a2, a3, a4, a5, a6⟩ := bA
  have q1 := pr p.n.x s.x 4 n1 n2 (by omega) (by omega) (by omega)
  have q2 := pr p.n.y s.y 4 n3 n4 (by omega) (by omega) (by omega)
  have q3 := pr p.n.z s.z 4 n5 n6 (by omega) (by omega) (by omega)
  have r1 := pr p.n.x A.x 24 n1 n2 (by omega) (by omega) (by omega)
  have r2 := pr p.n.y A.y 24 n3 n4 (by omega) (by omega) (by omega)
  have r3 := pr p.n.z A.z 24 n5 n6 (by omega) (by omega) (by omega)
  refine ⟨?_, ?_, ?_⟩
  · unfold vDot dt
    rw [wr_id (n := p.n.x * s.x) ⟨by omega, by omega⟩, wr_id (n := p.n.y * s.y) ⟨by omega, by omega⟩, wr_id (n := p.n.z * s.z) ⟨by omega, by omega⟩, wr_id (n := p.n.x * s.x + p.n.y * s.y) ⟨by omega, by omega⟩, wr_id ⟨by omega, by omega⟩]
  · rw [hb]; unfold dt; omega
  · unfold dt; omega
theorem pAt_map {F : List Pl} (f : Pl → Pl) {k : Nat} (hk : k < F.length) : pAt (F.map f) k = f (pAt F k) := by
  unfold pAt; simp [List.getD_eq_getElem?_getD, hk]
theorem vAt_map {V : List V3} (f : V3 → V3) {k : Nat} (hk : k < V.length) : vAt (V.map f) k = f (vAt V k) := by
  unfold vAt; simp [List.getD_eq_getElem?_getD, hk]
end Go.Proofs.Ytccnlnkgoaelpaa
