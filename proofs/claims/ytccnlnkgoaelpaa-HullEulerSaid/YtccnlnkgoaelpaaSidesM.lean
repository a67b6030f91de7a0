/- The plain law of PlaneSides: what Through, Flip, Side and Valid say of three points of the workspace in each order. -/
import Derived.Test.YtccnlnkgoaelpaaPrimsM
namespace Go.Proofs.Ytccnlnkgoaelpaa
open Go.RowKit

/-- All components are from -n to n. -/
structure Bd (n : Int) (v : V3) : Prop where
  x1 : -n ≤ v.x
  x2 : v.x ≤ n
  y1 : -n ≤ v.y
  y2 : v.y ≤ n
  z1 : -n ≤ v.z
  z2 : v.z ≤ n
theorem Bd.vIn {v : V3} (h : Bd 24 v) : vIn v = true := by
  obtain ⟨h1, h2, h3, h4, h5, h6⟩ := h
  unfold Go.Proofs.Ytccnlnkgoaelpaa.vIn inB; simp; omega
theorem Bd.of_vIn {v : V3} (h : Go.Proofs.Ytccnlnkgoaelpaa.vIn v = true) : Bd 24 v := by
  unfold Go.Proofs.Ytccnlnkgoaelpaa.vIn inB at h; simp at h
  exact ⟨by omega, by omega, by omega, by omega, by omega, by omega⟩

theorem cross_cyc (a b c : V3) : vCross (vSub c b) (vSub a b) = vCross (vSub b a) (vSub c a) := by
  simp only [vSub, vCross, wr_subl, wr_subr, wr_mull, wr_mulr]
  congr 1 <;> congr 1 <;> grind
theorem cross_swap (a b c : V3) : vCross (vSub c a) (vSub b a) = vSub ⟨0, 0, 0⟩ (vCross (vSub b a) (vSub c a)) := by
  simp only [vSub, vCross, wr_subl, wr_subr, wr_mull, wr_mulr]
  congr 1 <;> congr 1 <;> grind
theorem cross_move (a b c s : V3) : vCross (vSub (vAdd b s) (vAdd a s)) (vSub (vAdd c s) (vAdd a s)) = vCross (vSub b a) (vSub c a) := by
  simp only [vAdd, vSub, vCross, wr_subl, wr_subr, wr_mull, wr_mulr]
  congr 1 <;> congr 1 <;> grind

/-- Products of small numbers. -/
theorem prodBd {a b m n : Int} (h1 : -m ≤ a) (h2 : a ≤ m) (h3 : -n ≤ b) (h4 : b ≤ n) : -(m * n) ≤ a * b ∧ a * b ≤ m * n := by
  have hm : 0 ≤ m := by omega
  have hn : 0 ≤ n := by omega
  have p1 := Int.mul_nonneg (show 0 ≤ m - a by omega) (show 0 ≤ n + b by omega)
  have p2 := Int.mul_nonneg (show 0 ≤ m + a by omega) (show 0 ≤ n - b by omega)
  have p3 := Int.mul_nonneg (show 0 ≤ m - a by omega) (show 0 ≤ n - b by omega)
  have p4 := Int.mul_nonneg (show 0 ≤ m + a by omega) (show 0 ≤ n + b by omega)
  rw [Int.sub_mul, Int.mul_add, Int.mul_add] at p1
  rw [Int.add_mul, Int.mul_sub, Int.mul_sub] at p2
  rw [Int.sub_mul, Int.mul_sub, Int.mul_sub] at p3
  rw [Int.add_mul, Int.mul_add, Int.mul_add] at p4
  omega

theorem sub_plain {a b : V3} (ha : Bd 24 a) (hb : Bd 24 b) : vSub b a = ⟨b.x - a.x, b.y - a.y, b.z - a.z⟩ ∧ Bd 48 (vSub b a) := by
  obtain ⟨a1, a2, a3, a4, a5, a6⟩ := ha
  obtain ⟨b1, b2, b3, b4, b5, b6⟩ := hb
  have e : vSub b a = ⟨b.x - a.x, b.y - a.y, b.z - a.z⟩ := by
    unfold vSub
    rw [wr_id (n := b.x - a.x) ⟨by omega, by omega⟩, wr_id (n := b.y - a.y) ⟨by omega, by omega⟩, wr_id (n := b.z - a.z) ⟨by omega, by omega⟩]
  refine ⟨e, ?_⟩
  rw [e]
  exact ⟨by simp only []; omega, by simp only []; omega, by simp only []; omega, by simp only []; omega, by simp only []; omega, by simp only []; omega⟩

theorem cross_plain {a b : V3} (ha : Bd 48 a) (hb : Bd 48 b) :
    vCross a b = ⟨a.y * b.z - a.z * b.y, a.z * b.x - a.x * b.z, a.x * b.y - a.y * b.x⟩ ∧ Bd 4608 (vCross a b) := by
  obtain ⟨a1, a2, a3, a4, a5, a6⟩ := ha
  obtain ⟨b1, b2, b3, b4, b5, b6⟩ := hb
  have p1 := prodBd a3 a4 b5 b6
  have p2 := prodBd a5 a6 b3 b4
  have p3 := prodBd a5 a6 b1 b2
  have p4 := prodBd a1 a2 b5 b6
  have p5 := prodBd a1 a2 b3 b4
  have p6 := prodBd a3 a4 b1 b2
  have e : vCross a b = ⟨a.y * b.z - a.z * b.y, a.z * b.x - a.x * b.z, a.x * b.y - a.y * b.x⟩ := by
    simp only [vCross, wr_subl, wr_subr]
    rw [wr_id (n := a.y * b.z - a.z * b.y) ⟨by omega, by omega⟩, wr_id (n := a.z * b.x - a.x * b.z) ⟨by omega, by omega⟩, wr_id (n := a.x * b.y - a.y * b.x) ⟨by omega, by omega⟩]
  refine ⟨e, ?_⟩
  rw [e]
  exact ⟨by simp only []; omega, by simp only []; omega, by simp only []; omega, by simp only []; omega, by simp only []; omega, by simp only []; omega⟩

theorem dot_plain {n v : V3} (hn : Bd 4608 n) (hv : Bd 48 v) : vDot n v = n.x * v.x + n.y * v.y + n.z * v.z ∧ -663552 ≤ vDot n v ∧ vDot n v ≤ 663552 := by
  have p1 := prodBd hn.x1 hn.x2 hv.x1 hv.x2
  have p2 := prodBd hn.y1 hn.y2 hv.y1 hv.y2
  have p3 := prodBd hn.z1 hn.z2 hv.z1 hv.z2
  have e : vDot n v = n.x * v.x + n.y * v.y + n.z * v.z := by
    simp only [vDot, wr_addl, wr_addr]
    exact wr_id ⟨by omega, by omega⟩
  rw [e]; exact ⟨rfl, by omega, by omega⟩
theorem Bd.mono {m n : Int} {v : V3} (h : Bd m v) (hmn : m ≤ n) : Bd n v := by
  obtain ⟨a1, a2, a3, a4, a5, a6⟩ := h
  exact ⟨by omega, by omega, by omega, by omega, by omega, by omega⟩

theorem V3.ext {a b : V3} (h1 : a.x = b.x) (h2 : a.y = b.y) (h3 : a.z = b.z) : a = b := by cases a; cases b; simp_all
theorem gcd_zero : vGcd ⟨0, 0, 0⟩ = 0 := by decide

/-- A small vector that is not 0: its Prim N, by a factor. -/
structure Nrm (X N : V3) (m : Nat) : Prop where
  m1 : 1 ≤ m
  ex : X.x = N.x * m
  ey : X.y = N.y * m
  ez : X.z = N.z * m
  g : vGcd X = m
  p : vPrim X = N
  gn : vGcd (vSub ⟨0, 0, 0⟩ X) = m
  pn : vPrim (vSub ⟨0, 0, 0⟩ X) = vSub ⟨0, 0, 0⟩ N
  b : Bd 4608 N
  u : vGcd N = 1
  un : vGcd (vSub ⟨0, 0, 0⟩ N) = 1

theorem bd_div {a' : Int} {m : Nat} {n : Int} (hm : 1 ≤ m) (h1 : -n ≤ a' * m) (h2 : a' * m ≤ n) : -n ≤ a' ∧ a' ≤ n := by
  obtain ⟨k, rfl⟩ : ∃ k : Nat, m = k + 1 := ⟨m - 1, by omega⟩
  rw [Int.natCast_add, Int.mul_add] at h1 h2
  rcases Int.le_total 0 a' with h0 | h0
  · have := Int.mul_nonneg h0 (Int.natCast_nonneg k); omega
  · have := Int.mul_nonneg (show (0 : Int) ≤ -a' by omega) (Int.natCast_nonneg k)
    rw [Int.neg_mul] at this; omega
theorem g3_neg (a b c : Int) : g3 (-a) (-b) (-c) = g3 a b c := by simp [g3]
theorem vneg_plain {X : V3} (h : Bd 4608 X) : vSub ⟨0, 0, 0⟩ X = ⟨-X.x, -X.y, -X.z⟩ := by
  obtain ⟨a1, a2, a3, a4, a5, a6⟩ := h
  unfold vSub
  rw [wr_id (n := 0 - X.x) ⟨by omega, by omega⟩, wr_id (n := 0 - X.y) ⟨by omega, by omega⟩, wr_id (n := 0 - X.z) ⟨by omega, by omega⟩]
  simp
theorem nrm {X : V3} (h : Bd 4608 X) (hne : ¬ (X.x = 0 ∧ X.y = 0 ∧ X.z = 0)) : ∃ N m, Nrm X N m := by
  obtain ⟨x, y, z⟩ := X
  have hn := vneg_plain h
  obtain ⟨a1, a2, a3, a4, a5, a6⟩ := h
  simp only [] at a1 a2 a3 a4 a5 a6 hn hne
  obtain ⟨a', b', c', m, s⟩ := split (a := x) (b := y) (c := z) ⟨by omega, by omega⟩ ⟨by omega, by omega⟩ ⟨by omega, by omega⟩ hne
  have ex := s.ea
  have ey := s.eb
  have ez := s.ec
  have nx : -x = -a' * m := by rw [Int.neg_mul]; omega
  have ny : -y = -b' * m := by rw [Int.neg_mul]; omega
  have nz : -z = -c' * m := by rw [Int.neg_mul]; omega
  have bx := bd_div s.m1 (ex ▸ a1) (ex ▸ a2)
  have by_ := bd_div s.m1 (ey ▸ a3) (ey ▸ a4)
  have bz := bd_div s.m1 (ez ▸ a5) (ez ▸ a6)
  have hN : Bd 4608 ⟨a', b', c'⟩ := ⟨bx.1, bx.2, by_.1, by_.2, bz.1, bz.2⟩
  have q1 := prim_mul (a := a') (b := b') (c := c') m s.m1 s.g (by omega) (by omega) (by omega)
  have q2 := prim_mul (a := -a') (b := -b') (c := -c') m s.m1 ((g3_neg _ _ _).trans s.g) (by omega) (by omega) (by omega)
  have q3 := prim_mul (a := a') (b := b') (c := c') 1 (by omega) s.g (by omega) (by omega) (by omega)
  have q4 := prim_mul (a := -a') (b := -b') (c := -c') 1 (by omega) ((g3_neg _ _ _).trans s.g) (by omega) (by omega) (by omega)
  simp only [Int.natCast_one, Int.mul_one] at q3 q4
  rw [← ex, ← ey, ← ez] at q1
  rw [← nx, ← ny, ← nz] at q2
  have hn2 := vneg_plain hN
  refine ⟨⟨a', b', c'⟩, m, s.m1, ex, ey, ez, q1.1, q1.2, ?_, ?_, hN, q3.1, ?_⟩
  · rw [hn]; exact q2.1
  · rw [hn, hn2]; exact q2.2
  · rw [hn2]; exact q4.1

/-- A product that is 0 by a factor. -/
theorem zero_of_mul {n : Int} {m : Nat} (hm : 1 ≤ m) (h : n * m = 0) : n = 0 := by
  rcases Int.mul_eq_zero.mp h with h | h
  · exact h
  · omega

/-- All that the law compares, of three points that lie on no line. -/
structure SidesLaw (A B C : V3) (N : V3) (b : Int) : Prop where
  t1 : pThrough A B C = ⟨N, b⟩
  t2 : pThrough B C A = ⟨N, b⟩
  t3 : pThrough A C B = pFlip ⟨N, b⟩
  o1 : okThrough A B C = true
  o2 : okThrough B C A = true
  o3 : okThrough A C B = true
  ff : pFlip (pFlip ⟨N, b⟩) = ⟨N, b⟩
  bN : Bd 4608 N
  bM : Bd 4608 (pFlip ⟨N, b⟩).n
  v1 : pValid ⟨N, b⟩ = true
  v2 : pValid (pFlip ⟨N, b⟩) = true
  sd : ∀ D, pSide ⟨N, b⟩ D = wrap64 (-(pSide (pFlip ⟨N, b⟩) D))
  dA : vDot N A = b
  dB : vDot N B = b
  dC : vDot N C = b
  sA : pSide ⟨N, b⟩ A = 0
  sB : pSide ⟨N, b⟩ B = 0
  sC : pSide ⟨N, b⟩ C = 0
  mv : ∀ s : V3, vIn (vAdd A s) = true → vIn (vAdd B s) = true → vIn (vAdd C s) = true →
    okThrough (vAdd A s) (vAdd B s) (vAdd C s) = true ∧ (pThrough (vAdd A s) (vAdd B s) (vAdd C s)).n = N ∧ (pThrough (vAdd A s) (vAdd B s) (vAdd C s)).b = wrap64 (b + vDot N s)

/-- .. and of three that do. -/
structure FlatLaw (A B C : V3) : Prop where
  t1 : pThrough A B C = ⟨⟨0, 0, 0⟩, 0⟩
  t2 : pThrough B C A = ⟨⟨0, 0, 0⟩, 0⟩
  t3 : pThrough A C B = ⟨⟨0, 0, 0⟩, 0⟩
  o1 : okThrough A B C = false
  o2 : okThrough B C A = false
  o3 : okThrough A C B = false
theorem flatLaw {A B C : V3} (h : vCross (vSub B A) (vSub C A) = ⟨0, 0, 0⟩) : FlatLaw A B C := by
  have o1 : okThrough A B C = false := by unfold okThrough; rw [h, gcd_zero]; simp
  have o2 : okThrough B C A = false := by unfold okThrough; rw [cross_cyc, h, gcd_zero]; simp
  have o3 : okThrough A C B = false := by unfold okThrough; rw [cross_swap, h]; simp [vSub, wr_zero, gcd_zero]
  refine ⟨?_, ?_, ?_, o1, o2, o3⟩
  · unfold pThrough; rw [o1]; rfl
  · unfold pThrough; rw [o2]; rfl
  · unfold pThrough; rw [o3]; rfl

theorem ordI_neg (a b : Int) : ordI (-a) (-b) = -(ordI a b) := by
  unfold ordI
  by_cases h1 : a < b
  · rw [if_pos h1, if_neg (by omega), if_pos (by omega)]; rfl
  · by_cases h2 : b < a
    · rw [if_neg h1, if_pos h2, if_pos (by omega)]; (try rfl)
    · rw [if_neg h1, if_neg h2, if_neg (by omega), if_neg (by omega)]; (try rfl)
theorem ordI_self (a : Int) : ordI a a = 0 := by unfold ordI; simp
theorem ordI_bd (a b : Int) : -1 ≤ ordI a b ∧ ordI a b ≤ 1 := by
  unfold ordI; split
  · omega
  · split <;> omega

theorem sidesLaw {A B C : V3} (hA : Bd 24 A) (hB : Bd 24 B) (hC : Bd 24 C)
    (hne : ¬ ((vCross (vSub B A) (vSub C A)).x = 0 ∧ (vCross (vSub B A) (vSub C A)).y = 0 ∧ (vCross (vSub B A) (vSub C A)).z = 0)) :
    ∃ N b, SidesLaw A B C N b := by
  have s1 := sub_plain hA hB
  have s2 := sub_plain hA hC
  have hc := cross_plain s1.2 s2.2
  obtain ⟨N, m, k⟩ := nrm hc.2 hne
  have d1 := dot_plain k.b (hA.mono (by omega))
  have d2 := dot_plain k.b (hB.mono (by omega))
  have d3 := dot_plain k.b (hC.mono (by omega))
  have hm0 : (vGcd (vCross (vSub B A) (vSub C A)) == 0) = false := by rw [k.g]; have := k.m1; simp; omega
  have hm1 : (vGcd (vSub ⟨0, 0, 0⟩ (vCross (vSub B A) (vSub C A))) == 0) = false := by rw [k.gn]; have := k.m1; simp; omega
  have o1 : okThrough A B C = true := by unfold okThrough; rw [hA.vIn, hB.vIn, hC.vIn, hm0]; rfl
  have o2 : okThrough B C A = true := by unfold okThrough; rw [cross_cyc, hA.vIn, hB.vIn, hC.vIn, hm0]; rfl
  have o3 : okThrough A C B = true := by unfold okThrough; rw [cross_swap, hA.vIn, hB.vIn, hC.vIn, hm1]; rfl
  -- N is orthogonal to both sides
  have hX : (vCross (vSub B A) (vSub C A)).x = (B.y - A.y) * (C.z - A.z) - (B.z - A.z) * (C.y - A.y) := by rw [hc.1, s1.1, s2.1]
  have hY : (vCross (vSub B A) (vSub C A)).y = (B.z - A.z) * (C.x - A.x) - (B.x - A.x) * (C.z - A.z) := by rw [hc.1, s1.1, s2.1]
  have hZ : (vCross (vSub B A) (vSub C A)).z = (B.x - A.x) * (C.y - A.y) - (B.y - A.y) * (C.x - A.x) := by rw [hc.1, s1.1, s2.1]
  have ex := k.ex.symm.trans hX
  have ey := k.ey.symm.trans hY
  have ez := k.ez.symm.trans hZ
  have eB : vDot N B = vDot N A := by
    rw [d1.1, d2.1]
    have : (N.x * (B.x - A.x) + N.y * (B.y - A.y) + N.z * (B.z - A.z)) * m = 0 := by
      rw [show (N.x * (B.x - A.x) + N.y * (B.y - A.y) + N.z * (B.z - A.z)) * (m : Int) = (N.x * m) * (B.x - A.x) + (N.y * m) * (B.y - A.y) + (N.z * m) * (B.z - A.z) by grind, ex, ey, ez]
      grind
    have := zero_of_mul k.m1 this
    rw [Int.mul_sub, Int.mul_sub, Int.mul_sub] at this
    omega
  have eC : vDot N C = vDot N A := by
    rw [d1.1, d3.1]
    have : (N.x * (C.x - A.x) + N.y * (C.y - A.y) + N.z * (C.z - A.z)) * m = 0 := by
      rw [show (N.x * (C.x - A.x) + N.y * (C.y - A.y) + N.z * (C.z - A.z)) * (m : Int) = (N.x * m) * (C.x - A.x) + (N.y * m) * (C.y - A.y) + (N.z * m) * (C.z - A.z) by grind, ex, ey, ez]
      grind
    have := zero_of_mul k.m1 this
    rw [Int.mul_sub, Int.mul_sub, Int.mul_sub] at this
    omega
  obtain ⟨b, hb⟩ : ∃ b, vDot N A = b := ⟨_, rfl⟩
  rw [hb] at eB eC
  have hbb := d1.2; rw [hb] at hbb
  have hneg := vneg_plain k.b
  have hbN : Bd 4608 (vSub ⟨0, 0, 0⟩ N) := by
    rw [hneg]; obtain ⟨b1, b2, b3, b4, b5, b6⟩ := k.b
    exact ⟨by simp only []; omega, by simp only []; omega, by simp only []; omega, by simp only []; omega, by simp only []; omega, by simp only []; omega⟩
  have hfl : pFlip ⟨N, b⟩ = ⟨vSub ⟨0, 0, 0⟩ N, -b⟩ := by unfold pFlip; rw [wr_id (n := -b) ⟨by omega, by omega⟩]
  have v1 : pValid ⟨N, b⟩ = true := by
    obtain ⟨b1, b2, b3, b4, b5, b6⟩ := k.b
    unfold pValid inB; simp only [k.u]; simp; omega
  have v2 : pValid (pFlip ⟨N, b⟩) = true := by
    rw [hfl]
    obtain ⟨b1, b2, b3, b4, b5, b6⟩ := hbN
    unfold pValid inB; simp only [k.un]; simp; omega
  have dneg : ∀ D, Bd 48 D → vDot (vSub ⟨0, 0, 0⟩ N) D = -(vDot N D) := by
    intro D hD
    rw [(dot_plain k.b hD).1, (dot_plain hbN hD).1, hneg]
    simp only [Int.neg_mul]; omega
  refine ⟨N, b, ?_, ?_, ?_, o1, o2, o3, ?_, k.b, by rw [hfl]; exact hbN, v1, v2, ?_, hb, eB, eC, ?_, ?_, ?_, ?_⟩
  · unfold pThrough; rw [o1, k.p, hb]; rfl
  · unfold pThrough; rw [o2, cross_cyc, k.p, eB]; rfl
  · unfold pThrough; rw [o3, cross_swap, k.pn, hfl, dneg A (hA.mono (by omega)), hb]; rfl
  · rw [hfl]; unfold pFlip
    rw [vneg_plain hbN, hneg]; simp only [Int.neg_neg]; rw [wr_id (n := b) ⟨by omega, by omega⟩]
  · intro D
    by_cases hD : vIn D = true
    · have hD2 : Bd 48 D := (Bd.of_vIn hD).mono (by omega)
      unfold pSide
      rw [v1, v2, hD, hfl]
      simp only [Bool.and_self, if_true]
      rw [dneg D hD2, ordI_neg, Int.neg_neg]
      have := ordI_bd (vDot N D) b
      exact (wr_id ⟨by omega, by omega⟩).symm
    · simp only [Bool.not_eq_true] at hD
      unfold pSide; rw [hD]; simp [wr_zero]
  · unfold pSide; rw [v1, hA.vIn, hb, ordI_self]; rfl
  · unfold pSide; rw [v1, hB.vIn, eB, ordI_self]; rfl
  · unfold pSide; rw [v1, hC.vIn, eC, ordI_self]; rfl
  · intro s h1 h2 h3
    have o4 : okThrough (vAdd A s) (vAdd B s) (vAdd C s) = true := by
      unfold okThrough; rw [cross_move, h1, h2, h3, hm0]; rfl
    refine ⟨o4, ?_, ?_⟩
    · unfold pThrough; rw [o4, cross_move, k.p]; rfl
    · unfold pThrough; rw [o4, cross_move, k.p]
      show vDot N (vAdd A s) = _
      rw [dot_add, hb]
theorem Bd.i64 {n : Int} {v : V3} (h : Bd n v) (hn : n ≤ 1000000) : I64 v.x ∧ I64 v.y ∧ I64 v.z := by
  obtain ⟨h1, h2, h3, h4, h5, h6⟩ := h
  exact ⟨⟨by omega, by omega⟩, ⟨by omega, by omega⟩, ⟨by omega, by omega⟩⟩

theorem SidesLaw.onS {pk : Nat → V3} {N : V3} {b : Int} (h : SidesLaw (pk 0) (pk 1) (pk 2) N b) (k : Nat) (hk : k < 3) : pSide ⟨N, b⟩ (pk k) = 0 := by
  match k, hk with
  | 0, _ => exact h.sA
  | 1, _ => exact h.sB
  | 2, _ => exact h.sC
theorem SidesLaw.onD {pk : Nat → V3} {N : V3} {b : Int} (h : SidesLaw (pk 0) (pk 1) (pk 2) N b) (k : Nat) (hk : k < 3) : vDot N (pk k) = b := by
  match k, hk with
  | 0, _ => exact h.dA
  | 1, _ => exact h.dB
  | 2, _ => exact h.dC
/-- The cells of the moved points, before round k: those before k are there. -/
structure Moved (pk : Nat → V3) (s : V3) (k : Nat) (cs : Array Value) : Prop where
  size : cs.size = 9
  row : ∀ j, j < k → cs[j * 3]? = some (.int .i64 (vAdd (pk j) s).x) ∧ cs[j * 3 + 1]? = some (.int .i64 (vAdd (pk j) s).y) ∧ cs[j * 3 + 2]? = some (.int .i64 (vAdd (pk j) s).z)
theorem Moved.step {pk : Nat → V3} {s : V3} {k : Nat} {cs : Array Value} (h : Moved pk s k cs) (hk : k < 3) :
    Moved pk s (k + 1) (((cs.setIfInBounds (k * 3) (.int .i64 (vAdd (pk k) s).x)).setIfInBounds (k * 3 + 1) (.int .i64 (vAdd (pk k) s).y)).setIfInBounds (k * 3 + 2) (.int .i64 (vAdd (pk k) s).z)) := by
  have hs := h.size
  refine ⟨by simp [hs], fun j hj => ?_⟩
  simp only [Array.getElem?_setIfInBounds, Array.size_setIfInBounds, hs]
  by_cases e : j = k
  · subst e
    refine ⟨?_, ?_, ?_⟩
    · rw [if_neg (by omega), if_neg (by omega), if_pos rfl, if_pos (by omega)]
    · rw [if_neg (by omega), if_pos rfl, if_pos (by omega)]
    · rw [if_pos rfl, if_pos (by omega)]
  · have := h.row j (by omega)
    rw [if_neg (by omega), if_neg (by omega), if_neg (by omega), if_neg (by omega), if_neg (by omega), if_neg (by omega), if_neg (by omega), if_neg (by omega), if_neg (by omega)]
    exact this
end Go.Proofs.Ytccnlnkgoaelpaa
