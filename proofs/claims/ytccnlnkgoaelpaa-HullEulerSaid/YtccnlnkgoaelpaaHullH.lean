/- Package hull: slices.Compact and slices.Clone over vectors, and distinct: the points in order, each once. -/
import Derived.Shelf.SlicesE.Clone
import Derived.Lib.SliceRun
import Derived.Test.YtccnlnkgoaelpaaHullG
import Derived.Test.YtccnlnkgoaelpaaDraw3
namespace Go.Proofs.Ytccnlnkgoaelpaa
open Go.RowKit

/-- What Compact leaves of the first k vectors. -/
def cpK (M : List V3) : Nat → List V3
  | 0 => []
  | k + 1 => if 0 < k ∧ vAt M k = vAt M (k - 1) then cpK M k else cpK M k ++ [vAt M k]
theorem cpK_one (M : List V3) : cpK M 1 = [vAt M 0] := by simp [cpK]
theorem cpK_same {M : List V3} {p : Nat} (h : vAt M (p + 1) = vAt M p) : cpK M (p + 1 + 1) = cpK M (p + 1) := by
  conv => lhs; unfold cpK
  rw [if_pos ⟨by omega, by simpa using h⟩]
theorem cpK_other {M : List V3} {p : Nat} (h : ¬ vAt M (p + 1) = vAt M p) : cpK M (p + 1 + 1) = cpK M (p + 1) ++ [vAt M (p + 1)] := by
  conv => lhs; unfold cpK
  rw [if_neg (fun e => h (by simpa using e.2))]
theorem mem_cpK {M : List V3} {x : V3} : ∀ k, x ∈ cpK M k ↔ ∃ i, i < k ∧ x = vAt M i
  | 0 => by simp [cpK]
  | 1 => by rw [cpK_one]; simp
  | k + 1 + 1 => by
    by_cases h : vAt M (k + 1) = vAt M k
    · rw [cpK_same h, mem_cpK (k + 1)]
      constructor
      · rintro ⟨i, hi, e⟩; exact ⟨i, by omega, e⟩
      · rintro ⟨i, hi, e⟩
        by_cases e2 : i = k + 1
        · exact ⟨k, by omega, by rw [e, e2, h]⟩
        · exact ⟨i, by omega, e⟩
    · rw [cpK_other h, List.mem_append, mem_cpK (k + 1), List.mem_singleton]
      constructor
      · rintro (⟨i, hi, e⟩ | e)
        · exact ⟨i, by omega, e⟩
        · exact ⟨k + 1, by omega, e⟩
      · rintro ⟨i, hi, e⟩
        by_cases e2 : i = k + 1
        · exact .inr (by rw [e, e2])
        · exact .inl ⟨i, by omega, e⟩
theorem cpK_sorted {M : List V3} (hs : M.Pairwise (fun a b => vLt b a = false)) : ∀ k, k ≤ M.length → SortedL vLt (cpK M k)
  | 0, _ => by simp [cpK, SortedL]
  | 1, _ => by rw [cpK_one]; simp [SortedL]
  | k + 1 + 1, hk => by
    have ih := cpK_sorted hs (k + 1) (by omega)
    by_cases h : vAt M (k + 1) = vAt M k
    · rw [cpK_same h]; exact ih
    · rw [cpK_other h]
      refine List.pairwise_append.2 ⟨ih, by simp, fun x hx y hy => ?_⟩
      obtain rfl : y = vAt M (k + 1) := by simpa using hy
      obtain ⟨i, hi, rfl⟩ := (mem_cpK _).1 hx
      have le : ∀ a b, a < b → b < M.length → vLt (vAt M b) (vAt M a) = false := fun a b hab hb => by
        have := (List.pairwise_iff_getElem.1 hs) a b (by omega) hb hab
        unfold vAt
        rw [List.getD_eq_getElem?_getD, List.getD_eq_getElem?_getD, List.getElem?_eq_getElem hb, List.getElem?_eq_getElem (by omega : a < M.length)]
        exact this
      have st : vLt (vAt M k) (vAt M (k + 1)) = true := by
        rcases vLt_strict.tri (vAt M k) (vAt M (k + 1)) with e | e | e
        · exact e
        · exact absurd e.symm h
        · rw [le k (k + 1) (by omega) (by omega)] at e; cases e
      by_cases e : i = k
      · rw [e]; exact st
      · have l1 := le i k (by omega) (by omega)
        rcases vLt_strict.tri (vAt M i) (vAt M k) with e | e | e
        · exact vLt_strict.trans _ _ _ e st
        · rw [e]; exact st
        · rw [l1] at e; cases e
theorem cpK_take {M : List V3} : ∀ k, k ≤ M.length → (∀ j, j + 1 < k → ¬ vAt M (j + 1) = vAt M j) → cpK M k = M.take k
  | 0, _, _ => by simp [cpK]
  | 1, h, _ => by
    rw [cpK_one]
    cases M with
    | nil => simp at h
    | cons x M => rfl
  | k + 1 + 1, h, hd => by
    have e : M.take (k + 1 + 1) = M.take (k + 1) ++ [M[k + 1]] := List.take_succ_eq_append_getElem (by omega)
    have e2 : vAt M (k + 1) = M[k + 1] := by
      unfold vAt
      rw [List.getD_eq_getElem?_getD, List.getElem?_eq_getElem (by omega : k + 1 < M.length)]; rfl
    rw [cpK_other (hd k (by omega)), cpK_take (k + 1) (by omega) (fun j hj => hd j (by omega)), e, e2]
theorem distinct_cp {L M : List V3} (hp : M.Perm L) (hs : M.Pairwise (fun a b => vLt b a = false)) : cpK M M.length = distinctL L := by
  refine distinct_of (cpK_sorted hs _ (Nat.le_refl _)) fun v => ?_
  rw [mem_cpK, ← hp.mem_iff]
  constructor
  · rintro ⟨i, hi, rfl⟩; exact vAt_mem hi
  · intro h
    obtain ⟨i, hi, e⟩ := mem_vAt h
    exact ⟨i, hi, e.symm⟩
theorem vAt_set {M : List V3} {k i : Nat} {v : V3} (hk : k < M.length) : vAt (M.set k v) i = if i = k then v else vAt M i := by
  unfold vAt
  rw [List.getD_eq_getElem?_getD, List.getD_eq_getElem?_getD, List.getElem?_set]
  by_cases e : k = i
  · subst e; simp [hk]
  · simp [e, Ne.symm e]
theorem RowO.set {w : World} {g : Nat} {M : List V3} (h : RowO w g M) {k : Nat} (hk : k < M.length) (x y z : Int) :
    RowO (((w.setCell ⟨g, k * 3, none⟩ (.int .i64 x)).setCell ⟨g, k * 3 + 1, none⟩ (.int .i64 y)).setCell ⟨g, k * 3 + 2, none⟩ (.int .i64 z)) g (M.set k ⟨x, y, z⟩) := by
  obtain ⟨cs, ho, hc⟩ := h
  refine ⟨_, ((ho.set (k * 3) _).set (k * 3 + 1) _).set (k * 3 + 2) _, fun i hi => ?_⟩
  have hi' : i < M.length := by simpa using hi
  obtain ⟨h1, h2, h3⟩ := hc i hi'
  have b := fun j (hj : cs[j]? ≠ none) => (Array.getElem?_eq_some_iff.1 (Option.some_get (Option.isSome_iff_ne_none.2 hj)).symm).1
  have s1 := (Array.getElem?_eq_some_iff.1 h1).1
  have s2 := (Array.getElem?_eq_some_iff.1 h2).1
  have s3 := (Array.getElem?_eq_some_iff.1 h3).1
  rw [vAt_set hk]
  simp only [Array.getElem?_setIfInBounds, Array.size_setIfInBounds]
  by_cases e : i = k
  · subst e
    have ei : (if i = i then (⟨x, y, z⟩ : V3) else vAt M i) = ⟨x, y, z⟩ := if_pos rfl
    rw [ei]
    refine ⟨?_, ?_, ?_⟩
    · rw [if_neg (by omega), if_neg (by omega), if_pos rfl, if_pos s1]
    · rw [if_neg (by omega), if_pos rfl, if_pos s2]
    · rw [if_pos rfl, if_pos s3]
  · rw [if_neg e]
    refine ⟨?_, ?_, ?_⟩
    · rw [if_neg (by omega), if_neg (by omega), if_neg (by omega)]; exact h1
    · rw [if_neg (by omega), if_neg (by omega), if_neg (by omega)]; exact h2
    · rw [if_neg (by omega), if_neg (by omega), if_neg (by omega)]; exact h3
theorem own_setCells {g : Nat} : ∀ (vs : List Value) (s : Nat) {w : World} {cs : Array Value}, Own w g cs → ∃ cs', Own (w.setCells g s vs) g cs' ∧ (∀ i, i < s → cs'[i]? = cs[i]?) ∧ Upd [g] w (w.setCells g s vs)
  | [], _, w, cs, h => ⟨cs, h, fun _ _ => rfl, Upd.refl _ _⟩
  | v :: r, s, w, cs, h => by
    obtain ⟨cs', h1, h2, h3⟩ := own_setCells r (s + 1) (h.set s v)
    refine ⟨cs', h1, fun i hi => ?_, ((Upd.refl [g] w).set (p := ⟨g, s, none⟩) (by simp) v).trans h3⟩
    rw [h2 i (by omega), Array.getElem?_setIfInBounds, if_neg (by omega)]
theorem run_clear_vecs {P : Program} (w : World) (t e ty : TypeId) (ht : P.underlying t = some (.slice e)) (hv : ∀ w, (zeroValue e).run P w = .ok (.agg #[.int .i64 0, .int .i64 0, .int .i64 0]) w) (b o n c : Nat) (hn : 0 < n)
    (hc : ∀ j, j < n * 3 → (w.cell? ⟨b, o + j, none⟩).isSome = true) (hf : ∀ j, j < n * 3 → w.frozen? ⟨b, o + j, none⟩ = false) :
    (Builtin.clear_ #[t] ty #[.slice (some ⟨b, o, none⟩) n c]).run P w = .ok (.tuple #[]) (w.setCells b o (List.replicate (n * 3) (.int .i64 0))) := by
  have hzc : (Builtin.zeroCells (Value.agg #[.int .i64 0, .int .i64 0, .int .i64 0]).cells n).toList = List.replicate (n * 3) (.int .i64 0) := by
    apply List.ext_getElem
    · simp [Builtin.zeroCells, Value.cells]
    · intro i h1 h2
      simp only [Builtin.zeroCells, Value.cells, Array.toList_map, List.getElem_map, List.getElem_replicate]
      have : (Array.range (n * (#[Value.int IntKind.i64 0, Value.int IntKind.i64 0, Value.int IntKind.i64 0] : Array Value).size)).toList[i]'(by simpa [Builtin.zeroCells, Value.cells] using h1) = i := by simp
      rw [this]
      rcases (show i % (#[Value.int IntKind.i64 0, Value.int IntKind.i64 0, Value.int IntKind.i64 0] : Array Value).size = 0 ∨ i % (#[Value.int IntKind.i64 0, Value.int IntKind.i64 0, Value.int IntKind.i64 0] : Array Value).size = 1 ∨ i % (#[Value.int IntKind.i64 0, Value.int IntKind.i64 0, Value.int IntKind.i64 0] : Array Value).size = 2 by simp only [List.size_toArray, List.length_cons, List.length_nil]; omega) with e | e | e <;> rw [e] <;> rfl
  have hst := run_storeCells_cells (P := P) b o (List.replicate (n * 3) (.int .i64 0)) 0 w (by simpa using hc) (by simpa using hf) (by intro v hv'; rw [List.eq_of_mem_replicate hv']; rfl)
  simp only [Nat.add_zero] at hst
  obtain ⟨m, rfl⟩ : ∃ m, n = m + 1 := ⟨n - 1, by omega⟩
  simp [Builtin.clear_, run_underlying ht, hv, hzc, hst]
theorem V3.ne_cases {a b c x y z : Int} (h : ¬ (⟨a, b, c⟩ : V3) = ⟨x, y, z⟩) : ¬ a = x ∨ ¬ b = y ∨ ¬ c = z := by
  by_cases h1 : a = x
  · by_cases h2 : b = y
    · exact .inr (.inr fun h3 => h (by rw [h1, h2, h3]))
    · exact .inr (.inl h2)
  · exact .inl h1

set_option maxRecDepth 100000 in
set_option maxHeartbeats 8000000 in
theorem compactV {w : World} {g : Nat} {M : List V3} (cap : Nat) (h : RowO w g M) (hcap : M.length ≤ cap) (hcap2 : cap ≤ 9223372036854775807) (hn1 : 1 ≤ M.length) (hn2 : M.length ≤ 1000000) :
    Calls Try.prog 49 #[.slice (some ⟨g, 0, none⟩) M.length cap] w fun e w' => e = .returned (.slice (some ⟨g, 0, none⟩) (cpK M M.length).length cap) ∧ RowO w' g (cpK M M.length) ∧ Upd [g] w w' := by
  obtain ⟨n, hn⟩ : ∃ n, M.length = n := ⟨_, rfl⟩
  rw [hn] at hcap hn1 hn2 ⊢
  have hni : (n : Int) ≤ (cap : Int) := by omega
  have hci : (cap : Int) ≤ 9223372036854775807 := by omega
  have hn0 : (0 : Int) < (n : Int) := by omega
  have HR := Lib.hid h
  have HN := Lib.hid hn
  clear h hn
  by_cases hone : n = 1
  · subst hone
    have e1 : cpK M 1 = [vAt M 0] := cpK_one M
    rw [e1]
    go_enter Try.func49, Try.ntmps49
    go_wp2
    go_ret
    refine ⟨rfl, ?_, Upd.refl _ _⟩
    rw [← e1, cpK_take 1 (by rw [HN.out]; omega) (by omega), List.take_of_length_le (by rw [HN.out]; omega)]
    exact HR.out
  have hn2' : ¬ (n : Int) < 2 := by omega
  have hn3 : 2 ≤ n := by omega
  clear hone
  go_enter Try.func49, Try.ntmps49
  go_wp2
  go_loopw [3] (fun s wr => ∃ p : Nat, p + 1 ≤ n ∧ s = .int .i64 ((p : Int) + 1) ∧ RowO wr g M ∧ Below w.heap.size w wr ∧ (∀ j, j < p → ¬ vAt M (j + 1) = vAt M j)) (fun s _ => n - (intOf s).toNat)
  case atStart => exact ⟨0, by omega, rfl, HR.out, Below.refl _ _, fun j hj => by omega⟩
  case round =>
    obtain ⟨p, hp, rfl, hrow, hbw, hall⟩ := hrel
    have HALL := Lib.hid hall
    have HROW := Lib.hid hrow
    have HBW := Lib.hid hbw
    obtain ⟨cs, og, hc⟩ := hrow
    have HC := Lib.hid hc
    clear hall hbw hc
    have hw := Below.refl wr.heap.size wr
    have hz := hw.size
    have ogc := og.cell
    have ogf := og.thaw
    have ogz := og.lt
    have hpi : (p : Int) + 1 ≤ (n : Int) := by omega
    by_cases hlt : p + 1 < n
    · have hlt2 : (p : Int) + 1 < (n : Int) := by omega
      have hlt3 : (p : Int) < (n : Int) := by omega
      obtain ⟨a1, a2, a3⟩ := HC.out (p + 1) (by rw [HN.out]; exact hlt)
      obtain ⟨b1, b2, b3⟩ := HC.out p (by rw [HN.out]; omega)
      obtain ⟨⟨x0, x1, x2⟩, hX⟩ : ∃ X, vAt M (p + 1) = X := ⟨_, rfl⟩
      obtain ⟨⟨y0, y1, y2⟩, hY⟩ : ∃ X, vAt M p = X := ⟨_, rfl⟩
      rw [hX] at a1 a2 a3
      rw [hY] at b1 b2 b3
      simp only [] at a1 a2 a3 b1 b2 b3
      have HX := Lib.hid hX
      have HY := Lib.hid hY
      clear hX hY
      by_cases heq : (⟨x0, x1, x2⟩ : V3) = ⟨y0, y1, y2⟩
      · have HDUP : Hid (vAt M (p + 1) = vAt M p) := Lib.hid (by rw [HX.out, HY.out, heq])
        injection heq with e0 e1 e2
        subst e0
        subst e1
        subst e2
        go_wp2
        refine region_late 10 [] (by kernel_rfl) (by kernel_rfl) (by rfl) ?_
        apply Exists.intro
        refine ⟨fun v hv hne => ?_, fun u1 hu => ?_⟩
        · simp only [List.take_succ_cons, List.take_zero]
          have dog := fun x => (og.later (v := v) (T := []) (by first | (simp; done) | (simp; omega)) x).cell
          have da1 := fun x => (dog x _).trans a1
          have da2 := fun x => (dog x _).trans a2
          have da3 := fun x => (dog x _).trans a3
          have db1 := fun x => (dog x _).trans b1
          have db2 := fun x => (dog x _).trans b2
          have db3 := fun x => (dog x _).trans b3
          repeat (go_big_quiet_step (fail))
          refine wpQuiet_nil ?_
          exact rfl
        · simp only [List.drop_succ_cons, List.drop_zero]
          replace og := og.below hu
          replace hw := Below.hop hw hu
          replace hz := hw.size
          clear hu
          refine late_nil ?_
          (try simp only [Act.put, List.setIfInBounds_toArray, List.set_cons_zero, List.set_cons_succ])
          have ogc := og.cell
          have ogf := og.thaw
          have ogz := og.lt
          have HROW2 := Lib.hid (HROW.out.below hw)
          have HUPD2 := Lib.hid (Upd.of_below (T := [g]) (Below.hop HBW.out hw))
          clear HROW HBW og ogc ogf ogz a1 a2 a3 b1 b2 b3
          have hcp0 : (0 : Int) < (cap : Int) - ((p : Int) + 1) := by omega
          go_wp2
          obtain ⟨q, hq⟩ : ∃ q, n - (p + 1) = q := ⟨_, rfl⟩
          obtain ⟨cq, hcq⟩ : ∃ q, cap - (p + 1) = q := ⟨_, rfl⟩
          rw [hq, hcq]
          have hq3 : n = p + 1 + q := by omega
          have hcq3 : cap = p + 1 + cq := by omega
          have hqi : (n : Int) = (p : Int) + 1 + (q : Int) := by omega
          have hcqi : (cap : Int) = (p : Int) + 1 + (cq : Int) := by omega
          clear hq hcq
          go_loopw [3, 5] (fun s3 s5 wr => ∃ (kk r : Nat) (M2 : List V3), s3 = .int .i64 kk ∧ s5 = .int .i64 ((r : Int) + 1) ∧ r + 1 ≤ q ∧ p + 1 ≤ kk ∧ kk ≤ p + 1 + r ∧ M2.length = n ∧ (∀ i, p + 1 + r ≤ i → vAt M2 i = vAt M i) ∧ M2.take kk = cpK M (p + 1 + r + 1) ∧ RowO wr g M2 ∧ Upd [g] w wr) (fun _ s5 _ => q - (intOf s5).toNat)
          case atStart => exact ⟨p + 1, 0, M, by first | go_num | simp, by first | go_num | simp, by omega, by omega, by omega, HN.out, fun _ _ => rfl, by rw [Nat.add_zero, cpK_same HDUP.out, cpK_take (p + 1) (by rw [HN.out]; omega) (fun j hj => HALL.out j (by omega))], HROW2.out, HUPD2.out⟩
          case round =>
            clear HROW2 HUPD2 HX HY hw hz
            obtain ⟨kk, r, M2, rfl, rfl, hr1, hk1, hk2, hM2, hhi, htake, hrow, hupd⟩ := hrel
            have HHI := Lib.hid hhi
            have HTAKE := Lib.hid htake
            have HROW := Lib.hid hrow
            have HUPD := Lib.hid hupd
            have HM2 := Lib.hid hM2
            obtain ⟨cs2, og, hc2⟩ := hrow
            have HC2 := Lib.hid hc2
            clear hhi htake hupd hM2 hc2
            have hw := Below.refl wr.heap.size wr
            have hz := hw.size
            have ogc := og.cell
            have ogf := og.thaw
            have ogz := og.lt
            have hri : (r : Int) + 1 ≤ (q : Int) := by omega
            have hki : (kk : Int) < (n : Int) := by omega
            by_cases hlr : r + 1 < q
            · have hlr2 : (r : Int) + 1 < (q : Int) := by omega
              have hlr3 : (r : Int) < (q : Int) := by omega
              obtain ⟨a1, a2, a3⟩ := HC2.out (p + 1 + (r + 1)) (by rw [HM2.out]; omega)
              obtain ⟨b1, b2, b3⟩ := HC2.out (p + 1 + r) (by rw [HM2.out]; omega)
              rw [HHI.out _ (by omega)] at a1 a2 a3 b1 b2 b3
              rw [show (p + 1 + (r + 1)) * 3 = (p + 1) * 3 + (r + 1) * 3 by omega] at a1 a2 a3
              rw [show (p + 1 + r) * 3 = (p + 1) * 3 + r * 3 by omega] at b1 b2 b3
              obtain ⟨⟨u0, u1, u2⟩, hX⟩ : ∃ X, vAt M (p + 1 + (r + 1)) = X := ⟨_, rfl⟩
              obtain ⟨⟨t0, t1, t2⟩, hY⟩ : ∃ X, vAt M (p + 1 + r) = X := ⟨_, rfl⟩
              rw [hX] at a1 a2 a3
              rw [hY] at b1 b2 b3
              simp only [] at a1 a2 a3 b1 b2 b3
              have HX := Lib.hid hX
              have HY := Lib.hid hY
              clear hX hY
              by_cases heq : (⟨u0, u1, u2⟩ : V3) = ⟨t0, t1, t2⟩
              · have HDUP2 : Hid (vAt M (p + 1 + r + 1) = vAt M (p + 1 + r)) := Lib.hid (by rw [HY.out, ← heq]; exact HX.out)
                injection heq with e0 e1 e2
                subst e0
                subst e1
                subst e2
                go_wp2
                refine region_late 10 [] (by kernel_rfl) (by kernel_rfl) (by rfl) ?_
                apply Exists.intro
                refine ⟨fun v hv hne => ?_, fun u3 hu => ?_⟩
                · simp only [List.take_succ_cons, List.take_zero]
                  have dog := fun x => (og.later (v := v) (T := []) (by first | (simp; done) | (simp; omega)) x).cell
                  have da1 := fun x => (dog x _).trans a1
                  have da2 := fun x => (dog x _).trans a2
                  have da3 := fun x => (dog x _).trans a3
                  have db1 := fun x => (dog x _).trans b1
                  have db2 := fun x => (dog x _).trans b2
                  have db3 := fun x => (dog x _).trans b3
                  repeat (go_big_quiet_step (fail))
                  refine wpQuiet_nil ?_
                  exact rfl
                · simp only [List.drop_succ_cons, List.drop_zero]
                  replace og := og.below hu
                  replace hw := Below.hop hw hu
                  replace hz := hw.size
                  clear hu
                  refine late_nil ?_
                  (try simp only [Act.put, List.setIfInBounds_toArray, List.set_cons_zero, List.set_cons_succ])
                  have ogc := og.cell
                  have ogf := og.thaw
                  have ogz := og.lt
                  have HROW2 := Lib.hid (HROW.out.below hw)
                  have HUPD2 := Lib.hid (HUPD.out.hop hw)
                  clear HROW HUPD og ogc ogf ogz a1 a2 a3 b1 b2 b3
                  go_wp2
                  go_roundw
                  case rel => exact ⟨kk, r + 1, M2, by first | go_num | simp, by first | go_num | simp, by omega, hk1, by omega, HM2.out, fun i hi => HHI.out i (by omega), by rw [HTAKE.out]; exact (cpK_same HDUP2.out).symm, HROW2.out, HUPD2.out⟩
                  case measure => simp [intOf]; omega
              · have HNE2 : Hid (¬ vAt M (p + 1 + r + 1) = vAt M (p + 1 + r)) := Lib.hid (by rw [HY.out]; intro e; exact heq (HX.out.symm.trans e))
                have HD := Lib.hid (V3.ne_cases heq)
                clear heq
                go_wp2
                refine region_late 10 [] (by kernel_rfl) (by kernel_rfl) (by rfl) ?_
                apply Exists.intro
                refine ⟨fun v hv hne => ?_, fun u3 hu => ?_⟩
                · simp only [List.take_succ_cons, List.take_zero]
                  have dog := fun x => (og.later (v := v) (T := []) (by first | (simp; done) | (simp; omega)) x).cell
                  have da1 := fun x => (dog x _).trans a1
                  have da2 := fun x => (dog x _).trans a2
                  have da3 := fun x => (dog x _).trans a3
                  have db1 := fun x => (dog x _).trans b1
                  have db2 := fun x => (dog x _).trans b2
                  have db3 := fun x => (dog x _).trans b3
                  rcases HD.out with hd | hd | hd
                  all_goals repeat (go_big_quiet_step (fail))
                  all_goals refine wpQuiet_nil ?_
                  all_goals exact rfl
                · simp only [List.drop_succ_cons, List.drop_zero]
                  replace og := og.below hu
                  replace hw := Below.hop hw hu
                  replace hz := hw.size
                  clear hu
                  refine late_nil ?_
                  (try simp only [Act.put, List.setIfInBounds_toArray, List.set_cons_zero, List.set_cons_succ])
                  have ogc := og.cell
                  have ogf := og.thaw
                  have ogz := og.lt
                  have HROW2 := Lib.hid (HROW.out.below hw)
                  have HUPD2 := Lib.hid (HUPD.out.hop hw)
                  have gk := HC2.out kk (by rw [HM2.out]; omega)
                  obtain ⟨k1, k2, k3⟩ := gk
                  have ek1 := (ogc _).trans k1
                  have ek2 := (ogc _).trans k2
                  have ek3 := (ogc _).trans k3
                  have ea1 := (ogc _).trans a1
                  have ea2 := (ogc _).trans a2
                  have ea3 := (ogc _).trans a3
                  clear HROW HUPD og ogc b1 b2 b3 a1 a2 a3 k1 k2 k3
                  go_wp2
                  go_roundw
                  case rel =>
                    refine ⟨kk + 1, r + 1, M2.set kk ⟨u0, u1, u2⟩, by first | go_num | simp, by first | go_num | simp, by omega, by omega, by omega, by rw [List.length_set]; exact HM2.out, fun i hi => ?_, ?_, HROW2.out.set (by rw [HM2.out]; omega) u0 u1 u2, ((HUPD2.out.set (by simp) _).set (by simp) _).set (by simp) _⟩
                    · rw [vAt_set (by rw [HM2.out]; omega), if_neg (by omega)]; exact HHI.out i (by omega)
                    · have hl : kk < M2.length := by rw [HM2.out]; omega
                      have e1 : (M2.set kk ⟨u0, u1, u2⟩).take (kk + 1) = (M2.set kk ⟨u0, u1, u2⟩).take kk ++ [(M2.set kk ⟨u0, u1, u2⟩)[kk]'(by simpa using hl)] := List.take_succ_eq_append_getElem (by simpa using hl)
                      rw [e1, List.take_set_of_le (Nat.le_refl _), List.getElem_set_self, HTAKE.out, show p + 1 + (r + 1) + 1 = p + 1 + r + 1 + 1 by omega, cpK_other HNE2.out]
                      rw [show p + 1 + r + 1 = p + 1 + (r + 1) by omega, HX.out]
                  case measure => simp [intOf]; omega
            · obtain rfl : q = r + 1 := by omega
              have hkn : kk < n := by omega
              have hcl : ∀ ty, (Builtin.clear_ #[24] ty #[.slice (some ⟨g, kk * 3, none⟩) (n - kk) (cap - kk)]).run Try.prog wr = .ok (.tuple #[]) (wr.setCells g (kk * 3) (List.replicate ((n - kk) * 3) (.int .i64 0))) := fun ty => run_clear_vecs wr _ _ ty Try.underlying24 Try.zeroValue31 g (kk * 3) _ _ (by omega) (fun j hj => by
                obtain ⟨i, c, hc3, e⟩ : ∃ i c, c < 3 ∧ kk * 3 + j = i * 3 + c := ⟨(kk * 3 + j) / 3, (kk * 3 + j) % 3, by omega, by omega⟩
                rw [ogc, e]
                obtain ⟨h1, h2, h3⟩ := HC2.out i (by rw [HM2.out]; omega)
                rcases (show c = 0 ∨ c = 1 ∨ c = 2 by omega) with rfl | rfl | rfl
                · rw [Nat.add_zero, h1]; rfl
                · rw [h2]; rfl
                · rw [h3]; rfl) (fun j hj => ogf _)
              obtain ⟨cs3, ow3, hlo3, hup3⟩ := own_setCells (List.replicate ((n - kk) * 3) (.int .i64 0)) (kk * 3) og
              have HO3 := Lib.hid ow3
              have HL3 := Lib.hid hlo3
              have HU3 := Lib.hid hup3
              clear ow3 hlo3 hup3
              have hkc : (kk : Int) < (cap : Int) := by omega
              have hkk0 : (0 : Int) ≤ (kk : Int) := by omega
              clear og ogc ogf ogz hw hz
              have hlen : (cpK M (p + 1 + r + 1)).length = kk := by rw [← HTAKE.out, List.length_take, HM2.out]; omega
              have HLEN := Lib.hid hlen
              clear hlen
              have hqn : Hid (n = p + 1 + r + 1) := Lib.hid (by omega)
              clear hq3 hcq3 hqi hcqi
              go_wp2
              go_ret
              have hL : (cpK M n).length = kk := by rw [hqn.out]; exact HLEN.out
              have hT : M2.take kk = cpK M n := by rw [hqn.out]; exact HTAKE.out
              rw [hL]
              refine ⟨rfl, ⟨cs3, HO3.out, fun i hi => ?_⟩, HUPD.out.trans HU3.out⟩
              rw [hL] at hi
              rw [HL3.out _ (by omega), HL3.out _ (by omega), HL3.out _ (by omega), ← hT, vAt_take hi]
              exact HC2.out i (by rw [HM2.out]; omega)
      · have HNE : Hid (¬ vAt M (p + 1) = vAt M p) := Lib.hid (by rw [HX.out, HY.out]; exact heq)
        have HD := Lib.hid (V3.ne_cases heq)
        clear heq
        go_wp2
        refine region_late 10 [] (by kernel_rfl) (by kernel_rfl) (by rfl) ?_
        apply Exists.intro
        refine ⟨fun v hv hne => ?_, fun u1 hu => ?_⟩
        · simp only [List.take_succ_cons, List.take_zero]
          have dog := fun x => (og.later (v := v) (T := []) (by first | (simp; done) | (simp; omega)) x).cell
          have da1 := fun x => (dog x _).trans a1
          have da2 := fun x => (dog x _).trans a2
          have da3 := fun x => (dog x _).trans a3
          have db1 := fun x => (dog x _).trans b1
          have db2 := fun x => (dog x _).trans b2
          have db3 := fun x => (dog x _).trans b3
          rcases HD.out with hd | hd | hd
          all_goals repeat (go_big_quiet_step (fail))
          all_goals refine wpQuiet_nil ?_
          all_goals exact rfl
        · simp only [List.drop_succ_cons, List.drop_zero]
          replace og := og.below hu
          replace hw := Below.hop hw hu
          replace hz := hw.size
          clear hu
          refine late_nil ?_
          (try simp only [Act.put, List.setIfInBounds_toArray, List.set_cons_zero, List.set_cons_succ])
          have ogc := og.cell
          have ogf := og.thaw
          have ogz := og.lt
          have HROW2 := Lib.hid (HROW.out.below hw)
          have HBW2 := Lib.hid (Below.hop HBW.out hw)
          clear HROW HBW og ogc ogf ogz a1 a2 a3 b1 b2 b3
          go_wp2
          go_roundw
          case rel => exact ⟨p + 1, by omega, by first | go_num | simp, HROW2.out, HBW2.out, fun j hj => (Decidable.em (j = p)).elim (fun e => by subst e; exact HNE.out) (fun e => HALL.out j (by omega))⟩
          case measure => simp [intOf]; omega
    · have hlt2 : ¬ (p : Int) + 1 < (n : Int) := by omega
      obtain rfl : n = p + 1 := by omega
      have e : cpK M (p + 1) = M := by rw [cpK_take (p + 1) (by rw [HN.out]; omega) (fun j hj => HALL.out j (by omega)), List.take_of_length_le (by rw [HN.out]; omega)]
      have HE := Lib.hid e
      clear e og ogc ogf ogz hw hz
      go_wp2
      go_ret
      rw [HE.out, HN.out]
      exact ⟨rfl, HROW.out, Upd.of_below HBW.out⟩
end Go.Proofs.Ytccnlnkgoaelpaa
