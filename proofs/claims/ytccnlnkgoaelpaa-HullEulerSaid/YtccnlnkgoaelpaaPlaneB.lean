/- What In, Prim, Valid and their helpers in package plane and in its reference return. -/
import Derived.Test.YtccnlnkgoaelpaaPlaneA
import Derived.Test.YtccnlnkgoaelpaaLate
namespace Go.Proofs.Ytccnlnkgoaelpaa
open Go.RowKit

set_option maxHeartbeats 400000 in
theorem plane_within (m : Int) (b : Nat) (zs : List Int) (w : World) (h0 : 0 ≤ m) (h1 : m ≤ 1000000000) (hl : zs.length ≤ 1000)
    (hc : ∀ i, i < zs.length → w.cell? ⟨b, i, none⟩ = some (.int .i64 (zs.getD i 0))) :
    Calls Try.prog 32 #[.int .i64 m, .slice (some ⟨b, 0, none⟩) zs.length zs.length] w fun r w' => r = .returned (.bool (zs.all (inB m))) ∧ w = w' := by
  go_enter Try.func32, Try.ntmps32
  go_wp2
  go_loop [9] (fun i => ∃ k : Nat, k ≤ zs.length ∧ i = .int .i64 k ∧ (zs.take k).all (inB m) = true) (fun i => zs.length - (intOf i).toNat)
  case atStart => exact ⟨0, by omega, rfl, by simp⟩
  case round =>
    obtain ⟨k, hk, rfl, hall⟩ := hrel
    by_cases hlt : k < zs.length
    · have hcell := hc k hlt
      go_wp2
      · go_ret
        exact ⟨ret_bool (all_false_at hlt (by unfold inB; simp; omega)).symm, rfl⟩
      · go_round
        case rel => exact ⟨k + 1, by omega, by go_num, all_take_succ hlt hall (by unfold inB; simp; omega)⟩
        case measure => simp [intOf]; omega
      · go_ret
        exact ⟨ret_bool (all_false_at hlt (by unfold inB; simp; omega)).symm, rfl⟩
    · go_wp2
      go_ret
      exact ⟨ret_bool (by rw [List.take_of_length_le (by omega)] at hall; exact hall.symm), rfl⟩

theorem plane_within3 (m x y z : Int) (b : Nat) (w : World) (h0 : 0 ≤ m) (h1 : m ≤ 1000000000)
    (c0 : w.cell? ⟨b, 0, none⟩ = some (.int .i64 x)) (c1 : w.cell? ⟨b, 1, none⟩ = some (.int .i64 y)) (c2 : w.cell? ⟨b, 2, none⟩ = some (.int .i64 z)) :
    Calls Try.prog 32 #[.int .i64 m, .slice (some ⟨b, 0, none⟩) 3 3] w fun r w' => r = .returned (.bool (inB m x && (inB m y && inB m z))) ∧ w = w' := by
  have h := plane_within m b [x, y, z] w h0 h1 (by simp) (by
    intro i hi
    match i, hi with
    | 0, _ => exact c0
    | 1, _ => exact c1
    | 2, _ => exact c2)
  simpa using h
theorem plane_within1 (m x : Int) (b : Nat) (w : World) (h0 : 0 ≤ m) (h1 : m ≤ 1000000000) (c0 : w.cell? ⟨b, 0, none⟩ = some (.int .i64 x)) :
    Calls Try.prog 32 #[.int .i64 m, .slice (some ⟨b, 0, none⟩) 1 1] w fun r w' => r = .returned (.bool (inB m x)) ∧ w = w' := by
  have h := plane_within m b [x] w h0 h1 (by simp) (by
    intro i hi
    match i, hi with
    | 0, _ => exact c0)
  simpa using h

set_option maxHeartbeats 400000 in
theorem plane_In (x y z : Int) (w : World) :
    Calls Try.prog 35 #[vV x y z] w fun r w' => r = .returned (.bool (vIn ⟨x, y, z⟩)) ∧ Below w.heap.size w w' := by
  go_enter Try.func35, Try.ntmps35
  go_wp2_with (go_at_call 32; refine (plane_within3 _ x y z _ _ (by decide) (by decide) (by simp) (by simp) (by simp)).mono ?_; rintro e w' ⟨rfl, rfl⟩)
  go_ret
  exact ⟨rfl, (by repeat' (first | exact Below.refl _ _ | assumption | (refine Below.alloc ?_ ?_ _; rotate_left; (focus (first | rfl | omega | (simp; done) | (simp; omega)))) | (refine Below.setCell ?_ ?_ _; rotate_left; (focus (first | rfl | omega | (simp; done) | (simp; omega)))) | refine Below.drew ?_))⟩

theorem vIn_list (x y z : Int) : vIn ⟨x, y, z⟩ = [x, y, z].all (inB 24) := by simp [vIn]

set_option maxHeartbeats 400000 in
theorem ref7_In (x y z : Int) (w : World) :
    Calls Try.prog 61 #[vV x y z] w fun r w' => r = .returned (.bool (vIn ⟨x, y, z⟩)) ∧ Below w.heap.size w w' := by
  go_enter Try.func61, Try.ntmps61
  go_wp2_with fail
  refine (ref7_components _ _ _ _).mono ?_; rintro e w1 ⟨rfl, hb1⟩
  have hs1 := hb1.size
  (try simp at hs1)
  have hw1 : Below w.heap.size w w1 := Below.hop (by repeat' (first | exact Below.refl _ _ | assumption | (refine Below.alloc ?_ ?_ _; rotate_left; (focus (first | rfl | omega | (simp; done) | (simp; omega)))) | (refine Below.setCell ?_ ?_ _; rotate_left; (focus (first | rfl | omega | (simp; done) | (simp; omega)))) | refine Below.drew ?_)) hb1
  have hz1 := hw1.size
  clear hb1
  go_wp2
  have key : ∀ k : Nat, k < 3 → ((w1.alloc (.cells #[.int .i64 x, .int .i64 y, .int .i64 z] 97))).cell? ⟨w1.heap.size, k, none⟩ = some (.int .i64 ([x, y, z].getD k 0)) := by
    intro k hk
    match k, hk with
    | 0, _ => simp
    | 1, _ => simp
    | 2, _ => simp
  go_loop [4] (fun i => ∃ k : Nat, k ≤ 3 ∧ i = .int .i64 k ∧ ([x, y, z].take k).all (inB 24) = true) (fun i => 3 - (intOf i).toNat)
  case atStart => exact ⟨0, by omega, rfl, by simp⟩
  case round =>
    obtain ⟨k, hk, rfl, hall⟩ := hrel
    by_cases hlt : k < 3
    · have hcell := key k hlt
      have hk3 : (k : Int) < 3 := by omega
      have hlt' : k < [x, y, z].length := hlt
      go_wp2
      · go_ret
        exact ⟨ret_bool ((all_false_at (p := inB 24) hlt' (by unfold inB; simp only [Bool.and_eq_false_iff, decide_eq_false_iff_not]; omega)).symm.trans (vIn_list x y z).symm), (by repeat' (first | exact Below.refl _ _ | assumption | (refine Below.alloc ?_ ?_ _; rotate_left; (focus (first | rfl | omega | (simp; done) | (simp; omega)))) | (refine Below.setCell ?_ ?_ _; rotate_left; (focus (first | rfl | omega | (simp; done) | (simp; omega)))) | refine Below.drew ?_))⟩
      · go_round
        case rel => exact ⟨k + 1, by omega, by go_num, all_take_succ hlt' hall (by unfold inB; simp only [Bool.and_eq_true, decide_eq_true_eq]; omega)⟩
        case measure => simp [intOf]; omega
      · go_ret
        exact ⟨ret_bool ((all_false_at (p := inB 24) hlt' (by unfold inB; simp only [Bool.and_eq_false_iff, decide_eq_false_iff_not]; omega)).symm.trans (vIn_list x y z).symm), (by repeat' (first | exact Below.refl _ _ | assumption | (refine Below.alloc ?_ ?_ _; rotate_left; (focus (first | rfl | omega | (simp; done) | (simp; omega)))) | (refine Below.setCell ?_ ?_ _; rotate_left; (focus (first | rfl | omega | (simp; done) | (simp; omega)))) | refine Below.drew ?_))⟩
    · go_wp2
      go_ret
      exact ⟨ret_bool (by rw [List.take_of_length_le (by simp; omega)] at hall; exact hall.symm.trans (vIn_list x y z).symm), (by repeat' (first | exact Below.refl _ _ | assumption | (refine Below.alloc ?_ ?_ _; rotate_left; (focus (first | rfl | omega | (simp; done) | (simp; omega)))) | (refine Below.setCell ?_ ?_ _; rotate_left; (focus (first | rfl | omega | (simp; done) | (simp; omega)))) | refine Below.drew ?_))⟩

theorem below_drewN {B : Nat} {a w : World} (h : Below B a w) (n : Nat) : Below B a (w.drewN n) := ⟨h.os, h.tape, h.output, h.size, h.block⟩
theorem iabs_nat (n : Int) (h : I64 n) (hm : (n == -9223372036854775808) = false) : iabs n = (n.natAbs : Nat) ∧ n.natAbs ≤ 9223372036854775807 := by
  have hm' : n ≠ -9223372036854775808 := by simpa using hm
  obtain ⟨h0, h1⟩ := h
  refine ⟨?_, by omega⟩
  unfold iabs wrap64
  split <;> omega
theorem plane_abs' (x : Int) (hx : I64 x) (hm : (x == -9223372036854775808) = false) (w : World) :
    Calls Try.prog 56 #[.int .i64 x] w fun r w' => r = .returned (.int .i64 (x.natAbs : Nat)) ∧ w = w' := by
  rw [← (iabs_nat x hx hm).1]; exact plane_absolute x hx w
theorem ref7_abs' (x : Int) (hx : I64 x) (hm : (x == -9223372036854775808) = false) (w : World) :
    Calls Try.prog 82 #[.int .i64 x] w fun r w' => r = .returned (.int .i64 (x.natAbs : Nat)) ∧ w = w' := by
  rw [← (iabs_nat x hx hm).1]; exact ref7_absolute x w
theorem gcdL_snoc (l : List Int) (n : Int) : ∀ g, gcdL (l ++ [n]) g = Nat.gcd (gcdL l g) n.natAbs := by
  induction l with
  | nil => intro g; rfl
  | cons a l ih => intro g; exact ih _
theorem gcdL_take {zs : List Int} {k : Nat} (h : k < zs.length) : gcdL (zs.take (k + 1)) 0 = Nat.gcd (gcdL (zs.take k) 0) zs[k].natAbs := by
  rw [List.take_succ_eq_append_getElem h, gcdL_snoc]
theorem any_at {p : Int → Bool} {l : List Int} {k : Nat} (h : k < l.length) (hp : p l[k] = true) : l.any p = true := by
  rw [List.any_eq_true]
  exact ⟨l[k], List.getElem_mem h, hp⟩
theorem any_take_succ {p : Int → Bool} {l : List Int} {k : Nat} (h : k < l.length) (h1 : (l.take k).any p = false) (hp : p l[k] = false) : (l.take (k + 1)).any p = false := by
  rw [List.take_succ_eq_append_getElem h, List.any_append, h1]
  simp [hp]
/-- One round of Euclid's loop, as Go reckons it. -/
theorem tmod_nat (a b : Nat) : ((a : Int).tmod (b : Int)) = ((a % b : Nat) : Int) := by
  rw [Int.ofNat_tmod]

set_option maxHeartbeats 400000 in
theorem plane_divisor (b : Nat) (zs : List Int) (w : World) (hl : zs.length ≤ 1000) (hz : ∀ i, i < zs.length → I64 (zs.getD i 0))
    (hc : ∀ i, i < zs.length → w.cell? ⟨b, i, none⟩ = some (.int .i64 (zs.getD i 0))) :
    Calls Try.prog 33 #[.slice (some ⟨b, 0, none⟩) zs.length zs.length] w fun r w' => r = .returned (.int .i64 (divL zs)) ∧ Below w.heap.size w w' := by
  go_enter Try.func33, Try.ntmps33
  go_wp2
  go_loopw [3, 8] (fun g i wr => ∃ k d : Nat, k ≤ zs.length ∧ i = .int .i64 k ∧ g = .int .i64 d ∧ d ≤ 9223372036854775807 ∧ d = gcdL (zs.take k) 0 ∧ (zs.take k).any minI = false ∧ Below w.heap.size w wr ∧ (∀ p, wr.cell? p = w.cell? p)) (fun _ i _ => zs.length - (intOf i).toNat)
  case atStart => exact ⟨0, 0, by omega, rfl, rfl, by omega, by simp [gcdL], by simp, Below.refl _ _, fun _ => rfl⟩
  case round =>
    obtain ⟨k, d, hk, rfl, rfl, hd, hgcd, hany, hbel, hcel⟩ := hrel
    have hG := Lib.hid hgcd
    clear hgcd
    have hA := Lib.hid hany
    clear hany
    by_cases hlt : k < zs.length
    · have hcell : wr.cell? ⟨b, k, none⟩ = some (.int .i64 (zs.getD k 0)) := (hcel _).trans (hc k hlt)
      have hbd : I64 zs[k] := by have := hz k hlt; simpa [hlt] using this
      have hH := Lib.hid hcel
      clear hcel
      have hlt2 : k < zs.length := hlt
      by_cases hm : zs[k] = -9223372036854775808
      · have hm1 : (zs[k] == -9223372036854775808) = true := by simpa using hm
        clear hm
        have hM := Lib.hid (show minI zs[k] = true from hm1)
        go_wp2
        go_ret
        exact ⟨ret_int (by unfold divL; rw [any_at hlt2 hM.out]; rfl), hbel⟩
      · have hm1 : (zs[k] == -9223372036854775808) = false := by simpa using hm
        clear hm
        have hM := Lib.hid (show minI zs[k] = false from hm1)
        have hle := (iabs_nat _ hbd hm1).2
        go_wp2_with (go_at_call 56; refine (plane_abs' _ hbd hm1 _).mono ?_; rintro e w' ⟨rfl, rfl⟩)
        have hD : d ≤ 9223372036854775807 ∧ zs[k].natAbs ≤ 9223372036854775807 := ⟨hd, hle⟩
        go_loopw [3, 5] (fun g n wq => ∃ a c : Nat, g = .int .i64 a ∧ n = .int .i64 c ∧ a ≤ 9223372036854775807 ∧ c ≤ 9223372036854775807 ∧ Nat.gcd a c = Nat.gcd d zs[k].natAbs ∧ Below w.heap.size w wq ∧ (∀ p, wq.cell? p = w.cell? p)) (fun _ n _ => (intOf n).toNat)
        case atStart => exact ⟨d, _, rfl, rfl, hD.1, hD.2, rfl, hbel, hH.out⟩
        case round =>
          obtain ⟨a, c, rfl, rfl, ha, hcc, hgc, hbel2, hcel2⟩ := hrel
          have hG2 := Lib.hid hgc
          clear hgc
          have hH2 := Lib.hid hcel2
          clear hcel2
          by_cases hc0 : 0 < c
          · have hc1 : (0 : Int) < (c : Int) := by omega
            have hne : ((c : Int) == 0) = false := by simp; omega
            go_wp2
            go_quiet (fail)
            go_wp2
            go_roundw
            case rel => exact ⟨c, a % c, rfl, by go_num, hcc, Nat.le_trans (Nat.le_of_lt (Nat.mod_lt _ hc0)) hcc, by rw [← hG2.out, Nat.gcd_comm c, ← Nat.gcd_rec, Nat.gcd_comm], below_drewN hbel2 _, fun p => hH2.out p⟩
            case measure => have := Nat.mod_lt a hc0; simp [intOf]; omega
          · have hc2 : c = 0 := by omega
            subst hc2
            go_wp2
            go_roundw
            case rel => exact ⟨k + 1, a, by omega, by go_num, rfl, ha, by rw [gcdL_take hlt2, ← hG.out, ← hG2.out, Nat.gcd_zero_right], any_take_succ hlt2 hA.out hM.out, hbel2, fun p => hH2.out p⟩
            case measure => simp [intOf]; omega
    · go_wp2
      go_ret
      exact ⟨ret_int (by rw [List.take_of_length_le (by omega)] at hG hA; unfold divL; rw [hA.out, hG.out]; rfl), hbel⟩
theorem plane_divisor3 (x y z : Int) (b : Nat) (w : World) (hx : I64 x) (hy : I64 y) (hz : I64 z)
    (c0 : w.cell? ⟨b, 0, none⟩ = some (.int .i64 x)) (c1 : w.cell? ⟨b, 1, none⟩ = some (.int .i64 y)) (c2 : w.cell? ⟨b, 2, none⟩ = some (.int .i64 z)) :
    Calls Try.prog 33 #[.slice (some ⟨b, 0, none⟩) 3 3] w fun r w' => r = .returned (.int .i64 (vGcd ⟨x, y, z⟩)) ∧ Below w.heap.size w w' := by
  have h := plane_divisor b [x, y, z] w (by simp) (by
    intro i hi
    match i, hi with
    | 0, _ => exact hx
    | 1, _ => exact hy
    | 2, _ => exact hz) (by
    intro i hi
    match i, hi with
    | 0, _ => exact c0
    | 1, _ => exact c1
    | 2, _ => exact c2)
  have e : divL [x, y, z] = vGcd ⟨x, y, z⟩ := by simp [divL, vGcd, gcdL]
  rw [e] at h
  exact h

set_option maxHeartbeats 400000 in
theorem plane_Prim (x y z : Int) (hx : I64 x) (hy : I64 y) (hz : I64 z) (w : World) :
    Calls Try.prog 70 #[vV x y z] w fun r w' => r = .returned (.tuple #[(vPrim ⟨x, y, z⟩).v, .int .i64 (vGcd ⟨x, y, z⟩)]) ∧ Below w.heap.size w w' := by
  go_enter Try.func70, Try.ntmps70
  go_wp2_with fail
  refine Calls.mono (plane_divisor3 x y z _ _ hx hy hz ?_ ?_ ?_) ?_
  · simp [go_sem]
  · simp [go_sem]
  · simp [go_sem]
  rintro e w1 ⟨rfl, hb1⟩
  have o1 : Own w1 (w.heap.size) #[.int .i64 x, .int .i64 y, .int .i64 z] := Own.below (by repeat' (first | ((refine Own.new ?_); (focus (first | rfl | omega | (simp; done) | (simp; omega)))) | assumption | refine Own.alloc ?_ _ | refine Own.drew ?_ | (refine Own.far ?_ ?_ _; rotate_left; (focus (first | rfl | omega | (simp; done) | (simp; omega)))))) hb1
  have o1c := o1.cell
  have o1f := o1.thaw
  have o1z := o1.lt
  have o2 : Own w1 (w.heap.size + 1) #[.int .i64 0, .int .i64 0, .int .i64 0] := Own.below (by repeat' (first | ((refine Own.new ?_); (focus (first | rfl | omega | (simp; done) | (simp; omega)))) | assumption | refine Own.alloc ?_ _ | refine Own.drew ?_ | (refine Own.far ?_ ?_ _; rotate_left; (focus (first | rfl | omega | (simp; done) | (simp; omega)))))) hb1
  have o2c := o2.cell
  have o2f := o2.thaw
  have o2z := o2.lt
  have hs1 := hb1.size
  (try simp at hs1)
  have hw1 : Below w.heap.size w w1 := Below.hop (by repeat' (first | exact Below.refl _ _ | assumption | (refine Below.alloc ?_ ?_ _; rotate_left; (focus (first | rfl | omega | (simp; done) | (simp; omega)))) | (refine Below.setCell ?_ ?_ _; rotate_left; (focus (first | rfl | omega | (simp; done) | (simp; omega)))) | refine Below.drew ?_)) hb1
  have hz1 := hw1.size
  clear hb1
  by_cases hg : vGcd ⟨x, y, z⟩ = 0
  · have hg1 : (vGcd ⟨x, y, z⟩ == 0) = true := by simpa using hg
    have hg0 := Lib.hid hg
    clear hg
    go_wp2
    refine bodyPost_ret (v := .tuple #[(vPrim ⟨x, y, z⟩).v, .int .i64 (vGcd ⟨x, y, z⟩)]) (by simp [results, Try.results70, go_sem, vPrim, hg0.out, o2c]) rfl ⟨rfl, (by repeat' (first | exact Below.refl _ _ | assumption | (refine Below.alloc ?_ ?_ _; rotate_left; (focus (first | rfl | omega | (simp; done) | (simp; omega)))) | (refine Below.setCell ?_ ?_ _; rotate_left; (focus (first | rfl | omega | (simp; done) | (simp; omega)))) | refine Below.drew ?_))⟩
  · have hg1 : (vGcd ⟨x, y, z⟩ == 0) = false := by simpa using hg
    go_wp2
    refine region_late 14 [w.heap.size + 1] (by kernel_rfl) (by kernel_rfl) (by rfl) ?_
    apply Exists.intro
    refine ⟨fun v hv hne => ?_, fun u hu => ?_⟩
    · simp only [List.take_succ_cons, List.take_zero]
      have d0 := fun x : Later [w.heap.size + 1] w1 v => (o1.later (by simp) x).cell
      repeat (go_big_quiet_step (fail))
      refine wpQuiet_nil ?_
      exact rfl
    · simp only [List.drop_succ_cons, List.drop_zero]
      have p2 : Own u (w.heap.size + 1) #[.int .i64 0, .int .i64 0, .int .i64 0] := Own.below (by repeat' (first | ((refine Own.new ?_); (focus (first | rfl | omega | (simp; done) | (simp; omega)))) | assumption | refine Own.alloc ?_ _ | refine Own.drew ?_ | (refine Own.far ?_ ?_ _; rotate_left; (focus (first | rfl | omega | (simp; done) | (simp; omega)))))) hu
      have p2c := p2.cell
      have p2f := p2.thaw
      have p2z := p2.lt
      refine late_mem (fun K hK => ?_)
      go_simp
      refine hK _ _ ((((Keeps.of_below hu).set (by simp) _).set (by simp) _).set (by simp) _) (fun u2 hu2 => ?_)
      clear hK K
      have q2 : Own u2 (w.heap.size + 1) #[.int .i64 _, .int .i64 _, .int .i64 _] := (((p2.set 0 _).set 1 _).set 2 _).below hu2
      have q2c := q2.cell
      have q2f := q2.thaw
      have q2z := q2.lt
      refine late_mem (fun K hK => ?_)
      go_simp
      refine hK _ _ ((((Keeps.of_below hu).set (by simp) _).set (by simp) _).set (by simp) _ |>.later hu2) (fun u3 hu3 => ?_)
      clear hK K
      have r2 : Own u3 (w.heap.size + 1) #[.int .i64 _, .int .i64 _, .int .i64 _] := q2.below hu3
      have r2c := r2.cell
      have r2f := r2.thaw
      have r2z := r2.lt
      refine late_nil ?_
      go_wp2
      refine bodyPost_ret (v := .tuple #[(vPrim ⟨x, y, z⟩).v, .int .i64 (vGcd ⟨x, y, z⟩)]) (by simp [results, Try.results70, go_sem, vPrim, hg, vDiv, r2c]) rfl ⟨rfl, ?_⟩
      exact Below.hop (Below.hop ((((Below.hop hw1 hu).setCell (by simp) _).setCell (by simp) _).setCell (by simp) _) hu2) hu3

theorem divL_vGcd (x y z : Int) : divL [x, y, z] = vGcd ⟨x, y, z⟩ := by simp [divL, vGcd, gcdL]
theorem vGcd_min {x y z : Int} (k : Nat) (h : k < [x, y, z].length) (hm : minI [x, y, z][k] = true) : vGcd ⟨x, y, z⟩ = 0 := by
  rw [← divL_vGcd]; unfold divL; rw [any_at h hm]; rfl
theorem vGcd_of {x y z : Int} {d : Nat} (h : d = gcdL [x, y, z] 0) (hm : [x, y, z].any minI = false) : vGcd ⟨x, y, z⟩ = (d : Int) := by
  rw [← divL_vGcd]; unfold divL; rw [hm, h]; rfl
theorem row3 {x y z : Int} {k : Nat} (h : k < [x, y, z].length) : #[Value.int .i64 x, Value.int .i64 y, Value.int .i64 z][k]? = some (.int .i64 [x, y, z][k]) := by
  match k, h with
  | 0, _ => rfl
  | 1, _ => rfl
  | 2, _ => rfl

set_option maxHeartbeats 1000000 in
theorem ref7_Prim (x y z : Int) (hx : I64 x) (hy : I64 y) (hz : I64 z) (w : World) :
    Calls Try.prog 62 #[vV x y z] w fun r w' => r = .returned (.tuple #[(vPrim ⟨x, y, z⟩).v, .int .i64 (vGcd ⟨x, y, z⟩)]) ∧ Below w.heap.size w w' := by
  have hzs : ∀ k (h : k < [x, y, z].length), I64 [x, y, z][k] := by
    intro k h
    match k, h with
    | 0, _ => exact hx
    | 1, _ => exact hy
    | 2, _ => exact hz
  have HZS := Lib.hid hzs
  clear hzs
  go_enter Try.func62, Try.ntmps62
  go_wp2_with fail
  refine (ref7_components _ _ _ _).mono ?_; rintro e w1 ⟨rfl, hb1⟩
  have o1 : Own w1 (w.heap.size) #[.int .i64 x, .int .i64 y, .int .i64 z] := Own.below (by repeat' (first | ((refine Own.new ?_); (focus (first | rfl | omega | (simp; done) | (simp; omega)))) | assumption | refine Own.alloc ?_ _ | refine Own.drew ?_ | (refine Own.far ?_ ?_ _; rotate_left; (focus (first | rfl | omega | (simp; done) | (simp; omega)))))) hb1
  have o1c := o1.cell
  have o1f := o1.thaw
  have o1z := o1.lt
  have o2 : Own w1 (w.heap.size + 1) #[.int .i64 0, .int .i64 0, .int .i64 0] := Own.below (by repeat' (first | ((refine Own.new ?_); (focus (first | rfl | omega | (simp; done) | (simp; omega)))) | assumption | refine Own.alloc ?_ _ | refine Own.drew ?_ | (refine Own.far ?_ ?_ _; rotate_left; (focus (first | rfl | omega | (simp; done) | (simp; omega)))))) hb1
  have o2c := o2.cell
  have o2f := o2.thaw
  have o2z := o2.lt
  have hs1 := hb1.size
  (try simp at hs1)
  have hw1 : Below w.heap.size w w1 := Below.hop (by repeat' (first | exact Below.refl _ _ | assumption | (refine Below.alloc ?_ ?_ _; rotate_left; (focus (first | rfl | omega | (simp; done) | (simp; omega)))) | (refine Below.setCell ?_ ?_ _; rotate_left; (focus (first | rfl | omega | (simp; done) | (simp; omega)))) | refine Below.drew ?_)) hb1
  have hz1 := hw1.size
  clear hb1
  go_wp2
  have p1 := o1.alloc (.cells #[.int .i64 x, .int .i64 y, .int .i64 z] 97)
  have p2 := o2.alloc (.cells #[.int .i64 x, .int .i64 y, .int .i64 z] 97)
  have p3 : Own (w1.alloc (.cells #[.int .i64 x, .int .i64 y, .int .i64 z] 97)) w1.heap.size #[.int .i64 x, .int .i64 y, .int .i64 z] := Own.new rfl
  have hw2 := hw1.alloc (by omega) (.cells #[.int .i64 x, .int .i64 y, .int .i64 z] 97)
  clear o1c o1f o2c o2f o1 o2 hw1
  generalize w1.alloc (.cells #[.int .i64 x, .int .i64 y, .int .i64 z] 97) = w2 at *
  go_loopw [5, 6, 7] (fun g i _ wr => ∃ k d : Nat, k ≤ 3 ∧ i = .int .i64 k ∧ g = .int .i64 d ∧ d ≤ 9223372036854775807 ∧ d = gcdL ([x, y, z].take k) 0 ∧ ([x, y, z].take k).any minI = false ∧ Below w2.heap.size w2 wr) (fun _ i _ _ => 3 - (intOf i).toNat)
  case atStart => exact ⟨0, 0, by omega, rfl, rfl, by omega, by simp [gcdL], by simp, Below.refl _ _⟩
  case round =>
    obtain ⟨k, d, hk, rfl, rfl, hd, hgcd, hany, hbel⟩ := hrel
    have hG := Lib.hid hgcd
    clear hgcd
    have hA := Lib.hid hany
    clear hany
    have q1 : Own wr (w.heap.size) _ := p1.below hbel
    have q1c := q1.cell
    have q1f := q1.thaw
    have q1z := q1.lt
    have q2 : Own wr (w.heap.size + 1) _ := p2.below hbel
    have q2c := q2.cell
    have q2f := q2.thaw
    have q2z := q2.lt
    have q3 := p3.below hbel
    have q3z := q3.lt
    have hww := Below.hop hw2 hbel
    by_cases hlt : k < 3
    · have hlt2 : k < [x, y, z].length := hlt
      have hk3 : (k : Int) < 3 := by omega
      have hcell : wr.cell? ⟨w1.heap.size, k, none⟩ = some (.int .i64 [x, y, z][k]) := (q3.cell k).trans (row3 hlt2)
      by_cases hm : [x, y, z][k] = -9223372036854775808
      · have hm1 : ([x, y, z][k] == -9223372036854775808) = true := by simpa using hm
        clear hm
        have hM := Lib.hid (vGcd_min k hlt2 hm1)
        go_wp2
        refine bodyPost_ret (v := .tuple #[(vPrim ⟨x, y, z⟩).v, .int .i64 (vGcd ⟨x, y, z⟩)]) (by simp [results, Try.results62, go_sem, vPrim, hM.out, q2c]) rfl ⟨rfl, (by repeat' (first | exact Below.refl _ _ | assumption | (refine Below.alloc ?_ ?_ _; rotate_left; (focus (first | rfl | omega | (simp; done) | (simp; omega)))) | (refine Below.setCell ?_ ?_ _; rotate_left; (focus (first | rfl | omega | (simp; done) | (simp; omega)))) | refine Below.drew ?_))⟩
      · have hm1 : ([x, y, z][k] == -9223372036854775808) = false := by simpa using hm
        clear hm
        have hM := Lib.hid (show minI [x, y, z][k] = false from hm1)
        have hbd := HZS.out k hlt2
        have hle := (iabs_nat _ hbd hm1).2
        go_wp2_with (go_at_call 82; refine (ref7_abs' _ hbd hm1 _).mono ?_; rintro e w' ⟨rfl, rfl⟩)
        have hD : d ≤ 9223372036854775807 ∧ [x, y, z][k].natAbs ≤ 9223372036854775807 := ⟨hd, hle⟩
        obtain ⟨wo, rfl⟩ : ∃ wo : World, wo = wr := ⟨_, rfl⟩
        clear q1c q1f q2c q2f
        go_loopw [5, 7] (fun g n wr => ∃ a c : Nat, g = .int .i64 a ∧ n = .int .i64 c ∧ a ≤ 9223372036854775807 ∧ c ≤ 9223372036854775807 ∧ Nat.gcd a c = Nat.gcd d [x, y, z][k].natAbs ∧ Below w2.heap.size w2 wr) (fun _ n _ => (intOf n).toNat)
        case atStart => exact ⟨d, _, rfl, rfl, hD.1, hD.2, rfl, hbel⟩
        case round =>
          obtain ⟨a, c, rfl, rfl, ha, hcc, hgc, hbel2⟩ := hrel
          have hG2 := Lib.hid hgc
          clear hgc
          by_cases hc0 : 0 < c
          · have hc1 : (0 : Int) < (c : Int) := by omega
            have hne : ((c : Int) == 0) = false := by simp; omega
            go_wp2
            go_quiet (fail)
            go_wp2
            go_roundw
            case rel => exact ⟨c, a % c, rfl, by go_num, hcc, Nat.le_trans (Nat.le_of_lt (Nat.mod_lt _ hc0)) hcc, by rw [← hG2.out, Nat.gcd_comm c, ← Nat.gcd_rec, Nat.gcd_comm], below_drewN hbel2 _⟩
            case measure => have := Nat.mod_lt a hc0; simp [intOf]; omega
          · have hc2 : c = 0 := by omega
            subst hc2
            go_wp2
            go_roundw
            case rel => exact ⟨k + 1, a, by omega, by go_num, rfl, ha, by rw [gcdL_take hlt2, ← hG.out, ← hG2.out, Nat.gcd_zero_right], any_take_succ hlt2 hA.out hM.out, hbel2⟩
            case measure => simp [intOf]; omega
    · have hk3 : k = 3 := by omega
      subst hk3
      have hV := Lib.hid (vGcd_of hG.out hA.out)
      by_cases hg : d = 0
      · subst hg
        go_wp2
        refine bodyPost_ret (v := .tuple #[(vPrim ⟨x, y, z⟩).v, .int .i64 (vGcd ⟨x, y, z⟩)]) (by simp [results, Try.results62, go_sem, vPrim, hV.out, q2c]) rfl ⟨rfl, (by repeat' (first | exact Below.refl _ _ | assumption | (refine Below.alloc ?_ ?_ _; rotate_left; (focus (first | rfl | omega | (simp; done) | (simp; omega)))) | (refine Below.setCell ?_ ?_ _; rotate_left; (focus (first | rfl | omega | (simp; done) | (simp; omega)))) | refine Below.drew ?_))⟩
      · have hg1 : ((d : Int) == 0) = false := by simp; omega
        have hg2 : ¬ (d : Int) = 0 := by omega
        have hg3 : (0 : Int) < (d : Int) := by omega
        go_wp2
        have hbv := Lib.hid (show vPrim ⟨x, y, z⟩ = ⟨x.tdiv d, y.tdiv d, z.tdiv d⟩ by unfold vPrim vDiv; rw [hV.out, if_neg hg2, wrap_tdiv hx hg3, wrap_tdiv hy hg3, wrap_tdiv hz hg3])
        refine region_late 14 [w.heap.size + 1] (by kernel_rfl) (by kernel_rfl) (by rfl) ?_
        apply Exists.intro
        refine ⟨fun v hv hne => ?_, fun u hu => ?_⟩
        · simp only [List.take_succ_cons, List.take_zero]
          have d0 := fun x : Later [w.heap.size + 1] wr v => (q1.later (by simp) x).cell
          repeat (go_big_quiet_step (fail))
          refine wpQuiet_nil ?_
          exact rfl
        · simp only [List.drop_succ_cons, List.drop_zero]
          have p2 : Own u (w.heap.size + 1) #[.int .i64 0, .int .i64 0, .int .i64 0] := Own.below (by repeat' (first | ((refine Own.new ?_); (focus (first | rfl | omega | (simp; done) | (simp; omega)))) | assumption | refine Own.alloc ?_ _ | refine Own.drew ?_ | (refine Own.far ?_ ?_ _; rotate_left; (focus (first | rfl | omega | (simp; done) | (simp; omega)))))) hu
          have p2c := p2.cell
          have p2f := p2.thaw
          have p2z := p2.lt
          refine late_mem (fun K hK => ?_)
          go_simp
          refine hK _ _ ((((Keeps.of_below hu).set (by simp) _).set (by simp) _).set (by simp) _) (fun u2 hu2 => ?_)
          clear hK K
          have r2 : Own u2 (w.heap.size + 1) #[.int .i64 _, .int .i64 _, .int .i64 _] := (((p2.set 0 _).set 1 _).set 2 _).below hu2
          have r2c := r2.cell
          have r2f := r2.thaw
          have r2z := r2.lt
          refine late_mem (fun K hK => ?_)
          go_simp
          refine hK _ _ ((((Keeps.of_below hu).set (by simp) _).set (by simp) _).set (by simp) _ |>.later hu2) (fun u3 hu3 => ?_)
          clear hK K
          have s2 : Own u3 (w.heap.size + 1) #[.int .i64 _, .int .i64 _, .int .i64 _] := r2.below hu3
          have s2c := s2.cell
          have s2f := s2.thaw
          have s2z := s2.lt
          refine late_nil ?_
          go_wp2
          refine bodyPost_ret (v := .tuple #[(vPrim ⟨x, y, z⟩).v, .int .i64 (vGcd ⟨x, y, z⟩)]) (by simp [results, Try.results62, go_sem, hbv.out, hV.out, s2c]) rfl ⟨rfl, ?_⟩
          exact Below.hop (Below.hop ((((Below.hop hww hu).setCell (by simp) _).setCell (by simp) _).setCell (by simp) _) hu2) hu3
end Go.Proofs.Ytccnlnkgoaelpaa
