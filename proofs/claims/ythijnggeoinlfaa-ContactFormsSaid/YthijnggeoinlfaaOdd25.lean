/- What Odd of the reference of package contact returns: some contact. -/
import Derived.Test.YthijnggeoinlfaaCtA
import Derived.Test.YthijnggeoinlfaaMem
import Derived.Test.YthijnggeoinlfaaDraw
namespace Go.Proofs.Ythijnggeoinlfaa
open Go.RowKit

def oddN (q1 j : Int) : Int := ([q1, 0, 1, -1, 2, 10, 11, 25] : List Int).getD j.toNat 0
def oddV (c : Ct) (q0 q1 q2 : Int) : Ct :=
  if q0 % 7 = 0 then ⟨⟨oddN q1 (q2 % 8), c.at_.y, c.at_.z⟩, c.n, c.mn, c.md⟩
  else if q0 % 7 = 1 then ⟨⟨c.at_.x, c.at_.y, oddN q1 (q2 % 8)⟩, c.n, c.mn, c.md⟩
  else if q0 % 7 = 2 then ⟨c.at_, ⟨oddN q1 (q2 % 8), c.n.y, c.n.z⟩, c.mn, c.md⟩
  else if q0 % 7 = 3 then ⟨c.at_, ⟨c.n.x, oddN q1 (q2 % 8), c.n.z⟩, c.mn, c.md⟩
  else if q0 % 7 = 4 then ⟨c.at_, ⟨c.n.x, c.n.y, oddN q1 (q2 % 8)⟩, c.mn, c.md⟩
  else if q0 % 7 = 5 then ⟨c.at_, c.n, oddN q1 (q2 % 8), c.md⟩ else ⟨c.at_, c.n, c.mn, oddN q1 (q2 % 8)⟩
theorem rowSome (L : List Int) (i : Nat) (hi : i < L.length) : ∃ m, (L.map (Value.int .i64)).toArray[i]? = some (.int .i64 m) := ⟨L[i], by simp [hi]⟩

set_option maxRecDepth 100000 in
set_option maxHeartbeats 2000000 in
theorem ref25_Odd (a0 a1 a2 n0 n1 n2 mn md q0 q1 q2 : Int) (w : World) :
    Calls Try.prog 51 #[vC a0 a1 a2 n0 n1 n2 mn md, .agg #[.int .i64 q0, .int .i64 q1, .int .i64 q2]] w fun r w' => r = .returned (oddV ⟨⟨a0, a1, a2⟩, ⟨n0, n1, n2⟩, mn, md⟩ q0 q1 q2).v ∧ Below w.heap.size w w' := by
  obtain ⟨OV, hOV⟩ : ∃ OV, oddV ⟨⟨a0, a1, a2⟩, ⟨n0, n1, n2⟩, mn, md⟩ q0 q1 q2 = OV := ⟨_, rfl⟩
  rw [hOV]
  obtain ⟨j, hj⟩ : ∃ j, q2 % 8 = j := ⟨_, rfl⟩
  obtain ⟨m, hm⟩ : ∃ m, oddN q1 j = m := ⟨_, rfl⟩
  have j0 : 0 ≤ j := by omega
  have j9 : j < 8 := by omega
  have HOV : Hid (oddV ⟨⟨a0, a1, a2⟩, ⟨n0, n1, n2⟩, mn, md⟩ q0 q1 q2 = OV) := Lib.hid hOV
  have HQM : Hid (oddN q1 (q2 % 8) = m) := Lib.hid (by rw [hj, hm])
  have HM : Hid (#[Value.int .i64 q1, .int .i64 0, .int .i64 1, .int .i64 (-1), .int .i64 2, .int .i64 10, .int .i64 11, .int .i64 25][j.toNat]? = some (.int .i64 m)) := Lib.hid (by
    rw [← hm]; unfold oddN
    rcases (show j = 0 ∨ j = 1 ∨ j = 2 ∨ j = 3 ∨ j = 4 ∨ j = 5 ∨ j = 6 ∨ j = 7 by omega) with h | h | h | h | h | h | h | h <;> rw [h] <;> rfl)
  have HJ := Lib.hid (congrArg (Value.int IntKind.i64) hj)
  clear hj hOV hm
  go_enter Try.func51, Try.ntmps51
  go_wp2
  have o2 : Own (((w.alloc (.cells #[.int .i64 a0, .int .i64 a1, .int .i64 a2, .int .i64 n0, .int .i64 n1, .int .i64 n2, .int .i64 mn, .int .i64 md] 66)).alloc (.cells #[.int .i64 q0, .int .i64 q1, .int .i64 q2] 47)).alloc (.cells #[.int .i64 0, .int .i64 0, .int .i64 0, .int .i64 0, .int .i64 0, .int .i64 0, .int .i64 0, .int .i64 0] 66)) w.heap.size #[.int .i64 a0, .int .i64 a1, .int .i64 a2, .int .i64 n0, .int .i64 n1, .int .i64 n2, .int .i64 mn, .int .i64 md] := (by repeat' (first | ((refine Own.new ?_); (focus (first | rfl | omega | (simp; done) | (simp; omega)))) | assumption | refine Own.alloc ?_ _ | refine Own.drew ?_ | (refine Own.far ?_ ?_ _; rotate_left; (focus (first | rfl | omega | (simp; done) | (simp; omega))))))
  have o3 : Own (((w.alloc (.cells #[.int .i64 a0, .int .i64 a1, .int .i64 a2, .int .i64 n0, .int .i64 n1, .int .i64 n2, .int .i64 mn, .int .i64 md] 66)).alloc (.cells #[.int .i64 q0, .int .i64 q1, .int .i64 q2] 47)).alloc (.cells #[.int .i64 0, .int .i64 0, .int .i64 0, .int .i64 0, .int .i64 0, .int .i64 0, .int .i64 0, .int .i64 0] 66)) (w.heap.size + 1) #[.int .i64 q0, .int .i64 q1, .int .i64 q2] := (by repeat' (first | ((refine Own.new ?_); (focus (first | rfl | omega | (simp; done) | (simp; omega)))) | assumption | refine Own.alloc ?_ _ | refine Own.drew ?_ | (refine Own.far ?_ ?_ _; rotate_left; (focus (first | rfl | omega | (simp; done) | (simp; omega))))))
  have o4 : Own (((w.alloc (.cells #[.int .i64 a0, .int .i64 a1, .int .i64 a2, .int .i64 n0, .int .i64 n1, .int .i64 n2, .int .i64 mn, .int .i64 md] 66)).alloc (.cells #[.int .i64 q0, .int .i64 q1, .int .i64 q2] 47)).alloc (.cells #[.int .i64 0, .int .i64 0, .int .i64 0, .int .i64 0, .int .i64 0, .int .i64 0, .int .i64 0, .int .i64 0] 66)) (w.heap.size + 1 + 1) #[.int .i64 0, .int .i64 0, .int .i64 0, .int .i64 0, .int .i64 0, .int .i64 0, .int .i64 0, .int .i64 0] := (by repeat' (first | ((refine Own.new ?_); (focus (first | rfl | omega | (simp; done) | (simp; omega)))) | assumption | refine Own.alloc ?_ _ | refine Own.drew ?_ | (refine Own.far ?_ ?_ _; rotate_left; (focus (first | rfl | omega | (simp; done) | (simp; omega))))))
  have hw : Below w.heap.size w (((w.alloc (.cells #[.int .i64 a0, .int .i64 a1, .int .i64 a2, .int .i64 n0, .int .i64 n1, .int .i64 n2, .int .i64 mn, .int .i64 md] 66)).alloc (.cells #[.int .i64 q0, .int .i64 q1, .int .i64 q2] 47)).alloc (.cells #[.int .i64 0, .int .i64 0, .int .i64 0, .int .i64 0, .int .i64 0, .int .i64 0, .int .i64 0, .int .i64 0] 66)) := (by repeat' (first | exact Below.refl _ _ | assumption | (refine Below.alloc ?_ ?_ _; rotate_left; (focus (first | rfl | omega | (simp; done) | (simp; omega)))) | (refine Below.setCell ?_ ?_ _; rotate_left; (focus (first | rfl | omega | (simp; done) | (simp; omega)))) | refine Below.drew ?_))
  generalize (((w.alloc (.cells #[.int .i64 a0, .int .i64 a1, .int .i64 a2, .int .i64 n0, .int .i64 n1, .int .i64 n2, .int .i64 mn, .int .i64 md] 66)).alloc (.cells #[.int .i64 q0, .int .i64 q1, .int .i64 q2] 47)).alloc (.cells #[.int .i64 0, .int .i64 0, .int .i64 0, .int .i64 0, .int .i64 0, .int .i64 0, .int .i64 0, .int .i64 0] 66)) = W at *
  refine region_mem 2 1 3 [] (by kernel_rfl) (by kernel_rfl) (by rfl) [(.cells #[.int .i64 q1, .int .i64 0, .int .i64 1, .int .i64 (-1), .int .i64 2, .int .i64 10, .int .i64 11, .int .i64 25] 3, fun p => .slice (some ⟨p, 0, none⟩) 8 8)] ?_
  apply Exists.intro
  refine ⟨fun v hv hne => ?_, ⟨fun u => ?_, trivial⟩, fun u u1 hu hu1 => ?_⟩
  · simp only [List.take_succ_cons, List.take_zero, List.drop_succ_cons, List.drop_zero, Nat.reduceAdd, List.cons_append, List.nil_append]
    have d3 := fun x => (o3.later (v := v) (T := []) (by simp) x).cell
    repeat (go_big_quiet_step ((go_at_call 73; with_reducible exact lateS (callv (ref1_Mod q2 8 (by omega) (by omega) _) HJ.out))))
    refine wpQuiet_nil ?_
    exact rfl
  · go_simp
  · simp only [List.take_succ_cons, List.take_zero, List.drop_succ_cons, List.drop_zero, Nat.reduceAdd, memK]
    intro p hp hps hcells
    have hk := Below.hop hu hu1
    have o5 : Own u1 p #[.int .i64 q1, .int .i64 0, .int .i64 1, .int .i64 (-1), .int .i64 2, .int .i64 10, .int .i64 11, .int .i64 25] := ⟨_, hcells⟩
    replace o2 := o2.below hk
    replace o4 := o4.below hk
    replace hw := Below.hop hw hk
    replace o3 := o3.below hk
    clear hcells hps hp
    refine chain_mem (fun K hK => ?_)
    go_simp
    refine hK _ _ (Keeps.of_below hk) (fun u2 hu2 => ?_)
    clear hK K
    replace hk := Below.hop hk hu2
    have o5c := (o5.below hu2).cell
    have hcm : u2.cell? ⟨p, j.toNat, none⟩ = some (.int .i64 m) := (o5c j.toNat).trans HM.out
    clear o5c o5 HM
    replace o2 := o2.below hu2
    replace o3 := o3.below hu2
    replace o4 := o4.below hu2
    replace hw := Below.hop hw hu2
    clear hu2
    refine chain_mem (fun K hK => ?_)
    go_simp
    refine hK _ _ (Keeps.of_below hk) (fun u3 hu2 => ?_)
    clear hK K
    replace hk := Below.hop hk hu2
    clear hcm
    replace o2 := o2.below hu2
    replace o3 := o3.below hu2
    replace o4 := o4.below hu2
    replace hw := Below.hop hw hu2
    clear hu2
    refine chain_mem (fun K hK => ?_)
    go_simp
    refine hK _ _ (Keeps.of_below hk) (fun u4 hu2 => ?_)
    clear hK K
    replace hk := Below.hop hk hu2
    replace o2 := o2.below hu2
    replace o3 := o3.below hu2
    replace o4 := o4.below hu2
    replace hw := Below.hop hw hu2
    clear hu2
    clear hk hu hu1
    have o2c := o2.cell
    have o2f := o2.thaw
    have o3c := o3.cell
    have o4c := o4.cell
    have o4f := o4.thaw
    refine chain_nil ?_
    (try simp only [Act.put, List.setIfInBounds_toArray, List.set_cons_zero, List.set_cons_succ])
    rcases (show q0 % 7 = 0 ∨ q0 % 7 = 1 ∨ q0 % 7 = 2 ∨ q0 % 7 = 3 ∨ q0 % 7 = 4 ∨ q0 % 7 = 5 ∨ q0 % 7 = 6 by omega) with hr | hr | hr | hr | hr | hr | hr
    · have HE : Hid (OV = ⟨⟨m, a1, a2⟩, ⟨n0, n1, n2⟩, mn, md⟩) := Lib.hid (by rw [← HOV.out, ← HQM.out]; unfold oddV; simp [hr])
      have HR := Lib.hid (congrArg (Value.int IntKind.i64) hr)
      clear hr
      go_wp2_with fail
      refine Calls.mono (callv (ref1_Mod q0 7 (by omega) (by omega) _) HR.out) ?_
      rintro e wz ⟨rfl, rfl⟩
      go_wp2
      refine retC (b := w.heap.size + 1 + 1) (v := Ct.v ⟨⟨m, a1, a2⟩, ⟨n0, n1, n2⟩, mn, md⟩) (by repeat' (first | (with_reducible assumption) | ((with_reducible apply Own.new); (focus (first | rfl | omega | (simp; done) | (simp; omega)))) | (with_reducible apply Own.set) | (with_reducible apply Own.alloc) | (with_reducible apply Own.drew) | ((with_reducible apply Own.far); case hp => (focus (first | rfl | omega | (simp; done) | (simp; omega)))))) (fun w' hw' => by simp [results, Try.results51, go_sem, hw']) rfl ?_
      exact ⟨by rw [HE.out], (((((((((hw.setCell (by first | (simp; done) | (simp; omega)) _).setCell (by first | (simp; done) | (simp; omega)) _).setCell (by first | (simp; done) | (simp; omega)) _).setCell (by first | (simp; done) | (simp; omega)) _).setCell (by first | (simp; done) | (simp; omega)) _).setCell (by first | (simp; done) | (simp; omega)) _).setCell (by first | (simp; done) | (simp; omega)) _).setCell (by first | (simp; done) | (simp; omega)) _).setCell (by first | (simp; done) | (simp; omega)) _)⟩
    · have HE : Hid (OV = ⟨⟨a0, a1, m⟩, ⟨n0, n1, n2⟩, mn, md⟩) := Lib.hid (by rw [← HOV.out, ← HQM.out]; unfold oddV; simp [hr])
      have HR := Lib.hid (congrArg (Value.int IntKind.i64) hr)
      clear hr
      go_wp2_with fail
      refine Calls.mono (callv (ref1_Mod q0 7 (by omega) (by omega) _) HR.out) ?_
      rintro e wz ⟨rfl, rfl⟩
      go_wp2
      refine retC (b := w.heap.size + 1 + 1) (v := Ct.v ⟨⟨a0, a1, m⟩, ⟨n0, n1, n2⟩, mn, md⟩) (by repeat' (first | (with_reducible assumption) | ((with_reducible apply Own.new); (focus (first | rfl | omega | (simp; done) | (simp; omega)))) | (with_reducible apply Own.set) | (with_reducible apply Own.alloc) | (with_reducible apply Own.drew) | ((with_reducible apply Own.far); case hp => (focus (first | rfl | omega | (simp; done) | (simp; omega)))))) (fun w' hw' => by simp [results, Try.results51, go_sem, hw']) rfl ?_
      exact ⟨by rw [HE.out], (((((((((hw.setCell (by first | (simp; done) | (simp; omega)) _).setCell (by first | (simp; done) | (simp; omega)) _).setCell (by first | (simp; done) | (simp; omega)) _).setCell (by first | (simp; done) | (simp; omega)) _).setCell (by first | (simp; done) | (simp; omega)) _).setCell (by first | (simp; done) | (simp; omega)) _).setCell (by first | (simp; done) | (simp; omega)) _).setCell (by first | (simp; done) | (simp; omega)) _).setCell (by first | (simp; done) | (simp; omega)) _)⟩
    · have HE : Hid (OV = ⟨⟨a0, a1, a2⟩, ⟨m, n1, n2⟩, mn, md⟩) := Lib.hid (by rw [← HOV.out, ← HQM.out]; unfold oddV; simp [hr])
      have HR := Lib.hid (congrArg (Value.int IntKind.i64) hr)
      clear hr
      go_wp2_with fail
      refine Calls.mono (callv (ref1_Mod q0 7 (by omega) (by omega) _) HR.out) ?_
      rintro e wz ⟨rfl, rfl⟩
      go_wp2
      refine retC (b := w.heap.size + 1 + 1) (v := Ct.v ⟨⟨a0, a1, a2⟩, ⟨m, n1, n2⟩, mn, md⟩) (by repeat' (first | (with_reducible assumption) | ((with_reducible apply Own.new); (focus (first | rfl | omega | (simp; done) | (simp; omega)))) | (with_reducible apply Own.set) | (with_reducible apply Own.alloc) | (with_reducible apply Own.drew) | ((with_reducible apply Own.far); case hp => (focus (first | rfl | omega | (simp; done) | (simp; omega)))))) (fun w' hw' => by simp [results, Try.results51, go_sem, hw']) rfl ?_
      exact ⟨by rw [HE.out], (((((((((hw.setCell (by first | (simp; done) | (simp; omega)) _).setCell (by first | (simp; done) | (simp; omega)) _).setCell (by first | (simp; done) | (simp; omega)) _).setCell (by first | (simp; done) | (simp; omega)) _).setCell (by first | (simp; done) | (simp; omega)) _).setCell (by first | (simp; done) | (simp; omega)) _).setCell (by first | (simp; done) | (simp; omega)) _).setCell (by first | (simp; done) | (simp; omega)) _).setCell (by first | (simp; done) | (simp; omega)) _)⟩
    · have HE : Hid (OV = ⟨⟨a0, a1, a2⟩, ⟨n0, m, n2⟩, mn, md⟩) := Lib.hid (by rw [← HOV.out, ← HQM.out]; unfold oddV; simp [hr])
      have HR := Lib.hid (congrArg (Value.int IntKind.i64) hr)
      clear hr
      go_wp2_with fail
      refine Calls.mono (callv (ref1_Mod q0 7 (by omega) (by omega) _) HR.out) ?_
      rintro e wz ⟨rfl, rfl⟩
      go_wp2
      refine retC (b := w.heap.size + 1 + 1) (v := Ct.v ⟨⟨a0, a1, a2⟩, ⟨n0, m, n2⟩, mn, md⟩) (by repeat' (first | (with_reducible assumption) | ((with_reducible apply Own.new); (focus (first | rfl | omega | (simp; done) | (simp; omega)))) | (with_reducible apply Own.set) | (with_reducible apply Own.alloc) | (with_reducible apply Own.drew) | ((with_reducible apply Own.far); case hp => (focus (first | rfl | omega | (simp; done) | (simp; omega)))))) (fun w' hw' => by simp [results, Try.results51, go_sem, hw']) rfl ?_
      exact ⟨by rw [HE.out], (((((((((hw.setCell (by first | (simp; done) | (simp; omega)) _).setCell (by first | (simp; done) | (simp; omega)) _).setCell (by first | (simp; done) | (simp; omega)) _).setCell (by first | (simp; done) | (simp; omega)) _).setCell (by first | (simp; done) | (simp; omega)) _).setCell (by first | (simp; done) | (simp; omega)) _).setCell (by first | (simp; done) | (simp; omega)) _).setCell (by first | (simp; done) | (simp; omega)) _).setCell (by first | (simp; done) | (simp; omega)) _)⟩
    · have HE : Hid (OV = ⟨⟨a0, a1, a2⟩, ⟨n0, n1, m⟩, mn, md⟩) := Lib.hid (by rw [← HOV.out, ← HQM.out]; unfold oddV; simp [hr])
      have HR := Lib.hid (congrArg (Value.int IntKind.i64) hr)
      clear hr
      go_wp2_with fail
      refine Calls.mono (callv (ref1_Mod q0 7 (by omega) (by omega) _) HR.out) ?_
      rintro e wz ⟨rfl, rfl⟩
      go_wp2
      refine retC (b := w.heap.size + 1 + 1) (v := Ct.v ⟨⟨a0, a1, a2⟩, ⟨n0, n1, m⟩, mn, md⟩) (by repeat' (first | (with_reducible assumption) | ((with_reducible apply Own.new); (focus (first | rfl | omega | (simp; done) | (simp; omega)))) | (with_reducible apply Own.set) | (with_reducible apply Own.alloc) | (with_reducible apply Own.drew) | ((with_reducible apply Own.far); case hp => (focus (first | rfl | omega | (simp; done) | (simp; omega)))))) (fun w' hw' => by simp [results, Try.results51, go_sem, hw']) rfl ?_
      exact ⟨by rw [HE.out], (((((((((hw.setCell (by first | (simp; done) | (simp; omega)) _).setCell (by first | (simp; done) | (simp; omega)) _).setCell (by first | (simp; done) | (simp; omega)) _).setCell (by first | (simp; done) | (simp; omega)) _).setCell (by first | (simp; done) | (simp; omega)) _).setCell (by first | (simp; done) | (simp; omega)) _).setCell (by first | (simp; done) | (simp; omega)) _).setCell (by first | (simp; done) | (simp; omega)) _).setCell (by first | (simp; done) | (simp; omega)) _)⟩
    · have HE : Hid (OV = ⟨⟨a0, a1, a2⟩, ⟨n0, n1, n2⟩, m, md⟩) := Lib.hid (by rw [← HOV.out, ← HQM.out]; unfold oddV; simp [hr])
      have HR := Lib.hid (congrArg (Value.int IntKind.i64) hr)
      clear hr
      go_wp2_with fail
      refine Calls.mono (callv (ref1_Mod q0 7 (by omega) (by omega) _) HR.out) ?_
      rintro e wz ⟨rfl, rfl⟩
      go_wp2
      refine retC (b := w.heap.size + 1 + 1) (v := Ct.v ⟨⟨a0, a1, a2⟩, ⟨n0, n1, n2⟩, m, md⟩) (by repeat' (first | (with_reducible assumption) | ((with_reducible apply Own.new); (focus (first | rfl | omega | (simp; done) | (simp; omega)))) | (with_reducible apply Own.set) | (with_reducible apply Own.alloc) | (with_reducible apply Own.drew) | ((with_reducible apply Own.far); case hp => (focus (first | rfl | omega | (simp; done) | (simp; omega)))))) (fun w' hw' => by simp [results, Try.results51, go_sem, hw']) rfl ?_
      exact ⟨by rw [HE.out], (((((((((hw.setCell (by first | (simp; done) | (simp; omega)) _).setCell (by first | (simp; done) | (simp; omega)) _).setCell (by first | (simp; done) | (simp; omega)) _).setCell (by first | (simp; done) | (simp; omega)) _).setCell (by first | (simp; done) | (simp; omega)) _).setCell (by first | (simp; done) | (simp; omega)) _).setCell (by first | (simp; done) | (simp; omega)) _).setCell (by first | (simp; done) | (simp; omega)) _).setCell (by first | (simp; done) | (simp; omega)) _)⟩
    · have HE : Hid (OV = ⟨⟨a0, a1, a2⟩, ⟨n0, n1, n2⟩, mn, m⟩) := Lib.hid (by rw [← HOV.out, ← HQM.out]; unfold oddV; simp [hr])
      have HR := Lib.hid (congrArg (Value.int IntKind.i64) hr)
      clear hr
      go_wp2_with fail
      refine Calls.mono (callv (ref1_Mod q0 7 (by omega) (by omega) _) HR.out) ?_
      rintro e wz ⟨rfl, rfl⟩
      go_wp2
      refine retC (b := w.heap.size + 1 + 1) (v := Ct.v ⟨⟨a0, a1, a2⟩, ⟨n0, n1, n2⟩, mn, m⟩) (by repeat' (first | (with_reducible assumption) | ((with_reducible apply Own.new); (focus (first | rfl | omega | (simp; done) | (simp; omega)))) | (with_reducible apply Own.set) | (with_reducible apply Own.alloc) | (with_reducible apply Own.drew) | ((with_reducible apply Own.far); case hp => (focus (first | rfl | omega | (simp; done) | (simp; omega)))))) (fun w' hw' => by simp [results, Try.results51, go_sem, hw']) rfl ?_
      exact ⟨by rw [HE.out], (((((((((hw.setCell (by first | (simp; done) | (simp; omega)) _).setCell (by first | (simp; done) | (simp; omega)) _).setCell (by first | (simp; done) | (simp; omega)) _).setCell (by first | (simp; done) | (simp; omega)) _).setCell (by first | (simp; done) | (simp; omega)) _).setCell (by first | (simp; done) | (simp; omega)) _).setCell (by first | (simp; done) | (simp; omega)) _).setCell (by first | (simp; done) | (simp; omega)) _).setCell (by first | (simp; done) | (simp; omega)) _)⟩
end Go.Proofs.Ythijnggeoinlfaa
