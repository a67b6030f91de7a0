/- What Valid, Through, Side, Flip, Push, Reach and Compare in package plane and in its reference return. The components are int64. -/
import Derived.Test.YtccnlnkgoaelpaaPlaneB
namespace Go.Proofs.Ytccnlnkgoaelpaa
open Go.RowKit

set_option maxHeartbeats 1000000 in
theorem plane_Valid (x y z b : Int) (hx : I64 x) (hy : I64 y) (hz : I64 z) (w : World) :
    Calls Try.prog 9 #[vP x y z b] w fun r w' => r = .returned (.bool (pValid ⟨⟨x, y, z⟩, b⟩)) ∧ Below w.heap.size w w' := by
  have e0 : pValid ⟨⟨x, y, z⟩, b⟩ = ((inB 4608 x && (inB 4608 y && inB 4608 z)) && ((vGcd ⟨x, y, z⟩ == 1) && inB 2097152 b)) := rfl
  have E0 := Lib.hid e0
  clear e0
  generalize hq1 : (inB 4608 x && (inB 4608 y && inB 4608 z)) = q1 at E0
  have c1 : ∀ (W : World) (bb : Nat), W.cell? ⟨bb, 0, none⟩ = some (.int .i64 x) → W.cell? ⟨bb, 1, none⟩ = some (.int .i64 y) → W.cell? ⟨bb, 2, none⟩ = some (.int .i64 z) →
    Calls Try.prog 32 #[.int .i64 4608, .slice (some ⟨bb, 0, none⟩) 3 3] W fun r w' => r = .returned (.bool q1) ∧ W = w' := fun W bb h0 h1 h2 => by
      rw [← hq1]; exact plane_within3 4608 x y z bb W (by decide) (by decide) h0 h1 h2
  have C1 := Lib.hid c1
  clear c1 hq1
  generalize hq2 : inB 2097152 b = q2 at E0
  have c2 : ∀ (W : World) (bb : Nat), W.cell? ⟨bb, 0, none⟩ = some (.int .i64 b) →
    Calls Try.prog 32 #[.int .i64 2097152, .slice (some ⟨bb, 0, none⟩) 1 1] W fun r w' => r = .returned (.bool q2) ∧ W = w' := fun W bb h0 => by
      rw [← hq2]; exact plane_within1 2097152 b bb W (by decide) (by decide) h0
  have C2 := Lib.hid c2
  clear c2 hq2
  go_enter Try.func9, Try.ntmps9
  go_wp2_with fail
  refine Calls.mono (C1.out _ _ ?_ ?_ ?_) ?_
  · simp [go_sem]
  · simp [go_sem]
  · simp [go_sem]
  rintro e w' ⟨rfl, rfl⟩
  cases q1
  · go_wp2
    go_ret
    exact ⟨ret_bool (by rw [E0.out]; rfl), (by repeat' (first | exact Below.refl _ _ | assumption | (refine Below.alloc ?_ ?_ _; rotate_left; (focus (first | rfl | omega | (simp; done) | (simp; omega)))) | (refine Below.setCell ?_ ?_ _; rotate_left; (focus (first | rfl | omega | (simp; done) | (simp; omega)))) | refine Below.drew ?_))⟩
  · go_wp2_with fail
    refine Calls.mono (plane_divisor3 x y z _ _ hx hy hz ?_ ?_ ?_) ?_
    · simp [go_sem]
    · simp [go_sem]
    · simp [go_sem]
    rintro e w1 ⟨rfl, hb1⟩
    have o1 : Own w1 (w.heap.size) #[.int .i64 x, .int .i64 y, .int .i64 z, .int .i64 b] := Own.below (by repeat' (first | ((refine Own.new ?_); (focus (first | rfl | omega | (simp; done) | (simp; omega)))) | assumption | refine Own.alloc ?_ _ | refine Own.drew ?_ | (refine Own.far ?_ ?_ _; rotate_left; (focus (first | rfl | omega | (simp; done) | (simp; omega)))))) hb1
    have o1c := o1.cell
    have o1f := o1.thaw
    have o1z := o1.lt
    have hs1 := hb1.size
    (try simp at hs1)
    have hw1 : Below w.heap.size w w1 := Below.hop (by repeat' (first | exact Below.refl _ _ | assumption | (refine Below.alloc ?_ ?_ _; rotate_left; (focus (first | rfl | omega | (simp; done) | (simp; omega)))) | (refine Below.setCell ?_ ?_ _; rotate_left; (focus (first | rfl | omega | (simp; done) | (simp; omega)))) | refine Below.drew ?_)) hb1
    have hz1 := hw1.size
    clear hb1
    by_cases hg : vGcd ⟨x, y, z⟩ = 1
    · have hg1 : (vGcd ⟨x, y, z⟩ == 1) = true := by simpa using hg
      have hg0 := Lib.hid hg1
      clear hg
      go_wp2_with fail
      refine Calls.mono (C2.out _ _ ?_) ?_
      · simp [go_sem]
      rintro e w' ⟨rfl, rfl⟩
      go_wp2
      go_ret
      exact ⟨ret_bool (by rw [E0.out, hg0.out]; simp), (by repeat' (first | exact Below.refl _ _ | assumption | (refine Below.alloc ?_ ?_ _; rotate_left; (focus (first | rfl | omega | (simp; done) | (simp; omega)))) | (refine Below.setCell ?_ ?_ _; rotate_left; (focus (first | rfl | omega | (simp; done) | (simp; omega)))) | refine Below.drew ?_))⟩
    · have hg1 : (vGcd ⟨x, y, z⟩ == 1) = false := by simpa using hg
      have hg0 := Lib.hid hg1
      clear hg
      go_wp2
      go_ret
      exact ⟨ret_bool (by rw [E0.out, hg0.out]; simp), (by repeat' (first | exact Below.refl _ _ | assumption | (refine Below.alloc ?_ ?_ _; rotate_left; (focus (first | rfl | omega | (simp; done) | (simp; omega)))) | (refine Below.setCell ?_ ?_ _; rotate_left; (focus (first | rfl | omega | (simp; done) | (simp; omega)))) | refine Below.drew ?_))⟩


theorem wrap_I64 (n : Int) : I64 (wrap64 n) := by unfold I64 wrap64; omega

set_option maxRecDepth 100000 in
set_option maxHeartbeats 800000 in
theorem plane_Flip (x y z b : Int) (w : World) :
    Calls Try.prog 52 #[vP x y z b] w fun r w' => r = .returned (pFlip ⟨⟨x, y, z⟩, b⟩).v ∧ Below w.heap.size w w' := by
  go_enter Try.func52, Try.ntmps52
  go_wp2
  have o1 : Own ((w.alloc (.cells #[.int .i64 x, .int .i64 y, .int .i64 z, .int .i64 b] 33)).alloc (.cells #[.int .i64 0, .int .i64 0, .int .i64 0, .int .i64 0] 33)) w.heap.size #[.int .i64 x, .int .i64 y, .int .i64 z, .int .i64 b] := (by repeat' (first | ((refine Own.new ?_); (focus (first | rfl | omega | (simp; done) | (simp; omega)))) | assumption | refine Own.alloc ?_ _ | refine Own.drew ?_ | (refine Own.far ?_ ?_ _; rotate_left; (focus (first | rfl | omega | (simp; done) | (simp; omega))))))
  have o2 : Own ((w.alloc (.cells #[.int .i64 x, .int .i64 y, .int .i64 z, .int .i64 b] 33)).alloc (.cells #[.int .i64 0, .int .i64 0, .int .i64 0, .int .i64 0] 33)) (w.heap.size + 1) #[.int .i64 0, .int .i64 0, .int .i64 0, .int .i64 0] := (by repeat' (first | ((refine Own.new ?_); (focus (first | rfl | omega | (simp; done) | (simp; omega)))) | assumption | refine Own.alloc ?_ _ | refine Own.drew ?_ | (refine Own.far ?_ ?_ _; rotate_left; (focus (first | rfl | omega | (simp; done) | (simp; omega))))))
  have hw0 : Below w.heap.size w ((w.alloc (.cells #[.int .i64 x, .int .i64 y, .int .i64 z, .int .i64 b] 33)).alloc (.cells #[.int .i64 0, .int .i64 0, .int .i64 0, .int .i64 0] 33)) := (by repeat' (first | exact Below.refl _ _ | assumption | (refine Below.alloc ?_ ?_ _; rotate_left; (focus (first | rfl | omega | (simp; done) | (simp; omega)))) | (refine Below.setCell ?_ ?_ _; rotate_left; (focus (first | rfl | omega | (simp; done) | (simp; omega)))) | refine Below.drew ?_))
  refine region_late 8 [w.heap.size + 1] (by kernel_rfl) (by kernel_rfl) (by rfl) ?_
  apply Exists.intro
  refine ⟨fun v hv hne => ?_, fun u hu => ?_⟩
  · simp only [List.take_succ_cons, List.take_zero]
    have d0 := fun x => (o1.later (v := v) (T := [w.heap.size + 1]) (by simp) x).cell
    repeat (go_big_quiet_step ((go_at_call 13; exact lateB (plane_Sub _ _ _ _ _ _ _))))
    refine wpQuiet_nil ?_
    exact rfl
  · simp only [List.drop_succ_cons, List.drop_zero]
    have p2 : Own u (w.heap.size + 1) _ := o2.below hu
    have p2c := p2.cell
    have p2f := p2.thaw
    have p2z := p2.lt
    refine late_mem (fun K hK => ?_)
    go_simp
    refine hK _ _ (((((Keeps.of_below hu).set (by simp) _).set (by simp) _).set (by simp) _).set (by simp) _) (fun u2 hu2 => ?_)
    clear hK K
    have r2 : Own u2 (w.heap.size + 1) #[.int .i64 _, .int .i64 _, .int .i64 _, .int .i64 _] := ((((p2.set 0 _).set 1 _).set 2 _).set 3 _).below hu2
    have r2c := r2.cell
    have r2f := r2.thaw
    have r2z := r2.lt
    refine late_nil ?_
    go_wp2
    refine bodyPost_ret (v := (pFlip ⟨⟨x, y, z⟩, b⟩).v) (by simp [results, Try.results52, go_sem, pFlip, r2c]) rfl ⟨rfl, ?_⟩
    exact Below.hop (((((Below.hop hw0 hu).setCell (by simp) _).setCell (by simp) _).setCell (by simp) _).setCell (by simp) _) hu2

end Go.Proofs.Ytccnlnkgoaelpaa
