/- What Odd of the reference of package plane returns: some plane of int64 numbers, if it has such. -/
import Derived.Test.YthijnggeoinlfaaDraw3
import Derived.Test.YthijnggeoinlfaaMem
import Derived.Test.YthijnggeoinlfaaTriples
namespace Go.Proofs.Ythijnggeoinlfaa
open Go.RowKit

theorem rowInt (L : List Int) (h : ∀ m ∈ L, I64 m) (i : Nat) (hi : i < L.length) : ∃ m, (L.map (Value.int .i64)).toArray[i]? = some (.int .i64 m) ∧ I64 m :=
  ⟨L[i], by simp [hi], h _ (List.getElem_mem hi)⟩
structure Pl.Ok (p : Pl) : Prop where
  n : p.n.Ok
  b : I64 p.b

set_option maxRecDepth 100000 in
set_option maxHeartbeats 2000000 in
theorem ref7_Odd (x y z b q0 q1 q2 : Int) (hp : Pl.Ok ⟨⟨x, y, z⟩, b⟩) (hq : I64 q1) (w : World) :
    Calls Try.prog 37 #[vP x y z b, .agg #[.int .i64 q0, .int .i64 q1, .int .i64 q2]] w fun r w' => ∃ P : Pl, r = .returned P.v ∧ P.Ok ∧ Below w.heap.size w w' := by
  have hx : I64 x := hp.n.x
  have hy : I64 y := hp.n.y
  have hz : I64 z := hp.n.z
  have hb : I64 b := hp.b
  have HL := Lib.hid (show ∀ m ∈ [q1, 0, 4608, 4609, -4609, wrap64 (2 * x), 2097152, 2097153, -2097152], I64 m by
    simp only [List.mem_cons, List.not_mem_nil, or_false, forall_eq_or_imp, forall_eq]
    exact ⟨hq, ⟨by omega, by omega⟩, ⟨by omega, by omega⟩, ⟨by omega, by omega⟩, ⟨by omega, by omega⟩, wr_I _, ⟨by omega, by omega⟩, ⟨by omega, by omega⟩, ⟨by omega, by omega⟩⟩)
  have HX := Lib.hid hx
  have HY := Lib.hid hy
  have HZ := Lib.hid hz
  have HB := Lib.hid hb
  clear hp hq hx hy hz hb
  obtain ⟨j, hj⟩ : ∃ j, q2 % 9 = j := ⟨_, rfl⟩
  have j0 : 0 ≤ j := by omega
  have j9 : j < 9 := by omega
  have HJ := Lib.hid (congrArg (Value.int IntKind.i64) hj)
  clear hj
  go_enter Try.func37, Try.ntmps37
  go_wp2
  have o2 : Own (((w.alloc (.cells #[.int .i64 x, .int .i64 y, .int .i64 z, .int .i64 b] 32)).alloc (.cells #[.int .i64 q0, .int .i64 q1, .int .i64 q2] 47)).alloc (.cells #[.int .i64 0, .int .i64 0, .int .i64 0, .int .i64 0] 32)) w.heap.size #[.int .i64 x, .int .i64 y, .int .i64 z, .int .i64 b] := (by repeat' (first | ((refine Own.new ?_); (focus (first | rfl | omega | (simp; done) | (simp; omega)))) | assumption | refine Own.alloc ?_ _ | refine Own.drew ?_ | (refine Own.far ?_ ?_ _; rotate_left; (focus (first | rfl | omega | (simp; done) | (simp; omega))))))
  have o3 : Own (((w.alloc (.cells #[.int .i64 x, .int .i64 y, .int .i64 z, .int .i64 b] 32)).alloc (.cells #[.int .i64 q0, .int .i64 q1, .int .i64 q2] 47)).alloc (.cells #[.int .i64 0, .int .i64 0, .int .i64 0, .int .i64 0] 32)) (w.heap.size + 1) #[.int .i64 q0, .int .i64 q1, .int .i64 q2] := (by repeat' (first | ((refine Own.new ?_); (focus (first | rfl | omega | (simp; done) | (simp; omega)))) | assumption | refine Own.alloc ?_ _ | refine Own.drew ?_ | (refine Own.far ?_ ?_ _; rotate_left; (focus (first | rfl | omega | (simp; done) | (simp; omega))))))
  have o4 : Own (((w.alloc (.cells #[.int .i64 x, .int .i64 y, .int .i64 z, .int .i64 b] 32)).alloc (.cells #[.int .i64 q0, .int .i64 q1, .int .i64 q2] 47)).alloc (.cells #[.int .i64 0, .int .i64 0, .int .i64 0, .int .i64 0] 32)) (w.heap.size + 1 + 1) #[.int .i64 0, .int .i64 0, .int .i64 0, .int .i64 0] := (by repeat' (first | ((refine Own.new ?_); (focus (first | rfl | omega | (simp; done) | (simp; omega)))) | assumption | refine Own.alloc ?_ _ | refine Own.drew ?_ | (refine Own.far ?_ ?_ _; rotate_left; (focus (first | rfl | omega | (simp; done) | (simp; omega))))))
  have hw : Below w.heap.size w (((w.alloc (.cells #[.int .i64 x, .int .i64 y, .int .i64 z, .int .i64 b] 32)).alloc (.cells #[.int .i64 q0, .int .i64 q1, .int .i64 q2] 47)).alloc (.cells #[.int .i64 0, .int .i64 0, .int .i64 0, .int .i64 0] 32)) := (by repeat' (first | exact Below.refl _ _ | assumption | (refine Below.alloc ?_ ?_ _; rotate_left; (focus (first | rfl | omega | (simp; done) | (simp; omega)))) | (refine Below.setCell ?_ ?_ _; rotate_left; (focus (first | rfl | omega | (simp; done) | (simp; omega)))) | refine Below.drew ?_))
  generalize (((w.alloc (.cells #[.int .i64 x, .int .i64 y, .int .i64 z, .int .i64 b] 32)).alloc (.cells #[.int .i64 q0, .int .i64 q1, .int .i64 q2] 47)).alloc (.cells #[.int .i64 0, .int .i64 0, .int .i64 0, .int .i64 0] 32)) = W at *
  refine region_mem 6 1 3 [] (by kernel_rfl) (by kernel_rfl) (by rfl) [(.cells #[.int .i64 q1, .int .i64 0, .int .i64 4608, .int .i64 4609, .int .i64 (-4609), .int .i64 (wrap64 (2 * x)), .int .i64 2097152, .int .i64 2097153, .int .i64 (-2097152)] 3, fun p => .slice (some ⟨p, 0, none⟩) 9 9)] ?_
  apply Exists.intro
  refine ⟨fun v hv hne => ?_, ⟨fun u => ?_, trivial⟩, fun u u1 hu hu1 => ?_⟩
  · simp only [List.take_succ_cons, List.take_zero, List.drop_succ_cons, List.drop_zero, Nat.reduceAdd, List.cons_append, List.nil_append]
    have d2 := fun x => (o2.later (v := v) (T := []) (by simp) x).cell
    have d3 := fun x => (o3.later (v := v) (T := []) (by simp) x).cell
    repeat (go_big_quiet_step ((go_at_call 73; with_reducible exact lateS (callv (ref1_Mod q2 9 (by omega) (by omega) _) HJ.out))))
    refine wpQuiet_nil ?_
    exact rfl
  · go_simp
  · simp only [List.take_succ_cons, List.take_zero, List.drop_succ_cons, List.drop_zero, Nat.reduceAdd, memK]
    intro p hp hps hcells
    have hk := Below.hop hu hu1
    have o5 : Own u1 p #[.int .i64 q1, .int .i64 0, .int .i64 4608, .int .i64 4609, .int .i64 (-4609), .int .i64 (wrap64 (2 * x)), .int .i64 2097152, .int .i64 2097153, .int .i64 (-2097152)] := ⟨_, hcells⟩
    obtain ⟨m, hm, hmi⟩ := rowInt _ HL.out j.toNat (by simp; omega)
    replace o2 := o2.below hk
    replace o4 := o4.below hk
    replace hw := Below.hop hw hk
    replace o3 := o3.below hk
    clear hcells hps hp
    refine chain_mem (fun K hK => ?_)
    go_simp
    refine hK _ _ (Keeps.of_below hk) (fun u2 hu2 => ?_)
    clear hK K
    have hk2 := Below.hop hk hu2
    have o5c := (o5.below hu2).cell
    have hcm : u2.cell? ⟨p, j.toNat, none⟩ = some (.int .i64 m) := (o5c j.toNat).trans hm
    replace o2 := o2.below hu2
    replace o3 := o3.below hu2
    replace o4 := o4.below hu2
    replace hw := Below.hop hw hu2
    clear o5c o5 hm hk
    refine chain_mem (fun K hK => ?_)
    go_simp
    refine hK _ _ (Keeps.of_below hk2) (fun u3 hu3 => ?_)
    clear hK K
    have hk3 := Below.hop hk2 hu3
    replace o2 := o2.below hu3
    replace o3 := o3.below hu3
    replace o4 := o4.below hu3
    replace hw := Below.hop hw hu3
    clear hk2 hcm
    refine chain_mem (fun K hK => ?_)
    go_simp
    refine hK _ _ (Keeps.of_below hk3) (fun u4 hu4 => ?_)
    clear hK K
    replace o2 := o2.below hu4
    replace o3 := o3.below hu4
    replace o4 := o4.below hu4
    replace hw := Below.hop hw hu4
    clear hk3 hu hu1 hu2 hu3 hu4
    have o2c := o2.cell
    have o2f := o2.thaw
    have o3c := o3.cell
    have o4c := o4.cell
    have o4f := o4.thaw
    refine chain_nil ?_
    (try simp only [Act.put, List.setIfInBounds_toArray, List.set_cons_zero, List.set_cons_succ])
    have HM := Lib.hid hmi
    clear hmi
    rcases (show q0 % 5 = 0 ∨ q0 % 5 = 1 ∨ q0 % 5 = 2 ∨ q0 % 5 = 3 ∨ q0 % 5 = 4 by omega) with hr | hr | hr | hr | hr
    · have HR := Lib.hid (congrArg (Value.int IntKind.i64) hr)
      clear hr
      go_wp2_with fail
      refine Calls.mono (callv (ref1_Mod q0 5 (by omega) (by omega) _) HR.out) ?_
      rintro e wz ⟨rfl, rfl⟩
      go_wp2
      refine retC (b := w.heap.size + 1 + 1) (v := Pl.v ⟨⟨m, y, z⟩, b⟩) (by repeat' (first | (with_reducible assumption) | ((with_reducible apply Own.new); (focus (first | rfl | omega | (simp; done) | (simp; omega)))) | (with_reducible apply Own.set) | (with_reducible apply Own.alloc) | (with_reducible apply Own.drew) | ((with_reducible apply Own.far); case hp => (focus (first | rfl | omega | (simp; done) | (simp; omega)))))) (fun w' hw' => by simp [results, Try.results37, go_sem, hw']) rfl ?_
      exact ⟨⟨⟨m, y, z⟩, b⟩, rfl, ⟨⟨HM.out, HY.out, HZ.out⟩, HB.out⟩, (((((hw.setCell (by first | (simp; done) | (simp; omega)) _).setCell (by first | (simp; done) | (simp; omega)) _).setCell (by first | (simp; done) | (simp; omega)) _).setCell (by first | (simp; done) | (simp; omega)) _).setCell (by first | (simp; done) | (simp; omega)) _)⟩
    · have HR := Lib.hid (congrArg (Value.int IntKind.i64) hr)
      clear hr
      go_wp2_with fail
      refine Calls.mono (callv (ref1_Mod q0 5 (by omega) (by omega) _) HR.out) ?_
      rintro e wz ⟨rfl, rfl⟩
      go_wp2
      refine retC (b := w.heap.size + 1 + 1) (v := Pl.v ⟨⟨x, m, z⟩, b⟩) (by repeat' (first | (with_reducible assumption) | ((with_reducible apply Own.new); (focus (first | rfl | omega | (simp; done) | (simp; omega)))) | (with_reducible apply Own.set) | (with_reducible apply Own.alloc) | (with_reducible apply Own.drew) | ((with_reducible apply Own.far); case hp => (focus (first | rfl | omega | (simp; done) | (simp; omega)))))) (fun w' hw' => by simp [results, Try.results37, go_sem, hw']) rfl ?_
      exact ⟨⟨⟨x, m, z⟩, b⟩, rfl, ⟨⟨HX.out, HM.out, HZ.out⟩, HB.out⟩, (((((hw.setCell (by first | (simp; done) | (simp; omega)) _).setCell (by first | (simp; done) | (simp; omega)) _).setCell (by first | (simp; done) | (simp; omega)) _).setCell (by first | (simp; done) | (simp; omega)) _).setCell (by first | (simp; done) | (simp; omega)) _)⟩
    · have HR := Lib.hid (congrArg (Value.int IntKind.i64) hr)
      clear hr
      go_wp2_with fail
      refine Calls.mono (callv (ref1_Mod q0 5 (by omega) (by omega) _) HR.out) ?_
      rintro e wz ⟨rfl, rfl⟩
      go_wp2
      refine retC (b := w.heap.size + 1 + 1) (v := Pl.v ⟨⟨x, y, m⟩, b⟩) (by repeat' (first | (with_reducible assumption) | ((with_reducible apply Own.new); (focus (first | rfl | omega | (simp; done) | (simp; omega)))) | (with_reducible apply Own.set) | (with_reducible apply Own.alloc) | (with_reducible apply Own.drew) | ((with_reducible apply Own.far); case hp => (focus (first | rfl | omega | (simp; done) | (simp; omega)))))) (fun w' hw' => by simp [results, Try.results37, go_sem, hw']) rfl ?_
      exact ⟨⟨⟨x, y, m⟩, b⟩, rfl, ⟨⟨HX.out, HY.out, HM.out⟩, HB.out⟩, (((((hw.setCell (by first | (simp; done) | (simp; omega)) _).setCell (by first | (simp; done) | (simp; omega)) _).setCell (by first | (simp; done) | (simp; omega)) _).setCell (by first | (simp; done) | (simp; omega)) _).setCell (by first | (simp; done) | (simp; omega)) _)⟩
    · have HR := Lib.hid (congrArg (Value.int IntKind.i64) hr)
      clear hr
      go_wp2_with fail
      refine Calls.mono (callv (ref1_Mod q0 5 (by omega) (by omega) _) HR.out) ?_
      rintro e wz ⟨rfl, rfl⟩
      go_wp2
      refine retC (b := w.heap.size + 1 + 1) (v := Pl.v ⟨⟨x, y, z⟩, m⟩) (by repeat' (first | (with_reducible assumption) | ((with_reducible apply Own.new); (focus (first | rfl | omega | (simp; done) | (simp; omega)))) | (with_reducible apply Own.set) | (with_reducible apply Own.alloc) | (with_reducible apply Own.drew) | ((with_reducible apply Own.far); case hp => (focus (first | rfl | omega | (simp; done) | (simp; omega)))))) (fun w' hw' => by simp [results, Try.results37, go_sem, hw']) rfl ?_
      exact ⟨⟨⟨x, y, z⟩, m⟩, rfl, ⟨⟨HX.out, HY.out, HZ.out⟩, HM.out⟩, (((((hw.setCell (by first | (simp; done) | (simp; omega)) _).setCell (by first | (simp; done) | (simp; omega)) _).setCell (by first | (simp; done) | (simp; omega)) _).setCell (by first | (simp; done) | (simp; omega)) _).setCell (by first | (simp; done) | (simp; omega)) _)⟩
    · have HR := Lib.hid (congrArg (Value.int IntKind.i64) hr)
      clear hr
      go_wp2_with fail
      refine Calls.mono (callv (ref1_Mod q0 5 (by omega) (by omega) _) HR.out) ?_
      rintro e wz ⟨rfl, rfl⟩
      go_wp2
      refine retC (b := w.heap.size + 1 + 1) (v := Pl.v ⟨⟨wrap64 (2 * x), wrap64 (2 * y), wrap64 (2 * z)⟩, b⟩) (by repeat' (first | (with_reducible assumption) | ((with_reducible apply Own.new); (focus (first | rfl | omega | (simp; done) | (simp; omega)))) | (with_reducible apply Own.set) | (with_reducible apply Own.alloc) | (with_reducible apply Own.drew) | ((with_reducible apply Own.far); case hp => (focus (first | rfl | omega | (simp; done) | (simp; omega)))))) (fun w' hw' => by simp [results, Try.results37, go_sem, hw']) rfl ?_
      exact ⟨⟨⟨wrap64 (2 * x), wrap64 (2 * y), wrap64 (2 * z)⟩, b⟩, rfl, ⟨⟨wr_I _, wr_I _, wr_I _⟩, HB.out⟩, (((((((hw.setCell (by first | (simp; done) | (simp; omega)) _).setCell (by first | (simp; done) | (simp; omega)) _).setCell (by first | (simp; done) | (simp; omega)) _).setCell (by first | (simp; done) | (simp; omega)) _).setCell (by first | (simp; done) | (simp; omega)) _).setCell (by first | (simp; done) | (simp; omega)) _).setCell (by first | (simp; done) | (simp; omega)) _)⟩
end Go.Proofs.Ythijnggeoinlfaa
