/- The law ContactTurns returns true. The numbers are int64, and the slice reads as int64 numbers. -/
import Derived.Test.YthijnggeoinlfaaSan25
import Derived.Test.YthijnggeoinlfaaCtN
import Derived.Test.YthijnggeoinlfaaTurnsM
namespace Go.Proofs.Ythijnggeoinlfaa
open Go.RowKit

theorem has_at {c : Ct} (h : CtOk c) {x : V3} (hx : vIn x = true) (f : V3) : cHas ⟨x, c.n, c.mn, c.md⟩ f = cHas c f := by
  have h2 : CtOk ⟨x, c.n, c.mn, c.md⟩ := ⟨hx, h.u, h.n1, h.n2, h.d1, h.d2⟩
  unfold cHas
  rw [h.check, h2.check]
theorem turns_law {c : Ct} (h : CtOk c) (f0 f1 f2 : Int) : ∃ s0 s1 s2 U q0 q1 q2 i0 i1 i2 y0 y1 y2 p0 p1 p2 B, (vSmall ⟨f0, f1, f2⟩).v = vV s0 s1 s2 ∧ Value.int IntKind.i64 (vDot ⟨s0, s1, s2⟩ ⟨c.n.x, c.n.y, c.n.z⟩) = .int .i64 U ∧
    (vCross ⟨c.n.x, c.n.y, c.n.z⟩ ⟨s0, s1, s2⟩).v = vV p0 p1 p2 ∧ (vSum ⟨p0, p1, p2⟩ U ⟨c.n.x, c.n.y, c.n.z⟩).v = vV q0 q1 q2 ∧ (vSum ⟨0, 0, 0⟩ (-1) ⟨s0, s1, s2⟩).v = vV i0 i1 i2 ∧
    (vSum ⟨i0, i1, i2⟩ (wrap64 (2 * U)) ⟨c.n.x, c.n.y, c.n.z⟩).v = vV y0 y1 y2 ∧ cHas c ⟨s0, s1, s2⟩ = B ∧ Value.bool (cHas c ⟨q0, q1, q2⟩) = .bool B ∧ Value.bool (cHas c ⟨y0, y1, y2⟩) = .bool B := by
  have hb := small_Bd ⟨f0, f1, f2⟩
  have h1 := has_quarter h hb
  have h2 := has_half h hb
  exact ⟨_, _, _, _, _, _, _, _, _, _, _, _, _, _, _, _, _, rfl, rfl, rfl, rfl, rfl, rfl, rfl, congrArg Value.bool h1, congrArg Value.bool h2⟩

set_option maxRecDepth 100000 in
set_option maxHeartbeats 4000000 in
theorem law25_Turns_walk (A : Option Addr) (n cap : Nat) (l : List Int) (f0 f1 f2 : Int) (w : World) (hl : SliceI w A n l) (hcap : n ≤ cap) (hcap2 : cap ≤ 9223372036854775807) :
    Calls Try.prog 12 #[.slice A n cap, vV f0 f1 f2] w fun r w' => r = .returned (.bool true) ∧ Below w.heap.size w w' := by
  have hl2 := hl.cutTo 6
  have HL := Lib.hid hl
  have hm := minNat n 6
  obtain ⟨N, hN⟩ : ∃ N, min n 6 = N := ⟨_, rfl⟩
  have hN1 : (N : Int) ≤ (cap : Int) := by omega
  have hN0 : 0 ≤ (N : Int) := by omega
  rw [hN] at hl2 hm
  have HM6 := Lib.hid hl2
  clear hl hl2 hN
  have hn0 : 0 ≤ (n : Int) := by omega
  have hn1 : (n : Int) ≤ (cap : Int) := by omega
  have hn2 : (cap : Int) ≤ 9223372036854775807 := by omega
  simp only [Int.cast_ofNat_Int] at hm
  go_enter Try.func12, Try.ntmps12
  go_wp2_with fail
  refine Calls.mono (law25_sanity _) ?_
  rintro e w1 ⟨rfl, hbx⟩
  have of : Own w1 (w.heap.size) #[.int .i64 f0, .int .i64 f1, .int .i64 f2] := Own.below (by repeat' (first | ((refine Own.new ?_); (focus (first | rfl | omega | (simp; done) | (simp; omega)))) | assumption | refine Own.alloc ?_ _ | refine Own.drew ?_ | (refine Own.far ?_ ?_ _; rotate_left; (focus (first | rfl | omega | (simp; done) | (simp; omega)))))) hbx
  have ofc := of.cell
  have off := of.thaw
  have ofz := of.lt
  have hw : Below w.heap.size w w1 := Below.hop (by repeat' (first | exact Below.refl _ _ | assumption | (refine Below.alloc ?_ ?_ _; rotate_left; (focus (first | rfl | omega | (simp; done) | (simp; omega)))) | (refine Below.setCell ?_ ?_ _; rotate_left; (focus (first | rfl | omega | (simp; done) | (simp; omega)))) | refine Below.drew ?_)) hbx
  have hz := hw.size
  clear hbx
  go_wp2_with fail
  refine Calls.mono (law25_made A n cap _ _ (HL.out.below hw) (by omega) (by omega)) ?_
  rintro e w2 ⟨⟨⟨c0, c1, c2⟩, ⟨cn0, cn1, cn2⟩, cm, cd⟩, rfl, hok, hbx⟩
  have Hhok := Lib.hid hok
  clear hok
  replace of : Own w2 (w.heap.size) #[.int .i64 f0, .int .i64 f1, .int .i64 f2] := Own.below (by repeat' (first | ((refine Own.new ?_); (focus (first | rfl | omega | (simp; done) | (simp; omega)))) | assumption | refine Own.alloc ?_ _ | refine Own.drew ?_ | (refine Own.far ?_ ?_ _; rotate_left; (focus (first | rfl | omega | (simp; done) | (simp; omega)))))) hbx
  replace ofc := of.cell
  replace off := of.thaw
  replace ofz := of.lt
  replace hw : Below w.heap.size w w2 := Below.hop (by repeat' (first | exact Below.refl _ _ | assumption | (refine Below.alloc ?_ ?_ _; rotate_left; (focus (first | rfl | omega | (simp; done) | (simp; omega)))) | (refine Below.setCell ?_ ?_ _; rotate_left; (focus (first | rfl | omega | (simp; done) | (simp; omega)))) | refine Below.drew ?_)) hbx
  replace hz := hw.size
  clear hbx
  have hmv := turns_law Hhok.out f0 f1 f2
  obtain ⟨s0, s1, s2, U, q0, q1, q2, i0, i1, i2, y0, y1, y2, p0, p1, p2, B, e1, e2, e3, e4, e5, e6, e7, e8, e9⟩ := hmv
  (try dsimp only at e1)
  have H1 := Lib.hid e1
  (try dsimp only at e2)
  have H2 := Lib.hid e2
  (try dsimp only at e3)
  have H3 := Lib.hid e3
  (try dsimp only at e4)
  have H4 := Lib.hid e4
  (try dsimp only at e5)
  have H5 := Lib.hid e5
  (try dsimp only at e6)
  have H6 := Lib.hid e6
  (try dsimp only at e7)
  have H7 := Lib.hid e7
  (try dsimp only at e8)
  have H8 := Lib.hid e8
  (try dsimp only at e9)
  have H9 := Lib.hid e9
  clear e1 e2 e3 e4 e5 e6 e7 e8 e9
  go_wp2_with fail
  have hcb : w.heap.size < w2.heap.size := ofz
  have qocof : w.heap.size < w2.heap.size := ofz
  have w3s : (w2.alloc (.cells #[.int .i64 c0, .int .i64 c1, .int .i64 c2, .int .i64 cn0, .int .i64 cn1, .int .i64 cn2, .int .i64 cm, .int .i64 cd] 66)).heap.size = w2.heap.size + 1 := by simp
  have w3e := Lib.hid w3s
  clear w3s
  have oc : Own ((w2.alloc (.cells #[.int .i64 c0, .int .i64 c1, .int .i64 c2, .int .i64 cn0, .int .i64 cn1, .int .i64 cn2, .int .i64 cm, .int .i64 cd] 66))) (w2.heap.size) #[.int .i64 c0, .int .i64 c1, .int .i64 c2, .int .i64 cn0, .int .i64 cn1, .int .i64 cn2, .int .i64 cm, .int .i64 cd] := Own.new rfl
  replace of : Own ((w2.alloc (.cells #[.int .i64 c0, .int .i64 c1, .int .i64 c2, .int .i64 cn0, .int .i64 cn1, .int .i64 cn2, .int .i64 cm, .int .i64 cd] 66))) (w.heap.size) #[.int .i64 f0, .int .i64 f1, .int .i64 f2] := (by repeat' (first | ((refine Own.new ?_); (focus (first | rfl | omega | (simp; done) | (simp; omega)))) | assumption | refine Own.alloc ?_ _ | refine Own.drew ?_ | (refine Own.far ?_ ?_ _; rotate_left; (focus (first | rfl | omega | (simp; done) | (simp; omega))))))
  clear ofc off ofz
  replace hw : Below w.heap.size w ((w2.alloc (.cells #[.int .i64 c0, .int .i64 c1, .int .i64 c2, .int .i64 cn0, .int .i64 cn1, .int .i64 cn2, .int .i64 cm, .int .i64 cd] 66))) := (by repeat' (first | exact Below.refl _ _ | assumption | (refine Below.alloc ?_ ?_ _; rotate_left; (focus (first | rfl | omega | (simp; done) | (simp; omega)))) | (refine Below.setCell ?_ ?_ _; rotate_left; (focus (first | rfl | omega | (simp; done) | (simp; omega)))) | refine Below.drew ?_))
  generalize (w2.alloc (.cells #[.int .i64 c0, .int .i64 c1, .int .i64 c2, .int .i64 cn0, .int .i64 cn1, .int .i64 cn2, .int .i64 cm, .int .i64 cd] 66)) = w3 at *
  have ofc := of.cell
  have off := of.thaw
  have ofz := of.lt
  have occ := oc.cell
  have ocf := oc.thaw
  have ocz := oc.lt
  replace hz := hw.size
  generalize w2.heap.size = cb at *
  refine Calls.mono (callv (law25_small f0 f1 f2 _) H1.out) ?_
  rintro e w4 ⟨rfl, hbx⟩
  replace of : Own w4 (w.heap.size) #[.int .i64 f0, .int .i64 f1, .int .i64 f2] := Own.below (by repeat' (first | ((refine Own.new ?_); (focus (first | rfl | omega | (simp; done) | (simp; omega)))) | assumption | refine Own.alloc ?_ _ | refine Own.drew ?_ | (refine Own.far ?_ ?_ _; rotate_left; (focus (first | rfl | omega | (simp; done) | (simp; omega)))))) hbx
  replace ofc := of.cell
  replace off := of.thaw
  replace ofz := of.lt
  replace oc : Own w4 (cb) #[.int .i64 c0, .int .i64 c1, .int .i64 c2, .int .i64 cn0, .int .i64 cn1, .int .i64 cn2, .int .i64 cm, .int .i64 cd] := Own.below (by repeat' (first | ((refine Own.new ?_); (focus (first | rfl | omega | (simp; done) | (simp; omega)))) | assumption | refine Own.alloc ?_ _ | refine Own.drew ?_ | (refine Own.far ?_ ?_ _; rotate_left; (focus (first | rfl | omega | (simp; done) | (simp; omega)))))) hbx
  replace occ := oc.cell
  replace ocf := oc.thaw
  replace ocz := oc.lt
  replace hw : Below w.heap.size w w4 := Below.hop (by repeat' (first | exact Below.refl _ _ | assumption | (refine Below.alloc ?_ ?_ _; rotate_left; (focus (first | rfl | omega | (simp; done) | (simp; omega)))) | (refine Below.setCell ?_ ?_ _; rotate_left; (focus (first | rfl | omega | (simp; done) | (simp; omega)))) | refine Below.drew ?_)) hbx
  replace hz := hw.size
  clear hbx
  go_wp2_with fail
  have tof : Own (((((((w4).setCell ⟨w.heap.size, 0, none⟩ (.int .i64 s0))).setCell ⟨w.heap.size, 1, none⟩ (.int .i64 s1))).setCell ⟨w.heap.size, 2, none⟩ (.int .i64 s2))) (w.heap.size) #[.int .i64 s0, .int .i64 s1, .int .i64 s2] := (((of.set 0 _).set 1 _).set 2 _)
  clear ofc off ofz of
  replace oc : Own (((((((w4).setCell ⟨w.heap.size, 0, none⟩ (.int .i64 s0))).setCell ⟨w.heap.size, 1, none⟩ (.int .i64 s1))).setCell ⟨w.heap.size, 2, none⟩ (.int .i64 s2))) (cb) #[.int .i64 c0, .int .i64 c1, .int .i64 c2, .int .i64 cn0, .int .i64 cn1, .int .i64 cn2, .int .i64 cm, .int .i64 cd] := (((oc.far (by first | (simp; done) | (simp; omega)) _).far (by first | (simp; done) | (simp; omega)) _).far (by first | (simp; done) | (simp; omega)) _)
  clear occ ocf ocz
  replace hw : Below w.heap.size w (((((((w4).setCell ⟨w.heap.size, 0, none⟩ (.int .i64 s0))).setCell ⟨w.heap.size, 1, none⟩ (.int .i64 s1))).setCell ⟨w.heap.size, 2, none⟩ (.int .i64 s2))) := (((hw.setCell (by first | (simp; done) | (simp; omega)) _).setCell (by first | (simp; done) | (simp; omega)) _).setCell (by first | (simp; done) | (simp; omega)) _)
  have of := tof
  clear tof
  have w5s : (((((((w4).setCell ⟨w.heap.size, 0, none⟩ (.int .i64 s0))).setCell ⟨w.heap.size, 1, none⟩ (.int .i64 s1))).setCell ⟨w.heap.size, 2, none⟩ (.int .i64 s2))).heap.size = w4.heap.size := by simp
  generalize ((((((w4).setCell ⟨w.heap.size, 0, none⟩ (.int .i64 s0))).setCell ⟨w.heap.size, 1, none⟩ (.int .i64 s1))).setCell ⟨w.heap.size, 2, none⟩ (.int .i64 s2)) = w5 at *
  have w5e := Lib.hid w5s
  clear w5s
  have occ := oc.cell
  have ocf := oc.thaw
  have ocz := oc.lt
  have ofc := of.cell
  have off := of.thaw
  have ofz := of.lt
  replace hz := hw.size
  have w6s : (w5.alloc (.cells #[.int .i64 cn0, .int .i64 cn1, .int .i64 cn2] 24)).heap.size = w4.heap.size + 1 := by rw [World.size_alloc, w5e.out]
  have w6e := Lib.hid w6s
  clear w6s
  have on : Own ((w5.alloc (.cells #[.int .i64 cn0, .int .i64 cn1, .int .i64 cn2] 24))) (w4.heap.size) #[.int .i64 cn0, .int .i64 cn1, .int .i64 cn2] := Own.new w5e.out.symm
  replace oc : Own ((w5.alloc (.cells #[.int .i64 cn0, .int .i64 cn1, .int .i64 cn2] 24))) (cb) #[.int .i64 c0, .int .i64 c1, .int .i64 c2, .int .i64 cn0, .int .i64 cn1, .int .i64 cn2, .int .i64 cm, .int .i64 cd] := (by repeat' (first | ((refine Own.new ?_); (focus (first | rfl | omega | (simp; done) | (simp; omega)))) | assumption | refine Own.alloc ?_ _ | refine Own.drew ?_ | (refine Own.far ?_ ?_ _; rotate_left; (focus (first | rfl | omega | (simp; done) | (simp; omega))))))
  clear occ ocf ocz
  replace of : Own ((w5.alloc (.cells #[.int .i64 cn0, .int .i64 cn1, .int .i64 cn2] 24))) (w.heap.size) #[.int .i64 s0, .int .i64 s1, .int .i64 s2] := (by repeat' (first | ((refine Own.new ?_); (focus (first | rfl | omega | (simp; done) | (simp; omega)))) | assumption | refine Own.alloc ?_ _ | refine Own.drew ?_ | (refine Own.far ?_ ?_ _; rotate_left; (focus (first | rfl | omega | (simp; done) | (simp; omega))))))
  clear ofc off ofz
  replace hw : Below w.heap.size w ((w5.alloc (.cells #[.int .i64 cn0, .int .i64 cn1, .int .i64 cn2] 24))) := (by repeat' (first | exact Below.refl _ _ | assumption | (refine Below.alloc ?_ ?_ _; rotate_left; (focus (first | rfl | omega | (simp; done) | (simp; omega)))) | (refine Below.setCell ?_ ?_ _; rotate_left; (focus (first | rfl | omega | (simp; done) | (simp; omega)))) | refine Below.drew ?_))
  generalize (w5.alloc (.cells #[.int .i64 cn0, .int .i64 cn1, .int .i64 cn2] 24)) = w6 at *
  have occ := oc.cell
  have ocf := oc.thaw
  have ocz := oc.lt
  have ofc := of.cell
  have off := of.thaw
  have ofz := of.lt
  have onc := on.cell
  have onf := on.thaw
  have onz := on.lt
  replace hz := hw.size
  refine Calls.mono (callv (plane_Dot _ _ _ _ _ _ _) H2.out) ?_
  rintro e w7 ⟨rfl, hbx⟩
  replace oc : Own w7 (cb) #[.int .i64 c0, .int .i64 c1, .int .i64 c2, .int .i64 cn0, .int .i64 cn1, .int .i64 cn2, .int .i64 cm, .int .i64 cd] := Own.below (by repeat' (first | ((refine Own.new ?_); (focus (first | rfl | omega | (simp; done) | (simp; omega)))) | assumption | refine Own.alloc ?_ _ | refine Own.drew ?_ | (refine Own.far ?_ ?_ _; rotate_left; (focus (first | rfl | omega | (simp; done) | (simp; omega)))))) hbx
  replace occ := oc.cell
  replace ocf := oc.thaw
  replace ocz := oc.lt
  replace of : Own w7 (w.heap.size) #[.int .i64 s0, .int .i64 s1, .int .i64 s2] := Own.below (by repeat' (first | ((refine Own.new ?_); (focus (first | rfl | omega | (simp; done) | (simp; omega)))) | assumption | refine Own.alloc ?_ _ | refine Own.drew ?_ | (refine Own.far ?_ ?_ _; rotate_left; (focus (first | rfl | omega | (simp; done) | (simp; omega)))))) hbx
  replace ofc := of.cell
  replace off := of.thaw
  replace ofz := of.lt
  replace on : Own w7 (w4.heap.size) #[.int .i64 cn0, .int .i64 cn1, .int .i64 cn2] := Own.below (by repeat' (first | ((refine Own.new ?_); (focus (first | rfl | omega | (simp; done) | (simp; omega)))) | assumption | refine Own.alloc ?_ _ | refine Own.drew ?_ | (refine Own.far ?_ ?_ _; rotate_left; (focus (first | rfl | omega | (simp; done) | (simp; omega)))))) hbx
  replace onc := on.cell
  replace onf := on.thaw
  replace onz := on.lt
  replace hw : Below w.heap.size w w7 := Below.hop (by repeat' (first | exact Below.refl _ _ | assumption | (refine Below.alloc ?_ ?_ _; rotate_left; (focus (first | rfl | omega | (simp; done) | (simp; omega)))) | (refine Below.setCell ?_ ?_ _; rotate_left; (focus (first | rfl | omega | (simp; done) | (simp; omega)))) | refine Below.drew ?_)) hbx
  replace hz := hw.size
  clear hbx
  go_wp2
  refine region_late 6 [] (by kernel_rfl) (by kernel_rfl) (by rfl) ?_
  apply Exists.intro
  refine ⟨fun v hv hne => ?_, fun u hu => ?_⟩
  · simp only [List.take_succ_cons, List.take_zero]
    have doc := fun x => (oc.later (v := v) (T := []) (by first | (simp; done) | (simp; omega)) x).cell
    have dof := fun x => (of.later (v := v) (T := []) (by first | (simp; done) | (simp; omega)) x).cell
    have don := fun x => (on.later (v := v) (T := []) (by first | (simp; done) | (simp; omega)) x).cell
    repeat (go_big_quiet_step ((first | (go_at_call 31; with_reducible exact lateB (callv (plane_Cross _ _ _ _ _ _ _) H3.out)) | (go_at_call 64; with_reducible exact lateB (callv (law25_sum _ _ _ _ _ _ _ _) H4.out)))))
    refine wpQuiet_nil ?_
    exact rfl
  · simp only [List.drop_succ_cons, List.drop_zero]
    skip
    refine late_mem (fun K hK => ?_)
    go_simp
    refine hK _ _ ((Keeps.of_below hu).alloc _) (fun ua2 hu2 => ?_)
    clear hK K
    have hk2 : Keeps [] w7 ua2 := ((Keeps.of_below (T := []) hu).alloc _).later hu2
    have oq : Own ua2 u.heap.size #[.int .i64 0, .int .i64 0, .int .i64 0] := Own.below (Own.new rfl) hu2
    have oqc := oq.cell
    have oqf := oq.thaw
    have oqg : w7.heap.size ≤ u.heap.size := hu.size
    replace hw := Below.hop ((Below.hop hw hu).alloc (by have := hw.size; have := hu.size; omega) _) hu2
    have hwz := hw.size
    have oqy : w.heap.size ≤ u.heap.size := by omega
    refine late_mem (fun K hK => ?_)
    go_simp
    refine hK _ _ (((hk2.new oqg _).new oqg _).new oqg _) (fun ua3 hu3 => ?_)
    clear hK K
    have hk3 : Keeps [] w7 ua3 := (((hk2.new oqg _).new oqg _).new oqg _).later hu3
    replace oq : Own ua3 u.heap.size #[.int .i64 q0, .int .i64 q1, .int .i64 q2] := (((oq.set 0 _).set 1 _).set 2 _).below hu3
    replace hw := Below.hop (((hw.setCell oqy _).setCell oqy _).setCell oqy _) hu3
    clear oqc oqf hk2
    replace oc : Own ua3 (cb) #[.int .i64 c0, .int .i64 c1, .int .i64 c2, .int .i64 cn0, .int .i64 cn1, .int .i64 cn2, .int .i64 cm, .int .i64 cd] := oc.keeps hk3 (by simp)
    replace of : Own ua3 (w.heap.size) #[.int .i64 s0, .int .i64 s1, .int .i64 s2] := of.keeps hk3 (by simp)
    replace on : Own ua3 (w4.heap.size) #[.int .i64 cn0, .int .i64 cn1, .int .i64 cn2] := on.keeps hk3 (by simp)
    refine late_nil ?_
    (try simp only [Act.put, List.setIfInBounds_toArray, List.set_cons_zero, List.set_cons_succ])
    clear hk3 hu hu2 hu3 hwz
    generalize u.heap.size = oqb at *
    replace hz := hw.size
    clear u
    replace occ := oc.cell
    replace ocf := oc.thaw
    replace ocz := oc.lt
    replace ofc := of.cell
    replace off := of.thaw
    replace ofz := of.lt
    replace onc := on.cell
    replace onf := on.thaw
    replace onz := on.lt
    replace oqc := oq.cell
    replace oqf := oq.thaw
    replace oqz := oq.lt
    go_wp2
    refine region_late 7 [] (by kernel_rfl) (by kernel_rfl) (by rfl) ?_
    apply Exists.intro
    refine ⟨fun v hv hne => ?_, fun u hu => ?_⟩
    · simp only [List.take_succ_cons, List.take_zero]
      have doc := fun x => (oc.later (v := v) (T := []) (by first | (simp; done) | (simp; omega)) x).cell
      have dof := fun x => (of.later (v := v) (T := []) (by first | (simp; done) | (simp; omega)) x).cell
      have don := fun x => (on.later (v := v) (T := []) (by first | (simp; done) | (simp; omega)) x).cell
      have doq := fun x => (oq.later (v := v) (T := []) (by first | (simp; done) | (simp; omega)) x).cell
      repeat (go_big_quiet_step ((first | (go_at_call 64; with_reducible exact lateB (callv (law25_sum _ _ _ _ _ _ _ _) H5.out)) | (go_at_call 64; with_reducible exact lateB (callv (law25_sum _ _ _ _ _ _ _ _) H6.out)))))
      refine wpQuiet_nil ?_
      exact rfl
    · simp only [List.drop_succ_cons, List.drop_zero]
      skip
      refine late_mem (fun K hK => ?_)
      go_simp
      refine hK _ _ ((Keeps.of_below hu).alloc _) (fun ub2 hu2 => ?_)
      clear hK K
      have hk2 : Keeps [] ua3 ub2 := ((Keeps.of_below (T := []) hu).alloc _).later hu2
      have oy : Own ub2 u.heap.size #[.int .i64 0, .int .i64 0, .int .i64 0] := Own.below (Own.new rfl) hu2
      have oyc := oy.cell
      have oyf := oy.thaw
      have oyg : ua3.heap.size ≤ u.heap.size := hu.size
      replace hw := Below.hop ((Below.hop hw hu).alloc (by have := hw.size; have := hu.size; omega) _) hu2
      have hwz := hw.size
      have oyy : w.heap.size ≤ u.heap.size := by omega
      refine late_mem (fun K hK => ?_)
      go_simp
      refine hK _ _ (((hk2.new oyg _).new oyg _).new oyg _) (fun ub3 hu3 => ?_)
      clear hK K
      have hk3 : Keeps [] ua3 ub3 := (((hk2.new oyg _).new oyg _).new oyg _).later hu3
      replace oy : Own ub3 u.heap.size #[.int .i64 y0, .int .i64 y1, .int .i64 y2] := (((oy.set 0 _).set 1 _).set 2 _).below hu3
      replace hw := Below.hop (((hw.setCell oyy _).setCell oyy _).setCell oyy _) hu3
      clear oyc oyf hk2
      replace oc : Own ub3 (cb) #[.int .i64 c0, .int .i64 c1, .int .i64 c2, .int .i64 cn0, .int .i64 cn1, .int .i64 cn2, .int .i64 cm, .int .i64 cd] := oc.keeps hk3 (by simp)
      replace of : Own ub3 (w.heap.size) #[.int .i64 s0, .int .i64 s1, .int .i64 s2] := of.keeps hk3 (by simp)
      replace on : Own ub3 (w4.heap.size) #[.int .i64 cn0, .int .i64 cn1, .int .i64 cn2] := on.keeps hk3 (by simp)
      replace oq : Own ub3 (oqb) #[.int .i64 q0, .int .i64 q1, .int .i64 q2] := oq.keeps hk3 (by simp)
      refine late_nil ?_
      (try simp only [Act.put, List.setIfInBounds_toArray, List.set_cons_zero, List.set_cons_succ])
      clear hk3 hu hu2 hu3 hwz
      generalize u.heap.size = oyb at *
      replace hz := hw.size
      clear u
      replace occ := oc.cell
      replace ocf := oc.thaw
      replace ocz := oc.lt
      replace ofc := of.cell
      replace off := of.thaw
      replace ofz := of.lt
      replace onc := on.cell
      replace onf := on.thaw
      replace onz := on.lt
      replace oqc := oq.cell
      replace oqf := oq.thaw
      replace oqz := oq.lt
      replace oyc := oy.cell
      replace oyf := oy.thaw
      replace oyz := oy.lt
      go_wp2_with fail
      have hd0 : DrawAt (ub3.alloc (.cells #[.slice A N cap, .int .i64 0] 85)) ub3.heap.size (l.take 6) := DrawAt.start (HM6.out.below hw)
      have HD0 := Lib.hid hd0
      clear hd0
      refine Calls.mono (ref7_Vec ub3.heap.size _ 8 (by omega) (by omega) _ HD0.out) ?_
      rintro e w8 ⟨rfl, hu8, hd8⟩
      clear hd8 HD0
      replace oc : Own w8 (cb) #[.int .i64 c0, .int .i64 c1, .int .i64 c2, .int .i64 cn0, .int .i64 cn1, .int .i64 cn2, .int .i64 cm, .int .i64 cd] := Own.upd (by repeat' (first | ((refine Own.new ?_); (focus (first | rfl | omega | (simp; done) | (simp; omega)))) | assumption | refine Own.alloc ?_ _ | refine Own.drew ?_ | (refine Own.far ?_ ?_ _; rotate_left; (focus (first | rfl | omega | (simp; done) | (simp; omega)))))) hu8 (by simp; omega)
      clear occ ocf ocz
      replace of : Own w8 (w.heap.size) #[.int .i64 s0, .int .i64 s1, .int .i64 s2] := Own.upd (by repeat' (first | ((refine Own.new ?_); (focus (first | rfl | omega | (simp; done) | (simp; omega)))) | assumption | refine Own.alloc ?_ _ | refine Own.drew ?_ | (refine Own.far ?_ ?_ _; rotate_left; (focus (first | rfl | omega | (simp; done) | (simp; omega)))))) hu8 (by simp; omega)
      clear ofc off ofz
      replace on : Own w8 (w4.heap.size) #[.int .i64 cn0, .int .i64 cn1, .int .i64 cn2] := Own.upd (by repeat' (first | ((refine Own.new ?_); (focus (first | rfl | omega | (simp; done) | (simp; omega)))) | assumption | refine Own.alloc ?_ _ | refine Own.drew ?_ | (refine Own.far ?_ ?_ _; rotate_left; (focus (first | rfl | omega | (simp; done) | (simp; omega)))))) hu8 (by simp; omega)
      clear onc onf onz
      replace oq : Own w8 (oqb) #[.int .i64 q0, .int .i64 q1, .int .i64 q2] := Own.upd (by repeat' (first | ((refine Own.new ?_); (focus (first | rfl | omega | (simp; done) | (simp; omega)))) | assumption | refine Own.alloc ?_ _ | refine Own.drew ?_ | (refine Own.far ?_ ?_ _; rotate_left; (focus (first | rfl | omega | (simp; done) | (simp; omega)))))) hu8 (by simp; omega)
      clear oqc oqf oqz
      replace oy : Own w8 (oyb) #[.int .i64 y0, .int .i64 y1, .int .i64 y2] := Own.upd (by repeat' (first | ((refine Own.new ?_); (focus (first | rfl | omega | (simp; done) | (simp; omega)))) | assumption | refine Own.alloc ?_ _ | refine Own.drew ?_ | (refine Own.far ?_ ?_ _; rotate_left; (focus (first | rfl | omega | (simp; done) | (simp; omega)))))) hu8 (by simp; omega)
      clear oyc oyf oyz
      replace hw : Below w.heap.size w w8 := Upd.below (by repeat' (first | exact Below.refl _ _ | assumption | (refine Below.alloc ?_ ?_ _; rotate_left; (focus (first | rfl | omega | (simp; done) | (simp; omega)))) | (refine Below.setCell ?_ ?_ _; rotate_left; (focus (first | rfl | omega | (simp; done) | (simp; omega)))) | refine Below.drew ?_)) hu8 (by simp; omega)
      clear hu8
      have occ := oc.cell
      have ocf := oc.thaw
      have ocz := oc.lt
      have ofc := of.cell
      have off := of.thaw
      have ofz := of.lt
      have onc := on.cell
      have onf := on.thaw
      have onz := on.lt
      have oqc := oq.cell
      have oqf := oq.thaw
      have oqz := oq.lt
      have oyc := oy.cell
      have oyf := oy.thaw
      have oyz := oy.lt
      replace hz := hw.size
      obtain ⟨⟨x0, x1, x2⟩, hx⟩ : ∃ X : V3, vecV (l.take 6) 8 = X := ⟨_, rfl⟩
      have vb := vecV_bd (l.take 6) 8 (by omega)
      rw [hx] at vb
      have h8 := has_at Hhok.out (x := ⟨x0, x1, x2⟩) (by unfold vIn inB; simp; simp only [] at vb; omega) ⟨s0, s1, s2⟩
      have H10 := Lib.hid (congrArg Value.bool (h8.trans H7.out))
      clear h8 vb
      simp only [hx]
      clear hx
      go_wp2
      clear hm HM6 HL hN1 hN0 hn0 hn1 hn2 hcap hcap2
      have qoxoc : cb < w8.heap.size := ocz
      have qoxof : w.heap.size < w8.heap.size := ofz
      have qoxon : w4.heap.size < w8.heap.size := onz
      have qoxoq : oqb < w8.heap.size := oqz
      have qoxoy : oyb < w8.heap.size := oyz
      have w9s : (w8.alloc (.cells #[.int .i64 x0, .int .i64 x1, .int .i64 x2] 24)).heap.size = w8.heap.size + 1 := by simp
      have w9e := Lib.hid w9s
      clear w9s
      have ox : Own ((w8.alloc (.cells #[.int .i64 x0, .int .i64 x1, .int .i64 x2] 24))) (w8.heap.size) #[.int .i64 x0, .int .i64 x1, .int .i64 x2] := Own.new rfl
      replace oc : Own ((w8.alloc (.cells #[.int .i64 x0, .int .i64 x1, .int .i64 x2] 24))) (cb) #[.int .i64 c0, .int .i64 c1, .int .i64 c2, .int .i64 cn0, .int .i64 cn1, .int .i64 cn2, .int .i64 cm, .int .i64 cd] := (by repeat' (first | ((refine Own.new ?_); (focus (first | rfl | omega | (simp; done) | (simp; omega)))) | assumption | refine Own.alloc ?_ _ | refine Own.drew ?_ | (refine Own.far ?_ ?_ _; rotate_left; (focus (first | rfl | omega | (simp; done) | (simp; omega))))))
      clear occ ocf ocz
      replace of : Own ((w8.alloc (.cells #[.int .i64 x0, .int .i64 x1, .int .i64 x2] 24))) (w.heap.size) #[.int .i64 s0, .int .i64 s1, .int .i64 s2] := (by repeat' (first | ((refine Own.new ?_); (focus (first | rfl | omega | (simp; done) | (simp; omega)))) | assumption | refine Own.alloc ?_ _ | refine Own.drew ?_ | (refine Own.far ?_ ?_ _; rotate_left; (focus (first | rfl | omega | (simp; done) | (simp; omega))))))
      clear ofc off ofz
      replace on : Own ((w8.alloc (.cells #[.int .i64 x0, .int .i64 x1, .int .i64 x2] 24))) (w4.heap.size) #[.int .i64 cn0, .int .i64 cn1, .int .i64 cn2] := (by repeat' (first | ((refine Own.new ?_); (focus (first | rfl | omega | (simp; done) | (simp; omega)))) | assumption | refine Own.alloc ?_ _ | refine Own.drew ?_ | (refine Own.far ?_ ?_ _; rotate_left; (focus (first | rfl | omega | (simp; done) | (simp; omega))))))
      clear onc onf onz
      replace oq : Own ((w8.alloc (.cells #[.int .i64 x0, .int .i64 x1, .int .i64 x2] 24))) (oqb) #[.int .i64 q0, .int .i64 q1, .int .i64 q2] := (by repeat' (first | ((refine Own.new ?_); (focus (first | rfl | omega | (simp; done) | (simp; omega)))) | assumption | refine Own.alloc ?_ _ | refine Own.drew ?_ | (refine Own.far ?_ ?_ _; rotate_left; (focus (first | rfl | omega | (simp; done) | (simp; omega))))))
      clear oqc oqf oqz
      replace oy : Own ((w8.alloc (.cells #[.int .i64 x0, .int .i64 x1, .int .i64 x2] 24))) (oyb) #[.int .i64 y0, .int .i64 y1, .int .i64 y2] := (by repeat' (first | ((refine Own.new ?_); (focus (first | rfl | omega | (simp; done) | (simp; omega)))) | assumption | refine Own.alloc ?_ _ | refine Own.drew ?_ | (refine Own.far ?_ ?_ _; rotate_left; (focus (first | rfl | omega | (simp; done) | (simp; omega))))))
      clear oyc oyf oyz
      replace hw : Below w.heap.size w ((w8.alloc (.cells #[.int .i64 x0, .int .i64 x1, .int .i64 x2] 24))) := (by repeat' (first | exact Below.refl _ _ | assumption | (refine Below.alloc ?_ ?_ _; rotate_left; (focus (first | rfl | omega | (simp; done) | (simp; omega)))) | (refine Below.setCell ?_ ?_ _; rotate_left; (focus (first | rfl | omega | (simp; done) | (simp; omega)))) | refine Below.drew ?_))
      generalize (w8.alloc (.cells #[.int .i64 x0, .int .i64 x1, .int .i64 x2] 24)) = w9 at *
      have occ := oc.cell
      have ocf := oc.thaw
      have ocz := oc.lt
      have ofc := of.cell
      have off := of.thaw
      have ofz := of.lt
      have onc := on.cell
      have onf := on.thaw
      have onz := on.lt
      have oqc := oq.cell
      have oqf := oq.thaw
      have oqz := oq.lt
      have oyc := oy.cell
      have oyf := oy.thaw
      have oyz := oy.lt
      have oxc := ox.cell
      have oxf := ox.thaw
      have oxz := ox.lt
      replace hz := hw.size
      generalize w8.heap.size = xb at *
      have qo2oc : cb < xb + 1 := by have := ocz; have := w9e.out; omega
      have qo2of : w.heap.size < xb + 1 := by have := ofz; have := w9e.out; omega
      have qo2on : w4.heap.size < xb + 1 := by have := onz; have := w9e.out; omega
      have qo2oq : oqb < xb + 1 := by have := oqz; have := w9e.out; omega
      have qo2oy : oyb < xb + 1 := by have := oyz; have := w9e.out; omega
      have qo2ox : xb < xb + 1 := by have := oxz; have := w9e.out; omega
      have w11s : (w9.alloc (.cells #[.int .i64 x0, .int .i64 x1, .int .i64 x2, .int .i64 cn0, .int .i64 cn1, .int .i64 cn2, .int .i64 cm, .int .i64 cd] 66)).heap.size = xb + 1 + 1 := by rw [World.size_alloc, w9e.out]
      have w11e := Lib.hid w11s
      clear w11s
      have o2 : Own ((w9.alloc (.cells #[.int .i64 x0, .int .i64 x1, .int .i64 x2, .int .i64 cn0, .int .i64 cn1, .int .i64 cn2, .int .i64 cm, .int .i64 cd] 66))) (xb + 1) #[.int .i64 x0, .int .i64 x1, .int .i64 x2, .int .i64 cn0, .int .i64 cn1, .int .i64 cn2, .int .i64 cm, .int .i64 cd] := Own.new w9e.out.symm
      replace oc : Own ((w9.alloc (.cells #[.int .i64 x0, .int .i64 x1, .int .i64 x2, .int .i64 cn0, .int .i64 cn1, .int .i64 cn2, .int .i64 cm, .int .i64 cd] 66))) (cb) #[.int .i64 c0, .int .i64 c1, .int .i64 c2, .int .i64 cn0, .int .i64 cn1, .int .i64 cn2, .int .i64 cm, .int .i64 cd] := (by repeat' (first | ((refine Own.new ?_); (focus (first | rfl | omega | (simp; done) | (simp; omega)))) | assumption | refine Own.alloc ?_ _ | refine Own.drew ?_ | (refine Own.far ?_ ?_ _; rotate_left; (focus (first | rfl | omega | (simp; done) | (simp; omega))))))
      clear occ ocf ocz
      replace of : Own ((w9.alloc (.cells #[.int .i64 x0, .int .i64 x1, .int .i64 x2, .int .i64 cn0, .int .i64 cn1, .int .i64 cn2, .int .i64 cm, .int .i64 cd] 66))) (w.heap.size) #[.int .i64 s0, .int .i64 s1, .int .i64 s2] := (by repeat' (first | ((refine Own.new ?_); (focus (first | rfl | omega | (simp; done) | (simp; omega)))) | assumption | refine Own.alloc ?_ _ | refine Own.drew ?_ | (refine Own.far ?_ ?_ _; rotate_left; (focus (first | rfl | omega | (simp; done) | (simp; omega))))))
      clear ofc off ofz
      replace on : Own ((w9.alloc (.cells #[.int .i64 x0, .int .i64 x1, .int .i64 x2, .int .i64 cn0, .int .i64 cn1, .int .i64 cn2, .int .i64 cm, .int .i64 cd] 66))) (w4.heap.size) #[.int .i64 cn0, .int .i64 cn1, .int .i64 cn2] := (by repeat' (first | ((refine Own.new ?_); (focus (first | rfl | omega | (simp; done) | (simp; omega)))) | assumption | refine Own.alloc ?_ _ | refine Own.drew ?_ | (refine Own.far ?_ ?_ _; rotate_left; (focus (first | rfl | omega | (simp; done) | (simp; omega))))))
      clear onc onf onz
      replace oq : Own ((w9.alloc (.cells #[.int .i64 x0, .int .i64 x1, .int .i64 x2, .int .i64 cn0, .int .i64 cn1, .int .i64 cn2, .int .i64 cm, .int .i64 cd] 66))) (oqb) #[.int .i64 q0, .int .i64 q1, .int .i64 q2] := (by repeat' (first | ((refine Own.new ?_); (focus (first | rfl | omega | (simp; done) | (simp; omega)))) | assumption | refine Own.alloc ?_ _ | refine Own.drew ?_ | (refine Own.far ?_ ?_ _; rotate_left; (focus (first | rfl | omega | (simp; done) | (simp; omega))))))
      clear oqc oqf oqz
      replace oy : Own ((w9.alloc (.cells #[.int .i64 x0, .int .i64 x1, .int .i64 x2, .int .i64 cn0, .int .i64 cn1, .int .i64 cn2, .int .i64 cm, .int .i64 cd] 66))) (oyb) #[.int .i64 y0, .int .i64 y1, .int .i64 y2] := (by repeat' (first | ((refine Own.new ?_); (focus (first | rfl | omega | (simp; done) | (simp; omega)))) | assumption | refine Own.alloc ?_ _ | refine Own.drew ?_ | (refine Own.far ?_ ?_ _; rotate_left; (focus (first | rfl | omega | (simp; done) | (simp; omega))))))
      clear oyc oyf oyz
      replace ox : Own ((w9.alloc (.cells #[.int .i64 x0, .int .i64 x1, .int .i64 x2, .int .i64 cn0, .int .i64 cn1, .int .i64 cn2, .int .i64 cm, .int .i64 cd] 66))) (xb) #[.int .i64 x0, .int .i64 x1, .int .i64 x2] := (by repeat' (first | ((refine Own.new ?_); (focus (first | rfl | omega | (simp; done) | (simp; omega)))) | assumption | refine Own.alloc ?_ _ | refine Own.drew ?_ | (refine Own.far ?_ ?_ _; rotate_left; (focus (first | rfl | omega | (simp; done) | (simp; omega))))))
      clear oxc oxf oxz
      replace hw : Below w.heap.size w ((w9.alloc (.cells #[.int .i64 x0, .int .i64 x1, .int .i64 x2, .int .i64 cn0, .int .i64 cn1, .int .i64 cn2, .int .i64 cm, .int .i64 cd] 66))) := (by repeat' (first | exact Below.refl _ _ | assumption | (refine Below.alloc ?_ ?_ _; rotate_left; (focus (first | rfl | omega | (simp; done) | (simp; omega)))) | (refine Below.setCell ?_ ?_ _; rotate_left; (focus (first | rfl | omega | (simp; done) | (simp; omega)))) | refine Below.drew ?_))
      generalize (w9.alloc (.cells #[.int .i64 x0, .int .i64 x1, .int .i64 x2, .int .i64 cn0, .int .i64 cn1, .int .i64 cn2, .int .i64 cm, .int .i64 cd] 66)) = w11 at *
      have occ := oc.cell
      have ocf := oc.thaw
      have ocz := oc.lt
      have ofc := of.cell
      have off := of.thaw
      have ofz := of.lt
      have onc := on.cell
      have onf := on.thaw
      have onz := on.lt
      have oqc := oq.cell
      have oqf := oq.thaw
      have oqz := oq.lt
      have oyc := oy.cell
      have oyf := oy.thaw
      have oyz := oy.lt
      have oxc := ox.cell
      have oxf := ox.thaw
      have oxz := ox.lt
      have o2c := o2.cell
      have o2f := o2.thaw
      have o2z := o2.lt
      replace hz := hw.size
      cases B
      · skip
        refine region_late 28 [] (by kernel_rfl) (by kernel_rfl) (by rfl) ?_
        apply Exists.intro
        refine ⟨fun v hv hne => ?_, fun u hu => ?_⟩
        · simp only [List.take_succ_cons, List.take_zero]
          have doc := fun x => (oc.later (v := v) (T := []) (by first | (simp; done) | (simp; omega)) x).cell
          have dof := fun x => (of.later (v := v) (T := []) (by first | (simp; done) | (simp; omega)) x).cell
          have don := fun x => (on.later (v := v) (T := []) (by first | (simp; done) | (simp; omega)) x).cell
          have doq := fun x => (oq.later (v := v) (T := []) (by first | (simp; done) | (simp; omega)) x).cell
          have doy := fun x => (oy.later (v := v) (T := []) (by first | (simp; done) | (simp; omega)) x).cell
          have dox := fun x => (ox.later (v := v) (T := []) (by first | (simp; done) | (simp; omega)) x).cell
          have do2 := fun x => (o2.later (v := v) (T := []) (by first | (simp; done) | (simp; omega)) x).cell
          repeat (go_big_quiet_step ((first | (go_at_call 59; with_reducible exact lateB (callv (contact_Has _ _ _ _ _ _ _ _ _ _ _ _) H8.out)) | (go_at_call 59; with_reducible exact lateB (callv (contact_Has _ _ _ _ _ _ _ _ _ _ _ _) H9.out)) | (go_at_call 59; with_reducible exact lateB (callv (contact_Has _ _ _ _ _ _ _ _ _ _ _ _) (congrArg Value.bool H7.out))) | (go_at_call 59; with_reducible exact lateB (callv (contact_Has _ _ _ _ _ _ _ _ _ _ _ _) H10.out)))))
          refine wpQuiet_nil ?_
          exact rfl
        · simp only [List.drop_succ_cons, List.drop_zero]
          refine late_mem (fun K hK => ?_)
          go_simp
          refine hK _ _ (Keeps.of_below hu) (fun u2 hu2 => ?_)
          clear hK K
          replace oc := (oc.below hu).below hu2
          replace of := (of.below hu).below hu2
          replace on := (on.below hu).below hu2
          replace oq := (oq.below hu).below hu2
          replace oy := (oy.below hu).below hu2
          replace ox := (ox.below hu).below hu2
          replace o2 := (o2.below hu).below hu2
          replace hw := Below.hop (Below.hop hw hu) hu2
          replace hz := hw.size
          clear hu hu2
          refine late_nil ?_
          (try simp only [Act.put, List.setIfInBounds_toArray, List.set_cons_zero, List.set_cons_succ])
          have occ := oc.cell
          have ocf := oc.thaw
          have ocz := oc.lt
          have ofc := of.cell
          have off := of.thaw
          have ofz := of.lt
          have onc := on.cell
          have onf := on.thaw
          have onz := on.lt
          have oqc := oq.cell
          have oqf := oq.thaw
          have oqz := oq.lt
          have oyc := oy.cell
          have oyf := oy.thaw
          have oyz := oy.lt
          have oxc := ox.cell
          have oxf := ox.thaw
          have oxz := ox.lt
          have o2c := o2.cell
          have o2f := o2.thaw
          have o2z := o2.lt
          go_wp2
          go_ret
          exact ⟨rfl, hw⟩
      · skip
        refine region_late 28 [] (by kernel_rfl) (by kernel_rfl) (by rfl) ?_
        apply Exists.intro
        refine ⟨fun v hv hne => ?_, fun u hu => ?_⟩
        · simp only [List.take_succ_cons, List.take_zero]
          have doc := fun x => (oc.later (v := v) (T := []) (by first | (simp; done) | (simp; omega)) x).cell
          have dof := fun x => (of.later (v := v) (T := []) (by first | (simp; done) | (simp; omega)) x).cell
          have don := fun x => (on.later (v := v) (T := []) (by first | (simp; done) | (simp; omega)) x).cell
          have doq := fun x => (oq.later (v := v) (T := []) (by first | (simp; done) | (simp; omega)) x).cell
          have doy := fun x => (oy.later (v := v) (T := []) (by first | (simp; done) | (simp; omega)) x).cell
          have dox := fun x => (ox.later (v := v) (T := []) (by first | (simp; done) | (simp; omega)) x).cell
          have do2 := fun x => (o2.later (v := v) (T := []) (by first | (simp; done) | (simp; omega)) x).cell
          repeat (go_big_quiet_step ((first | (go_at_call 59; with_reducible exact lateB (callv (contact_Has _ _ _ _ _ _ _ _ _ _ _ _) H8.out)) | (go_at_call 59; with_reducible exact lateB (callv (contact_Has _ _ _ _ _ _ _ _ _ _ _ _) H9.out)) | (go_at_call 59; with_reducible exact lateB (callv (contact_Has _ _ _ _ _ _ _ _ _ _ _ _) (congrArg Value.bool H7.out))) | (go_at_call 59; with_reducible exact lateB (callv (contact_Has _ _ _ _ _ _ _ _ _ _ _ _) H10.out)))))
          refine wpQuiet_nil ?_
          exact rfl
        · simp only [List.drop_succ_cons, List.drop_zero]
          refine late_mem (fun K hK => ?_)
          go_simp
          refine hK _ _ (Keeps.of_below hu) (fun u2 hu2 => ?_)
          clear hK K
          replace oc := (oc.below hu).below hu2
          replace of := (of.below hu).below hu2
          replace on := (on.below hu).below hu2
          replace oq := (oq.below hu).below hu2
          replace oy := (oy.below hu).below hu2
          replace ox := (ox.below hu).below hu2
          replace o2 := (o2.below hu).below hu2
          replace hw := Below.hop (Below.hop hw hu) hu2
          replace hz := hw.size
          clear hu hu2
          refine late_nil ?_
          (try simp only [Act.put, List.setIfInBounds_toArray, List.set_cons_zero, List.set_cons_succ])
          have occ := oc.cell
          have ocf := oc.thaw
          have ocz := oc.lt
          have ofc := of.cell
          have off := of.thaw
          have ofz := of.lt
          have onc := on.cell
          have onf := on.thaw
          have onz := on.lt
          have oqc := oq.cell
          have oqf := oq.thaw
          have oqz := oq.lt
          have oyc := oy.cell
          have oyf := oy.thaw
          have oyz := oy.lt
          have oxc := ox.cell
          have oxf := ox.thaw
          have oxz := ox.lt
          have o2c := o2.cell
          have o2f := o2.thaw
          have o2z := o2.lt
          go_wp2
          go_ret
          exact ⟨rfl, hw⟩
end Go.Proofs.Ythijnggeoinlfaa
