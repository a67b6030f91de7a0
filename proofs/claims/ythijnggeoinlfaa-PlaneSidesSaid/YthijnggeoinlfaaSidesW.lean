/- The law PlaneSides returns true. The slice reads as int64 numbers. -/
import Derived.Test.YthijnggeoinlfaaSan7
import Derived.Test.YthijnggeoinlfaaPlaneT
import Derived.Test.YthijnggeoinlfaaDraw3
import Derived.Test.YthijnggeoinlfaaSidesM
namespace Go.Proofs.Ythijnggeoinlfaa
open Go.RowKit

theorem tupThrough {A B C N : V3} {b : Int} (h1 : okThrough A B C = true) (h2 : (pThrough A B C).n = N) (h3 : (pThrough A B C).b = b) :
    Value.tuple #[(pThrough A B C).v, .bool (okThrough A B C)] = .tuple #[Pl.v ⟨N, b⟩, .bool true] := by
  have e : pThrough A B C = ⟨N, b⟩ := by rw [← h2, ← h3]
  rw [h1, e]

set_option maxRecDepth 100000 in
set_option maxHeartbeats 4000000 in
theorem law7_Sides_some (A : Option Addr) (n cap : Nat) (l : List Int) (s0 s1 s2 : Int) (w : World) (hl : SliceI w A n l) (hcap : n ≤ cap) (hcap2 : cap ≤ 9223372036854775807)
    (hs0 : 0 ≤ s0 ∧ s0 ≤ 255) (hs1 : 0 ≤ s1 ∧ s1 ≤ 255) (hs2 : 0 ≤ s2 ∧ s2 ≤ 255) (pk : Nat → V3) (hpk : ∀ k, pk k = ptAt (l.take 16) k)
    (N : V3) (b : Int) (S : SidesLaw (pk 0) (pk 1) (pk 2) N b) (hne : ¬ ((vCross (vSub (pk 1) (pk 0)) (vSub (pk 2) (pk 0))).x = 0 ∧ (vCross (vSub (pk 1) (pk 0)) (vSub (pk 2) (pk 0))).y = 0 ∧ (vCross (vSub (pk 1) (pk 0)) (vSub (pk 2) (pk 0))).z = 0)) :
    Calls Try.prog 9 #[.slice A n cap, .agg #[.int .u8 s0, .int .u8 s1, .int .u8 s2]] w fun r w' => r = .returned (.bool true) ∧ Below w.heap.size w w' := by
  have hl2 := hl.cutTo 16
  have HL := Lib.hid hl2
  clear hl hl2
  have hn0 : 0 ≤ (n : Int) := by omega
  have hn1 : (n : Int) ≤ (cap : Int) := by omega
  have hn2 : (cap : Int) ≤ 9223372036854775807 := by omega
  have HPK := Lib.hid hpk
  clear hpk
  obtain ⟨M, c0, hR⟩ : ∃ M c0, pFlip ⟨N, b⟩ = ⟨M, c0⟩ := ⟨_, _, rfl⟩
  have HT0 := Lib.hid (show Value.tuple #[(pThrough ⟨(pk 0).x, (pk 0).y, (pk 0).z⟩ ⟨(pk 1).x, (pk 1).y, (pk 1).z⟩ ⟨(pk 2).x, (pk 2).y, (pk 2).z⟩).v, .bool (okThrough ⟨(pk 0).x, (pk 0).y, (pk 0).z⟩ ⟨(pk 1).x, (pk 1).y, (pk 1).z⟩ ⟨(pk 2).x, (pk 2).y, (pk 2).z⟩)] = .tuple #[Pl.v ⟨N, b⟩, .bool true] by show Value.tuple #[(pThrough (pk 0) (pk 1) (pk 2)).v, .bool (okThrough (pk 0) (pk 1) (pk 2))] = _; rw [S.t1, S.o1])
  have HT1 := Lib.hid (show Value.tuple #[(pThrough ⟨(pk 1).x, (pk 1).y, (pk 1).z⟩ ⟨(pk 2).x, (pk 2).y, (pk 2).z⟩ ⟨(pk 0).x, (pk 0).y, (pk 0).z⟩).v, .bool (okThrough ⟨(pk 1).x, (pk 1).y, (pk 1).z⟩ ⟨(pk 2).x, (pk 2).y, (pk 2).z⟩ ⟨(pk 0).x, (pk 0).y, (pk 0).z⟩)] = .tuple #[Pl.v ⟨N, b⟩, .bool true] by show Value.tuple #[(pThrough (pk 1) (pk 2) (pk 0)).v, .bool (okThrough (pk 1) (pk 2) (pk 0))] = _; rw [S.t2, S.o2])
  have HT2 := Lib.hid (show Value.tuple #[(pThrough ⟨(pk 0).x, (pk 0).y, (pk 0).z⟩ ⟨(pk 2).x, (pk 2).y, (pk 2).z⟩ ⟨(pk 1).x, (pk 1).y, (pk 1).z⟩).v, .bool (okThrough ⟨(pk 0).x, (pk 0).y, (pk 0).z⟩ ⟨(pk 2).x, (pk 2).y, (pk 2).z⟩ ⟨(pk 1).x, (pk 1).y, (pk 1).z⟩)] = .tuple #[Pl.v ⟨M, c0⟩, .bool true] by show Value.tuple #[(pThrough (pk 0) (pk 2) (pk 1)).v, .bool (okThrough (pk 0) (pk 2) (pk 1))] = _; rw [S.t3, S.o3, hR])
  obtain ⟨D1, hD1⟩ : ∃ D, vSub (pk 1) (pk 0) = D := ⟨_, rfl⟩
  obtain ⟨D2, hD2⟩ : ∃ D, vSub (pk 2) (pk 0) = D := ⟨_, rfl⟩
  obtain ⟨X, hX⟩ : ∃ X, vCross D1 D2 = X := ⟨_, rfl⟩
  rw [hD1, hD2, hX] at hne
  have HD1 := Lib.hid (show (vSub ⟨(pk 1).x, (pk 1).y, (pk 1).z⟩ ⟨(pk 0).x, (pk 0).y, (pk 0).z⟩).v = D1.v from congrArg V3.v hD1)
  have HD2 := Lib.hid (show (vSub ⟨(pk 2).x, (pk 2).y, (pk 2).z⟩ ⟨(pk 0).x, (pk 0).y, (pk 0).z⟩).v = D2.v from congrArg V3.v hD2)
  have HX := Lib.hid (show (vCross ⟨D1.x, D1.y, D1.z⟩ ⟨D2.x, D2.y, D2.z⟩).v = X.v from congrArg V3.v hX)
  clear hD1 hD2 hX
  have HNE := Lib.hid (show ¬ X.x = 0 ∨ ¬ X.y = 0 ∨ ¬ X.z = 0 by by_cases h1 : X.x = 0 <;> by_cases h2 : X.y = 0 <;> by_cases h3 : X.z = 0 <;> simp_all)
  clear hne
  have HF1 := Lib.hid (show (pFlip ⟨⟨N.x, N.y, N.z⟩, b⟩).v = Pl.v ⟨M, c0⟩ from congrArg Pl.v hR)
  have HF2 := Lib.hid (show (pFlip ⟨⟨M.x, M.y, M.z⟩, c0⟩).v = Pl.v ⟨N, b⟩ from congrArg Pl.v (show pFlip ⟨M, c0⟩ = _ by rw [← hR]; exact S.ff))
  have HN := Lib.hid (S.bN.i64 (by omega))
  have HM := Lib.hid ((show Bd 4608 M from by have := S.bM; rw [hR] at this; exact this).i64 (by omega))
  have HV1 := Lib.hid (show Value.bool (pValid ⟨⟨N.x, N.y, N.z⟩, b⟩) = .bool true from congrArg Value.bool S.v1)
  have HV2 := Lib.hid (show Value.bool (pValid ⟨⟨M.x, M.y, M.z⟩, c0⟩) = .bool true from congrArg Value.bool (show pValid ⟨M, c0⟩ = true by rw [← hR]; exact S.v2))
  obtain ⟨sd, hsd⟩ : ∃ sd, pSide ⟨M, c0⟩ (pk 3) = sd := ⟨_, rfl⟩
  have HS1 := Lib.hid (show Value.int .i64 (pSide ⟨⟨N.x, N.y, N.z⟩, b⟩ ⟨(pk 3).x, (pk 3).y, (pk 3).z⟩) = .int .i64 (wrap64 (-sd)) from congrArg (Value.int .i64) (by rw [← hsd, ← hR]; exact S.sd (pk 3)))
  have HS2 := Lib.hid (show Value.int .i64 (pSide ⟨⟨M.x, M.y, M.z⟩, c0⟩ ⟨(pk 3).x, (pk 3).y, (pk 3).z⟩) = .int .i64 sd from congrArg (Value.int .i64) hsd)
  clear hsd
  obtain ⟨Sv, hSv⟩ : ∃ Sv : V3, ⟨s0 % 9 - 4, s1 % 9 - 4, s2 % 9 - 4⟩ = Sv := ⟨_, rfl⟩
  have HSv := Lib.hid (show vV (s0 % 9 - 4) (s1 % 9 - 4) (s2 % 9 - 4) = V3.v Sv from congrArg V3.v hSv)
  clear hSv
  have HS := Lib.hid S
  have HR := Lib.hid hR
  clear S hR
  go_enter Try.func9, Try.ntmps9
  go_wp2_with fail
  refine Calls.mono (law7_sanity _) ?_
  rintro e w1 ⟨rfl, hbx⟩
  have ob : Own w1 (w.heap.size) #[.int .u8 s0, .int .u8 s1, .int .u8 s2] := Own.below (by repeat' (first | ((refine Own.new ?_); (focus (first | rfl | omega | (simp; done) | (simp; omega)))) | assumption | refine Own.alloc ?_ _ | refine Own.drew ?_ | (refine Own.far ?_ ?_ _; rotate_left; (focus (first | rfl | omega | (simp; done) | (simp; omega)))))) hbx
  have obc := ob.cell
  have obf := ob.thaw
  have obz := ob.lt
  have hw : Below w.heap.size w w1 := Below.hop (by repeat' (first | exact Below.refl _ _ | assumption | (refine Below.alloc ?_ ?_ _; rotate_left; (focus (first | rfl | omega | (simp; done) | (simp; omega)))) | (refine Below.setCell ?_ ?_ _; rotate_left; (focus (first | rfl | omega | (simp; done) | (simp; omega)))) | refine Below.drew ?_)) hbx
  have hz := hw.size
  clear hbx
  go_wp2_with fail
  all_goals
    have hl3 := HL.out.below hw
    first
      | rw [show min n 16 = 16 by omega] at hl3
      | rw [show min n 16 = n by omega] at hl3
    refine Calls.mono (ref7_PointsOwn A _ cap _ 4 (by omega) (by omega) _ hl3) ?_
    rintro e w2 ⟨g, c, cs, rfl, hbx, hg0, hc4, hcM, og, hq⟩
    replace ob : Own w2 (w.heap.size) #[.int .u8 s0, .int .u8 s1, .int .u8 s2] := Own.below (by repeat' (first | ((refine Own.new ?_); (focus (first | rfl | omega | (simp; done) | (simp; omega)))) | assumption | refine Own.alloc ?_ _ | refine Own.drew ?_ | (refine Own.far ?_ ?_ _; rotate_left; (focus (first | rfl | omega | (simp; done) | (simp; omega)))))) hbx
    replace obc := ob.cell
    replace obf := ob.thaw
    replace obz := ob.lt
    replace hw : Below w.heap.size w w2 := Below.hop (by repeat' (first | exact Below.refl _ _ | assumption | (refine Below.alloc ?_ ?_ _; rotate_left; (focus (first | rfl | omega | (simp; done) | (simp; omega)))) | (refine Below.setCell ?_ ?_ _; rotate_left; (focus (first | rfl | omega | (simp; done) | (simp; omega)))) | refine Below.drew ?_)) hbx
    replace hz := hw.size
    clear hbx
    have HQ := Lib.hid (show ∀ k, k < 4 → cs[k * 3]? = some (.int .i64 (pk k).x) ∧ cs[k * 3 + 1]? = some (.int .i64 (pk k).y) ∧ cs[k * 3 + 2]? = some (.int .i64 (pk k).z) from fun k hk => by have h := ptCells_at (l.take 16) 4 k hk; rw [HPK.out k, hq _ (by omega), hq _ (by omega), hq _ (by omega)]; exact h)
    clear hq hl3
    have q0 := HQ.out 0 (by omega)
    have q0x : cs[0]? = some (.int .i64 (pk 0).x) := q0.1
    have q0y : cs[1]? = some (.int .i64 (pk 0).y) := q0.2.1
    have q0z : cs[2]? = some (.int .i64 (pk 0).z) := q0.2.2
    clear q0
    have q1 := HQ.out 1 (by omega)
    have q1x : cs[3]? = some (.int .i64 (pk 1).x) := q1.1
    have q1y : cs[4]? = some (.int .i64 (pk 1).y) := q1.2.1
    have q1z : cs[5]? = some (.int .i64 (pk 1).z) := q1.2.2
    clear q1
    have q2 := HQ.out 2 (by omega)
    have q2x : cs[6]? = some (.int .i64 (pk 2).x) := q2.1
    have q2y : cs[7]? = some (.int .i64 (pk 2).y) := q2.2.1
    have q2z : cs[8]? = some (.int .i64 (pk 2).z) := q2.2.2
    clear q2
    have q3 := HQ.out 3 (by omega)
    have q3x : cs[9]? = some (.int .i64 (pk 3).x) := q3.1
    have q3y : cs[10]? = some (.int .i64 (pk 3).y) := q3.2.1
    have q3z : cs[11]? = some (.int .i64 (pk 3).z) := q3.2.2
    clear q3
    have ogc := og.cell
    have ogf := og.thaw
    have ogz := og.lt
    have HL1 := Lib.hid (show ∀ k, k < 3 → ∃ X : V3, cs[k * 3]? = some (.int .i64 X.x) ∧ cs[k * 3 + 1]? = some (.int .i64 X.y) ∧ cs[k * 3 + 2]? = some (.int .i64 X.z) ∧ Value.int .i64 (pSide ⟨⟨N.x, N.y, N.z⟩, b⟩ ⟨X.x, X.y, X.z⟩) = .int .i64 0 ∧ Value.int .i64 (vDot ⟨N.x, N.y, N.z⟩ ⟨X.x, X.y, X.z⟩) = .int .i64 b from fun k hk => ⟨pk k, (HQ.out k (by omega)).1, (HQ.out k (by omega)).2.1, (HQ.out k (by omega)).2.2, congrArg (Value.int .i64) (HS.out.onS k hk), congrArg (Value.int .i64) (HS.out.onD k hk)⟩)
    go_wp2
    refine region_late 13 [] (by kernel_rfl) (by kernel_rfl) (by rfl) ?_
    apply Exists.intro
    refine ⟨fun v hv hne => ?_, fun u hu => ?_⟩
    · simp only [List.take_succ_cons, List.take_zero]
      have dob := fun x => (ob.later (v := v) (T := []) (by first | (simp; done) | (simp; omega)) x).cell
      have dog := fun x => (og.later (v := v) (T := []) (by first | (simp; done) | (simp; omega)) x).cell
      repeat (go_big_quiet_step ((first | (go_at_call 20; with_reducible exact lateB (callv (plane_Through (pk 0).x (pk 0).y (pk 0).z (pk 1).x (pk 1).y (pk 1).z (pk 2).x (pk 2).y (pk 2).z _) HT0.out)))))
      refine wpQuiet_nil ?_
      exact rfl
    · simp only [List.drop_succ_cons, List.drop_zero]
      skip
      refine late_mem (fun K hK => ?_)
      go_simp
      refine hK _ _ ((Keeps.of_below hu).alloc _) (fun ua2 hu2 => ?_)
      clear hK K
      have hk2 : Keeps [] w2 ua2 := ((Keeps.of_below (T := []) hu).alloc _).later hu2
      have op : Own ua2 u.heap.size #[.int .i64 0, .int .i64 0, .int .i64 0, .int .i64 0] := Own.below (Own.new rfl) hu2
      have opc := op.cell
      have opf := op.thaw
      have opg : w2.heap.size ≤ u.heap.size := hu.size
      replace hw := Below.hop ((Below.hop hw hu).alloc (by have := hw.size; have := hu.size; omega) _) hu2
      have hwz := hw.size
      have opy : w.heap.size ≤ u.heap.size := by omega
      refine late_mem (fun K hK => ?_)
      go_simp
      refine hK _ _ ((((hk2.new (by simp; omega) _).new (by simp; omega) _).new (by simp; omega) _).new (by simp; omega) _) (fun ua3 hu3 => ?_)
      clear hK K
      have hk3 : Keeps [] w2 ua3 := ((((hk2.new (by simp; omega) _).new (by simp; omega) _).new (by simp; omega) _).new (by simp; omega) _).later hu3
      replace op : Own ua3 u.heap.size #[.int .i64 N.x, .int .i64 N.y, .int .i64 N.z, .int .i64 b] := ((((op.set 0 _).set 1 _).set 2 _).set 3 _).below hu3
      replace hw := Below.hop ((((hw.setCell (by simp; omega) _).setCell (by simp; omega) _).setCell (by simp; omega) _).setCell (by simp; omega) _) hu3
      clear opc opf hk2
      refine late_mem (fun K hK => ?_)
      go_simp
      refine hK _ _ hk3 (fun ua4 hu4 => ?_)
      clear hK K
      replace op := op.below hu4
      replace hw := Below.hop hw hu4
      replace hk3 := hk3.later hu4
      clear hu4
      replace ob : Own ua4 (w.heap.size) #[.int .u8 s0, .int .u8 s1, .int .u8 s2] := ob.keeps hk3 (by simp)
      replace og : Own ua4 (g) cs := og.keeps hk3 (by simp)
      refine late_nil ?_
      (try simp only [Act.put, List.setIfInBounds_toArray, List.set_cons_zero, List.set_cons_succ])
      clear hk3 hu hu2 hu3 hwz
      generalize u.heap.size = opb at *
      replace hz := hw.size
      clear u
      replace obc := ob.cell
      replace obf := ob.thaw
      replace obz := ob.lt
      replace ogc := og.cell
      replace ogf := og.thaw
      replace ogz := og.lt
      replace opc := op.cell
      replace opf := op.thaw
      replace opz := op.lt
      go_wp2
      refine region_late 13 [] (by kernel_rfl) (by kernel_rfl) (by rfl) ?_
      apply Exists.intro
      refine ⟨fun v hv hne => ?_, fun u hu => ?_⟩
      · simp only [List.take_succ_cons, List.take_zero]
        have dob := fun x => (ob.later (v := v) (T := []) (by first | (simp; done) | (simp; omega)) x).cell
        have dog := fun x => (og.later (v := v) (T := []) (by first | (simp; done) | (simp; omega)) x).cell
        have dop := fun x => (op.later (v := v) (T := []) (by first | (simp; done) | (simp; omega)) x).cell
        repeat (go_big_quiet_step ((first | (go_at_call 20; with_reducible exact lateB (callv (plane_Through (pk 1).x (pk 1).y (pk 1).z (pk 2).x (pk 2).y (pk 2).z (pk 0).x (pk 0).y (pk 0).z _) HT1.out)))))
        refine wpQuiet_nil ?_
        exact rfl
      · simp only [List.drop_succ_cons, List.drop_zero]
        skip
        refine late_mem (fun K hK => ?_)
        go_simp
        refine hK _ _ ((Keeps.of_below hu).alloc _) (fun ub2 hu2 => ?_)
        clear hK K
        have hk2 : Keeps [] ua4 ub2 := ((Keeps.of_below (T := []) hu).alloc _).later hu2
        have oq : Own ub2 u.heap.size #[.int .i64 0, .int .i64 0, .int .i64 0, .int .i64 0] := Own.below (Own.new rfl) hu2
        have oqc := oq.cell
        have oqf := oq.thaw
        have oqg : ua4.heap.size ≤ u.heap.size := hu.size
        replace hw := Below.hop ((Below.hop hw hu).alloc (by have := hw.size; have := hu.size; omega) _) hu2
        have hwz := hw.size
        have oqy : w.heap.size ≤ u.heap.size := by omega
        refine late_mem (fun K hK => ?_)
        go_simp
        refine hK _ _ ((((hk2.new (by simp; omega) _).new (by simp; omega) _).new (by simp; omega) _).new (by simp; omega) _) (fun ub3 hu3 => ?_)
        clear hK K
        have hk3 : Keeps [] ua4 ub3 := ((((hk2.new (by simp; omega) _).new (by simp; omega) _).new (by simp; omega) _).new (by simp; omega) _).later hu3
        replace oq : Own ub3 u.heap.size #[.int .i64 N.x, .int .i64 N.y, .int .i64 N.z, .int .i64 b] := ((((oq.set 0 _).set 1 _).set 2 _).set 3 _).below hu3
        replace hw := Below.hop ((((hw.setCell (by simp; omega) _).setCell (by simp; omega) _).setCell (by simp; omega) _).setCell (by simp; omega) _) hu3
        clear oqc oqf hk2
        refine late_mem (fun K hK => ?_)
        go_simp
        refine hK _ _ hk3 (fun ub4 hu4 => ?_)
        clear hK K
        replace oq := oq.below hu4
        replace hw := Below.hop hw hu4
        replace hk3 := hk3.later hu4
        clear hu4
        replace ob : Own ub4 (w.heap.size) #[.int .u8 s0, .int .u8 s1, .int .u8 s2] := ob.keeps hk3 (by simp)
        replace og : Own ub4 (g) cs := og.keeps hk3 (by simp)
        replace op : Own ub4 (opb) #[.int .i64 N.x, .int .i64 N.y, .int .i64 N.z, .int .i64 b] := op.keeps hk3 (by simp)
        refine late_nil ?_
        (try simp only [Act.put, List.setIfInBounds_toArray, List.set_cons_zero, List.set_cons_succ])
        clear hk3 hu hu2 hu3 hwz
        generalize u.heap.size = oqb at *
        replace hz := hw.size
        clear u
        replace obc := ob.cell
        replace obf := ob.thaw
        replace obz := ob.lt
        replace ogc := og.cell
        replace ogf := og.thaw
        replace ogz := og.lt
        replace opc := op.cell
        replace opf := op.thaw
        replace opz := op.lt
        replace oqc := oq.cell
        replace oqf := oq.thaw
        replace oqz := oq.lt
        go_wp2
        refine region_late 13 [] (by kernel_rfl) (by kernel_rfl) (by rfl) ?_
        apply Exists.intro
        refine ⟨fun v hv hne => ?_, fun u hu => ?_⟩
        · simp only [List.take_succ_cons, List.take_zero]
          have dob := fun x => (ob.later (v := v) (T := []) (by first | (simp; done) | (simp; omega)) x).cell
          have dog := fun x => (og.later (v := v) (T := []) (by first | (simp; done) | (simp; omega)) x).cell
          have dop := fun x => (op.later (v := v) (T := []) (by first | (simp; done) | (simp; omega)) x).cell
          have doq := fun x => (oq.later (v := v) (T := []) (by first | (simp; done) | (simp; omega)) x).cell
          repeat (go_big_quiet_step ((first | (go_at_call 20; with_reducible exact lateB (callv (plane_Through (pk 0).x (pk 0).y (pk 0).z (pk 2).x (pk 2).y (pk 2).z (pk 1).x (pk 1).y (pk 1).z _) HT2.out)))))
          refine wpQuiet_nil ?_
          exact rfl
        · simp only [List.drop_succ_cons, List.drop_zero]
          skip
          refine late_mem (fun K hK => ?_)
          go_simp
          refine hK _ _ ((Keeps.of_below hu).alloc _) (fun uc2 hu2 => ?_)
          clear hK K
          have hk2 : Keeps [] ub4 uc2 := ((Keeps.of_below (T := []) hu).alloc _).later hu2
          have or : Own uc2 u.heap.size #[.int .i64 0, .int .i64 0, .int .i64 0, .int .i64 0] := Own.below (Own.new rfl) hu2
          have orc := or.cell
          have orf := or.thaw
          have org : ub4.heap.size ≤ u.heap.size := hu.size
          replace hw := Below.hop ((Below.hop hw hu).alloc (by have := hw.size; have := hu.size; omega) _) hu2
          have hwz := hw.size
          have ory : w.heap.size ≤ u.heap.size := by omega
          refine late_mem (fun K hK => ?_)
          go_simp
          refine hK _ _ ((((hk2.new (by simp; omega) _).new (by simp; omega) _).new (by simp; omega) _).new (by simp; omega) _) (fun uc3 hu3 => ?_)
          clear hK K
          have hk3 : Keeps [] ub4 uc3 := ((((hk2.new (by simp; omega) _).new (by simp; omega) _).new (by simp; omega) _).new (by simp; omega) _).later hu3
          replace or : Own uc3 u.heap.size #[.int .i64 M.x, .int .i64 M.y, .int .i64 M.z, .int .i64 c0] := ((((or.set 0 _).set 1 _).set 2 _).set 3 _).below hu3
          replace hw := Below.hop ((((hw.setCell (by simp; omega) _).setCell (by simp; omega) _).setCell (by simp; omega) _).setCell (by simp; omega) _) hu3
          clear orc orf hk2
          refine late_mem (fun K hK => ?_)
          go_simp
          refine hK _ _ hk3 (fun uc4 hu4 => ?_)
          clear hK K
          replace or := or.below hu4
          replace hw := Below.hop hw hu4
          replace hk3 := hk3.later hu4
          clear hu4
          replace ob : Own uc4 (w.heap.size) #[.int .u8 s0, .int .u8 s1, .int .u8 s2] := ob.keeps hk3 (by simp)
          replace og : Own uc4 (g) cs := og.keeps hk3 (by simp)
          replace op : Own uc4 (opb) #[.int .i64 N.x, .int .i64 N.y, .int .i64 N.z, .int .i64 b] := op.keeps hk3 (by simp)
          replace oq : Own uc4 (oqb) #[.int .i64 N.x, .int .i64 N.y, .int .i64 N.z, .int .i64 b] := oq.keeps hk3 (by simp)
          refine late_nil ?_
          (try simp only [Act.put, List.setIfInBounds_toArray, List.set_cons_zero, List.set_cons_succ])
          clear hk3 hu hu2 hu3 hwz
          generalize u.heap.size = orb at *
          replace hz := hw.size
          clear u
          replace obc := ob.cell
          replace obf := ob.thaw
          replace obz := ob.lt
          replace ogc := og.cell
          replace ogf := og.thaw
          replace ogz := og.lt
          replace opc := op.cell
          replace opf := op.thaw
          replace opz := op.lt
          replace oqc := oq.cell
          replace oqf := oq.thaw
          replace oqz := oq.lt
          replace orc := or.cell
          replace orf := or.thaw
          replace orz := or.lt
          go_wp2
          refine region_late 17 [] (by kernel_rfl) (by kernel_rfl) (by rfl) ?_
          apply Exists.intro
          refine ⟨fun v hv hne => ?_, fun u hu => ?_⟩
          · simp only [List.take_succ_cons, List.take_zero]
            have dob := fun x => (ob.later (v := v) (T := []) (by first | (simp; done) | (simp; omega)) x).cell
            have dog := fun x => (og.later (v := v) (T := []) (by first | (simp; done) | (simp; omega)) x).cell
            have dop := fun x => (op.later (v := v) (T := []) (by first | (simp; done) | (simp; omega)) x).cell
            have doq := fun x => (oq.later (v := v) (T := []) (by first | (simp; done) | (simp; omega)) x).cell
            have dor := fun x => (or.later (v := v) (T := []) (by first | (simp; done) | (simp; omega)) x).cell
            rcases HNE.out with hX | hX | hX
            all_goals repeat (go_big_quiet_step ((first | (go_at_call 28; with_reducible exact lateB (callv (plane_Sub (pk 1).x (pk 1).y (pk 1).z (pk 0).x (pk 0).y (pk 0).z _) HD1.out)) | (go_at_call 28; with_reducible exact lateB (callv (plane_Sub (pk 2).x (pk 2).y (pk 2).z (pk 0).x (pk 0).y (pk 0).z _) HD2.out)) | (go_at_call 31; with_reducible exact lateB (callv (plane_Cross D1.x D1.y D1.z D2.x D2.y D2.z _) HX.out)))))
            all_goals refine wpQuiet_nil ?_
            all_goals exact rfl
          · simp only [List.drop_succ_cons, List.drop_zero]
            refine late_mem (fun K hK => ?_)
            go_simp
            refine hK _ _ (Keeps.of_below hu) (fun ud hu2 => ?_)
            clear hK K
            replace ob := (ob.below hu).below hu2
            replace og := (og.below hu).below hu2
            replace op := (op.below hu).below hu2
            replace oq := (oq.below hu).below hu2
            replace or := (or.below hu).below hu2
            replace hw := Below.hop (Below.hop hw hu) hu2
            replace hz := hw.size
            clear hu hu2
            refine late_nil ?_
            (try simp only [Act.put, List.setIfInBounds_toArray, List.set_cons_zero, List.set_cons_succ])
            have obc := ob.cell
            have obf := ob.thaw
            have obz := ob.lt
            have ogc := og.cell
            have ogf := og.thaw
            have ogz := og.lt
            have opc := op.cell
            have opf := op.thaw
            have opz := op.lt
            have oqc := oq.cell
            have oqf := oq.thaw
            have oqz := oq.lt
            have orc := or.cell
            have orf := or.thaw
            have orz := or.lt
            go_wp2
            refine region_late 39 [] (by kernel_rfl) (by kernel_rfl) (by rfl) ?_
            apply Exists.intro
            refine ⟨fun v hv hne => ?_, fun ue hu => ?_⟩
            · simp only [List.take_succ_cons, List.take_zero]
              have dob := fun x => (ob.later (v := v) (T := []) (by first | (simp; done) | (simp; omega)) x).cell
              have dog := fun x => (og.later (v := v) (T := []) (by first | (simp; done) | (simp; omega)) x).cell
              have dop := fun x => (op.later (v := v) (T := []) (by first | (simp; done) | (simp; omega)) x).cell
              have doq := fun x => (oq.later (v := v) (T := []) (by first | (simp; done) | (simp; omega)) x).cell
              have dor := fun x => (or.later (v := v) (T := []) (by first | (simp; done) | (simp; omega)) x).cell
              repeat (go_big_quiet_step ((first | (go_at_call 40; with_reducible exact lateB (callv (plane_Flip N.x N.y N.z b _) HF1.out)) | (go_at_call 40; with_reducible exact lateB (callv (plane_Flip M.x M.y M.z c0 _) HF2.out)) | (go_at_call 38; with_reducible exact lateB (callv (plane_Valid N.x N.y N.z b HN.out.1 HN.out.2.1 HN.out.2.2 _) HV1.out)) | (go_at_call 38; with_reducible exact lateB (callv (plane_Valid M.x M.y M.z c0 HM.out.1 HM.out.2.1 HM.out.2.2 _) HV2.out)) | (go_at_call 42; with_reducible exact lateB (callv (plane_Side N.x N.y N.z b (pk 3).x (pk 3).y (pk 3).z HN.out.1 HN.out.2.1 HN.out.2.2 _) HS1.out)) | (go_at_call 42; with_reducible exact lateB (callv (plane_Side M.x M.y M.z c0 (pk 3).x (pk 3).y (pk 3).z HM.out.1 HM.out.2.1 HM.out.2.2 _) HS2.out)))))
              refine wpQuiet_nil ?_
              exact rfl
            · simp only [List.drop_succ_cons, List.drop_zero]
              replace ob := ob.below hu
              replace og := og.below hu
              replace op := op.below hu
              replace oq := oq.below hu
              replace or := or.below hu
              replace hw := Below.hop hw hu
              replace hz := hw.size
              clear hu
              refine late_nil ?_
              (try simp only [Act.put, List.setIfInBounds_toArray, List.set_cons_zero, List.set_cons_succ])
              have obc := ob.cell
              have obf := ob.thaw
              have obz := ob.lt
              have ogc := og.cell
              have ogf := og.thaw
              have ogz := og.lt
              have opc := op.cell
              have opf := op.thaw
              have opz := op.lt
              have oqc := oq.cell
              have oqf := oq.thaw
              have oqz := oq.lt
              have orc := or.cell
              have orf := or.thaw
              have orz := or.lt
              clear oqc oqf oqz oq orc orf orz or
              go_wp2
              go_loopw [15, 146] (fun _ i wr => ∃ k : Nat, k ≤ 3 ∧ i = .int .i64 k ∧ Below w.heap.size w wr ∧ Own wr (w.heap.size) #[.int .u8 s0, .int .u8 s1, .int .u8 s2] ∧ Own wr (g) cs ∧ Own wr (opb) #[.int .i64 N.x, .int .i64 N.y, .int .i64 N.z, .int .i64 b]) (fun _ i _ => 3 - (intOf i).toNat)
              case atStart => exact ⟨0, by omega, rfl, hw, ob, og, op⟩
              case round =>
                clear hw hz ob obc obf obz og ogc ogf ogz op opc opf opz
                obtain ⟨k, hk, rfl, hw, ob, og, op⟩ := hrel
                have hz := hw.size
                have obc := ob.cell
                have obf := ob.thaw
                have obz := ob.lt
                have ogc := og.cell
                have ogf := og.thaw
                have ogz := og.lt
                have opc := op.cell
                have opf := op.thaw
                have opz := op.lt
                by_cases hlt : k < 3
                · have hlt2 : (k : Int) < 3 := by omega
                  obtain ⟨X, hX1, hX2, hX3, hXs, hXd⟩ := HL1.out k hlt
                  have HXs := Lib.hid hXs
                  have HXd := Lib.hid hXd
                  clear hXs hXd
                  go_wp2
                  have ox : Own (wr.alloc (.cells #[.int .i64 X.x, .int .i64 X.y, .int .i64 X.z] 24)) (wr.heap.size) #[.int .i64 X.x, .int .i64 X.y, .int .i64 X.z] := Own.new rfl
                  replace ob : Own (wr.alloc (.cells #[.int .i64 X.x, .int .i64 X.y, .int .i64 X.z] 24)) (w.heap.size) #[.int .u8 s0, .int .u8 s1, .int .u8 s2] := (by repeat' (first | ((refine Own.new ?_); (focus (first | rfl | omega | (simp; done) | (simp; omega)))) | assumption | refine Own.alloc ?_ _ | refine Own.drew ?_ | (refine Own.far ?_ ?_ _; rotate_left; (focus (first | rfl | omega | (simp; done) | (simp; omega))))))
                  clear obc obf obz
                  replace og : Own (wr.alloc (.cells #[.int .i64 X.x, .int .i64 X.y, .int .i64 X.z] 24)) (g) cs := (by repeat' (first | ((refine Own.new ?_); (focus (first | rfl | omega | (simp; done) | (simp; omega)))) | assumption | refine Own.alloc ?_ _ | refine Own.drew ?_ | (refine Own.far ?_ ?_ _; rotate_left; (focus (first | rfl | omega | (simp; done) | (simp; omega))))))
                  clear ogc ogf ogz
                  replace op : Own (wr.alloc (.cells #[.int .i64 X.x, .int .i64 X.y, .int .i64 X.z] 24)) (opb) #[.int .i64 N.x, .int .i64 N.y, .int .i64 N.z, .int .i64 b] := (by repeat' (first | ((refine Own.new ?_); (focus (first | rfl | omega | (simp; done) | (simp; omega)))) | assumption | refine Own.alloc ?_ _ | refine Own.drew ?_ | (refine Own.far ?_ ?_ _; rotate_left; (focus (first | rfl | omega | (simp; done) | (simp; omega))))))
                  clear opc opf opz
                  replace hw : Below w.heap.size w (wr.alloc (.cells #[.int .i64 X.x, .int .i64 X.y, .int .i64 X.z] 24)) := (by repeat' (first | exact Below.refl _ _ | assumption | (refine Below.alloc ?_ ?_ _; rotate_left; (focus (first | rfl | omega | (simp; done) | (simp; omega)))) | (refine Below.setCell ?_ ?_ _; rotate_left; (focus (first | rfl | omega | (simp; done) | (simp; omega)))) | refine Below.drew ?_))
                  generalize wr.alloc (.cells #[.int .i64 X.x, .int .i64 X.y, .int .i64 X.z] 24) = wq at *
                  have obc := ob.cell
                  have obf := ob.thaw
                  have obz := ob.lt
                  have ogc := og.cell
                  have ogf := og.thaw
                  have ogz := og.lt
                  have opc := op.cell
                  have opf := op.thaw
                  have opz := op.lt
                  have oxc := ox.cell
                  have oxf := ox.thaw
                  have oxz := ox.lt
                  replace hz := hw.size
                  refine region_late 13 [] (by kernel_rfl) (by kernel_rfl) (by rfl) ?_
                  apply Exists.intro
                  refine ⟨fun v hv hne => ?_, fun u hu => ?_⟩
                  · simp only [List.take_succ_cons, List.take_zero]
                    have dob := fun x => (ob.later (v := v) (T := []) (by first | (simp; done) | (simp; omega)) x).cell
                    have dog := fun x => (og.later (v := v) (T := []) (by first | (simp; done) | (simp; omega)) x).cell
                    have dop := fun x => (op.later (v := v) (T := []) (by first | (simp; done) | (simp; omega)) x).cell
                    have dox := fun x => (ox.later (v := v) (T := []) (by first | (simp; done) | (simp; omega)) x).cell
                    repeat (go_big_quiet_step ((first | (go_at_call 42; with_reducible exact lateB (callv (plane_Side N.x N.y N.z b X.x X.y X.z HN.out.1 HN.out.2.1 HN.out.2.2 _) HXs.out)) | (go_at_call 29; with_reducible exact lateB (callv (plane_Dot N.x N.y N.z X.x X.y X.z _) HXd.out)))))
                    refine wpQuiet_nil ?_
                    exact rfl
                  · simp only [List.drop_succ_cons, List.drop_zero]
                    replace ob := ob.below hu
                    replace og := og.below hu
                    replace op := op.below hu
                    replace ox := ox.below hu
                    replace hw := Below.hop hw hu
                    replace hz := hw.size
                    clear hu
                    refine late_nil ?_
                    (try simp only [Act.put, List.setIfInBounds_toArray, List.set_cons_zero, List.set_cons_succ])
                    have obc := ob.cell
                    have obf := ob.thaw
                    have obz := ob.lt
                    have ogc := og.cell
                    have ogf := og.thaw
                    have ogz := og.lt
                    have opc := op.cell
                    have opf := op.thaw
                    have opz := op.lt
                    have oxc := ox.cell
                    have oxf := ox.thaw
                    have oxz := ox.lt
                    go_wp2
                    go_roundw
                    case rel => exact ⟨k + 1, by omega, by go_num, hw, ob, og, op⟩
                    case measure => simp [intOf]; omega
                · obtain rfl : k = 3 := by omega
                  go_wp2_with fail
                  refine Calls.mono (callv (law7_vec _ _ _ _) HSv.out) ?_
                  rintro e w3 ⟨rfl, hbx⟩
                  replace ob : Own w3 (w.heap.size) #[.int .u8 s0, .int .u8 s1, .int .u8 s2] := Own.below (by repeat' (first | ((refine Own.new ?_); (focus (first | rfl | omega | (simp; done) | (simp; omega)))) | assumption | refine Own.alloc ?_ _ | refine Own.drew ?_ | (refine Own.far ?_ ?_ _; rotate_left; (focus (first | rfl | omega | (simp; done) | (simp; omega)))))) hbx
                  replace obc := ob.cell
                  replace obf := ob.thaw
                  replace obz := ob.lt
                  replace og : Own w3 (g) cs := Own.below (by repeat' (first | ((refine Own.new ?_); (focus (first | rfl | omega | (simp; done) | (simp; omega)))) | assumption | refine Own.alloc ?_ _ | refine Own.drew ?_ | (refine Own.far ?_ ?_ _; rotate_left; (focus (first | rfl | omega | (simp; done) | (simp; omega)))))) hbx
                  replace ogc := og.cell
                  replace ogf := og.thaw
                  replace ogz := og.lt
                  replace op : Own w3 (opb) #[.int .i64 N.x, .int .i64 N.y, .int .i64 N.z, .int .i64 b] := Own.below (by repeat' (first | ((refine Own.new ?_); (focus (first | rfl | omega | (simp; done) | (simp; omega)))) | assumption | refine Own.alloc ?_ _ | refine Own.drew ?_ | (refine Own.far ?_ ?_ _; rotate_left; (focus (first | rfl | omega | (simp; done) | (simp; omega)))))) hbx
                  replace opc := op.cell
                  replace opf := op.thaw
                  replace opz := op.lt
                  replace hw : Below w.heap.size w w3 := Below.hop (by repeat' (first | exact Below.refl _ _ | assumption | (refine Below.alloc ?_ ?_ _; rotate_left; (focus (first | rfl | omega | (simp; done) | (simp; omega)))) | (refine Below.setCell ?_ ?_ _; rotate_left; (focus (first | rfl | omega | (simp; done) | (simp; omega)))) | refine Below.drew ?_)) hbx
                  replace hz := hw.size
                  clear hbx
                  go_wp2
                  have ne1 : w.heap.size ≠ w3.heap.size + 1 := by omega
                  have ne2 : g ≠ w3.heap.size + 1 := by omega
                  have ne3 : opb ≠ w3.heap.size + 1 := by omega
                  have hB : w.heap.size ≤ w3.heap.size + 1 := by omega
                  have os : Own ((w3.alloc (.cells #[.int .i64 Sv.x, .int .i64 Sv.y, .int .i64 Sv.z] 24)).alloc (.cells #[.int .i64 0, .int .i64 0, .int .i64 0, .int .i64 0, .int .i64 0, .int .i64 0, .int .i64 0, .int .i64 0, .int .i64 0] 25)) (w3.heap.size) #[.int .i64 Sv.x, .int .i64 Sv.y, .int .i64 Sv.z] := Own.alloc (Own.new rfl) _
                  have om : Own ((w3.alloc (.cells #[.int .i64 Sv.x, .int .i64 Sv.y, .int .i64 Sv.z] 24)).alloc (.cells #[.int .i64 0, .int .i64 0, .int .i64 0, .int .i64 0, .int .i64 0, .int .i64 0, .int .i64 0, .int .i64 0, .int .i64 0] 25)) (w3.heap.size + 1) #[.int .i64 0, .int .i64 0, .int .i64 0, .int .i64 0, .int .i64 0, .int .i64 0, .int .i64 0, .int .i64 0, .int .i64 0] := Own.new (by simp)
                  replace ob : Own ((w3.alloc (.cells #[.int .i64 Sv.x, .int .i64 Sv.y, .int .i64 Sv.z] 24)).alloc (.cells #[.int .i64 0, .int .i64 0, .int .i64 0, .int .i64 0, .int .i64 0, .int .i64 0, .int .i64 0, .int .i64 0, .int .i64 0] 25)) (w.heap.size) #[.int .u8 s0, .int .u8 s1, .int .u8 s2] := (by repeat' (first | ((refine Own.new ?_); (focus (first | rfl | omega | (simp; done) | (simp; omega)))) | assumption | refine Own.alloc ?_ _ | refine Own.drew ?_ | (refine Own.far ?_ ?_ _; rotate_left; (focus (first | rfl | omega | (simp; done) | (simp; omega))))))
                  clear obc obf obz
                  replace og : Own ((w3.alloc (.cells #[.int .i64 Sv.x, .int .i64 Sv.y, .int .i64 Sv.z] 24)).alloc (.cells #[.int .i64 0, .int .i64 0, .int .i64 0, .int .i64 0, .int .i64 0, .int .i64 0, .int .i64 0, .int .i64 0, .int .i64 0] 25)) (g) cs := (by repeat' (first | ((refine Own.new ?_); (focus (first | rfl | omega | (simp; done) | (simp; omega)))) | assumption | refine Own.alloc ?_ _ | refine Own.drew ?_ | (refine Own.far ?_ ?_ _; rotate_left; (focus (first | rfl | omega | (simp; done) | (simp; omega))))))
                  clear ogc ogf ogz
                  replace op : Own ((w3.alloc (.cells #[.int .i64 Sv.x, .int .i64 Sv.y, .int .i64 Sv.z] 24)).alloc (.cells #[.int .i64 0, .int .i64 0, .int .i64 0, .int .i64 0, .int .i64 0, .int .i64 0, .int .i64 0, .int .i64 0, .int .i64 0] 25)) (opb) #[.int .i64 N.x, .int .i64 N.y, .int .i64 N.z, .int .i64 b] := (by repeat' (first | ((refine Own.new ?_); (focus (first | rfl | omega | (simp; done) | (simp; omega)))) | assumption | refine Own.alloc ?_ _ | refine Own.drew ?_ | (refine Own.far ?_ ?_ _; rotate_left; (focus (first | rfl | omega | (simp; done) | (simp; omega))))))
                  clear opc opf opz
                  replace hw : Below w.heap.size w ((w3.alloc (.cells #[.int .i64 Sv.x, .int .i64 Sv.y, .int .i64 Sv.z] 24)).alloc (.cells #[.int .i64 0, .int .i64 0, .int .i64 0, .int .i64 0, .int .i64 0, .int .i64 0, .int .i64 0, .int .i64 0, .int .i64 0] 25)) := (by repeat' (first | exact Below.refl _ _ | assumption | (refine Below.alloc ?_ ?_ _; rotate_left; (focus (first | rfl | omega | (simp; done) | (simp; omega)))) | (refine Below.setCell ?_ ?_ _; rotate_left; (focus (first | rfl | omega | (simp; done) | (simp; omega)))) | refine Below.drew ?_))
                  generalize (w3.alloc (.cells #[.int .i64 Sv.x, .int .i64 Sv.y, .int .i64 Sv.z] 24)).alloc (.cells #[.int .i64 0, .int .i64 0, .int .i64 0, .int .i64 0, .int .i64 0, .int .i64 0, .int .i64 0, .int .i64 0, .int .i64 0] 25) = wl at *
                  have obc := ob.cell
                  have obf := ob.thaw
                  have obz := ob.lt
                  have ogc := og.cell
                  have ogf := og.thaw
                  have ogz := og.lt
                  have opc := op.cell
                  have opf := op.thaw
                  have opz := op.lt
                  have osc := os.cell
                  have osf := os.thaw
                  have osz := os.lt
                  have omc := om.cell
                  have omf := om.thaw
                  have omz := om.lt
                  replace hz := hw.size
                  go_loopw [18, 180] (fun _ i wr => ∃ k : Nat, ∃ cm : Array Value, k ≤ 3 ∧ i = .int .i64 k ∧ Below w.heap.size w wr ∧ Own wr (w.heap.size) #[.int .u8 s0, .int .u8 s1, .int .u8 s2] ∧ Own wr (g) cs ∧ Own wr (opb) #[.int .i64 N.x, .int .i64 N.y, .int .i64 N.z, .int .i64 b] ∧ Own wr (w3.heap.size) #[.int .i64 Sv.x, .int .i64 Sv.y, .int .i64 Sv.z] ∧ Own wr (w3.heap.size + 1) cm ∧ Moved pk Sv k cm ∧ ∀ j, j < k → vIn (vAdd (pk j) Sv) = true) (fun _ i _ => 3 - (intOf i).toNat)
                  case atStart => exact ⟨0, _, by omega, rfl, hw, ob, og, op, os, om, ⟨by rfl, fun j hj => by omega⟩, fun j hj => by omega⟩
                  case round =>
                    clear hw hz ob obc obf obz og ogc ogf ogz op opc opf opz os osc osf osz om omc omf omz
                    obtain ⟨k, cm, hk, rfl, hw, ob, og, op, os, om, hM, hI⟩ := hrel
                    have hz := hw.size
                    have obc := ob.cell
                    have obf := ob.thaw
                    have obz := ob.lt
                    have ogc := og.cell
                    have ogf := og.thaw
                    have ogz := og.lt
                    have opc := op.cell
                    have opf := op.thaw
                    have opz := op.lt
                    have osc := os.cell
                    have osf := os.thaw
                    have osz := os.lt
                    have omc := om.cell
                    have omf := om.thaw
                    have omz := om.lt
                    by_cases hlt : k < 3
                    · have hlt2 : (k : Int) < 3 := by omega
                      have HI := Lib.hid hI
                      have HM2 := Lib.hid hM
                      have hsz := hM.size
                      clear hI hM
                      have qk := HQ.out k (by omega)
                      have qkx := qk.1
                      have qky := qk.2.1
                      have qkz := qk.2.2
                      clear qk
                      obtain ⟨y0, hy0⟩ : ∃ y, cm[k * 3]? = some y := ⟨_, Array.getElem?_eq_getElem (by rw [hsz]; omega)⟩
                      obtain ⟨y1, hy1⟩ : ∃ y, cm[k * 3 + 1]? = some y := ⟨_, Array.getElem?_eq_getElem (by rw [hsz]; omega)⟩
                      obtain ⟨y2, hy2⟩ : ∃ y, cm[k * 3 + 2]? = some y := ⟨_, Array.getElem?_eq_getElem (by rw [hsz]; omega)⟩
                      clear hsz
                      obtain ⟨Y, hY⟩ : ∃ Y, vAdd (pk k) Sv = Y := ⟨_, rfl⟩
                      have HA := Lib.hid (show (vAdd ⟨(pk k).x, (pk k).y, (pk k).z⟩ ⟨Sv.x, Sv.y, Sv.z⟩).v = V3.v Y from congrArg V3.v hY)
                      have hM2 := HM2.out.step hlt
                      rw [hY] at hM2
                      obtain ⟨cm2, hcm2⟩ : ∃ c, ((cm.setIfInBounds (k * 3) (.int .i64 Y.x)).setIfInBounds (k * 3 + 1) (.int .i64 Y.y)).setIfInBounds (k * 3 + 2) (.int .i64 Y.z) = c := ⟨_, rfl⟩
                      rw [hcm2] at hM2
                      have HY := Lib.hid hY
                      have r := hM2.row k (by omega)
                      rw [hY] at r
                      have rx := r.1
                      have ry := r.2.1
                      have rz := r.2.2
                      have HM3 := Lib.hid hM2
                      have HC := Lib.hid hcm2
                      clear hM2 hY hcm2 r
                      go_wp2
                      refine region_late 8 [w3.heap.size + 1] (by kernel_rfl) (by kernel_rfl) (by rfl) ?_
                      apply Exists.intro
                      refine ⟨fun v hv hne => ?_, fun u hu => ?_⟩
                      · simp only [List.take_succ_cons, List.take_zero]
                        have dob := fun x => (ob.later (v := v) (T := [w3.heap.size + 1]) (by first | (simp; done) | (simp; omega)) x).cell
                        have dog := fun x => (og.later (v := v) (T := [w3.heap.size + 1]) (by first | (simp; done) | (simp; omega)) x).cell
                        have dop := fun x => (op.later (v := v) (T := [w3.heap.size + 1]) (by first | (simp; done) | (simp; omega)) x).cell
                        have dos := fun x => (os.later (v := v) (T := [w3.heap.size + 1]) (by first | (simp; done) | (simp; omega)) x).cell
                        repeat (go_big_quiet_step ((first | (go_at_call 27; with_reducible exact lateB (callv (plane_Add (pk k).x (pk k).y (pk k).z Sv.x Sv.y Sv.z _) HA.out)))))
                        refine wpQuiet_nil ?_
                        exact rfl
                      · simp only [List.drop_succ_cons, List.drop_zero]
                        have omu : Own u (w3.heap.size + 1) cm := om.below hu
                        have omuc := omu.cell
                        have omuf := omu.thaw
                        refine late_mem (fun K hK => ?_)
                        go_simp
                        refine hK _ _ ((((Keeps.of_below hu).set (by simp) _).set (by simp) _).set (by simp) _) (fun u2 hu2 => ?_)
                        clear hK K
                        have hk : Keeps [w3.heap.size + 1] wr u2 := ((((Keeps.of_below hu).set (by simp) _).set (by simp) _).set (by simp) _ |>.later hu2)
                        have om3 := (((omu.set (k * 3) (.int .i64 Y.x)).set (k * 3 + 1) (.int .i64 Y.y)).set (k * 3 + 2) (.int .i64 Y.z)).below hu2
                        rw [HC.out] at om3
                        replace hw := Below.hop ((((Below.hop hw hu).setCell (by first | (simp; done) | (simp; omega)) _).setCell (by first | (simp; done) | (simp; omega)) _).setCell (by first | (simp; done) | (simp; omega)) _) hu2
                        replace ob := ob.keeps hk (by first | (simp; done) | (simp; omega))
                        replace og := og.keeps hk (by first | (simp; done) | (simp; omega))
                        replace op := op.keeps hk (by first | (simp; done) | (simp; omega))
                        replace os := os.keeps hk (by first | (simp; done) | (simp; omega))
                        replace om := om3
                        clear omu omuc omuf hk hu hu2 om3
                        replace hz := hw.size
                        refine late_nil ?_
                        (try simp only [Act.put])
                        clear hy0 hy1 hy2
                        replace obc := ob.cell
                        replace obf := ob.thaw
                        replace obz := ob.lt
                        replace ogc := og.cell
                        replace ogf := og.thaw
                        replace ogz := og.lt
                        replace opc := op.cell
                        replace opf := op.thaw
                        replace opz := op.lt
                        replace osc := os.cell
                        replace osf := os.thaw
                        replace osz := os.lt
                        replace omc := om.cell
                        replace omf := om.thaw
                        replace omz := om.lt
                        cases hv : vIn Y
                        · have HV := Lib.hid (show Value.bool (vIn ⟨Y.x, Y.y, Y.z⟩) = .bool false from congrArg Value.bool hv)
                          have HVV := Lib.hid hv
                          clear hv
                          go_wp2_with fail
                          refine Calls.mono (callv (plane_In Y.x Y.y Y.z _) HV.out) ?_
                          rintro e w4 ⟨rfl, hbx⟩
                          replace ob : Own w4 (w.heap.size) #[.int .u8 s0, .int .u8 s1, .int .u8 s2] := Own.below (by repeat' (first | ((refine Own.new ?_); (focus (first | rfl | omega | (simp; done) | (simp; omega)))) | assumption | refine Own.alloc ?_ _ | refine Own.drew ?_ | (refine Own.far ?_ ?_ _; rotate_left; (focus (first | rfl | omega | (simp; done) | (simp; omega)))))) hbx
                          replace obc := ob.cell
                          replace obf := ob.thaw
                          replace obz := ob.lt
                          replace og : Own w4 (g) cs := Own.below (by repeat' (first | ((refine Own.new ?_); (focus (first | rfl | omega | (simp; done) | (simp; omega)))) | assumption | refine Own.alloc ?_ _ | refine Own.drew ?_ | (refine Own.far ?_ ?_ _; rotate_left; (focus (first | rfl | omega | (simp; done) | (simp; omega)))))) hbx
                          replace ogc := og.cell
                          replace ogf := og.thaw
                          replace ogz := og.lt
                          replace op : Own w4 (opb) #[.int .i64 N.x, .int .i64 N.y, .int .i64 N.z, .int .i64 b] := Own.below (by repeat' (first | ((refine Own.new ?_); (focus (first | rfl | omega | (simp; done) | (simp; omega)))) | assumption | refine Own.alloc ?_ _ | refine Own.drew ?_ | (refine Own.far ?_ ?_ _; rotate_left; (focus (first | rfl | omega | (simp; done) | (simp; omega)))))) hbx
                          replace opc := op.cell
                          replace opf := op.thaw
                          replace opz := op.lt
                          replace os : Own w4 (w3.heap.size) #[.int .i64 Sv.x, .int .i64 Sv.y, .int .i64 Sv.z] := Own.below (by repeat' (first | ((refine Own.new ?_); (focus (first | rfl | omega | (simp; done) | (simp; omega)))) | assumption | refine Own.alloc ?_ _ | refine Own.drew ?_ | (refine Own.far ?_ ?_ _; rotate_left; (focus (first | rfl | omega | (simp; done) | (simp; omega)))))) hbx
                          replace osc := os.cell
                          replace osf := os.thaw
                          replace osz := os.lt
                          replace om : Own w4 (w3.heap.size + 1) cm2 := Own.below (by repeat' (first | ((refine Own.new ?_); (focus (first | rfl | omega | (simp; done) | (simp; omega)))) | assumption | refine Own.alloc ?_ _ | refine Own.drew ?_ | (refine Own.far ?_ ?_ _; rotate_left; (focus (first | rfl | omega | (simp; done) | (simp; omega)))))) hbx
                          replace omc := om.cell
                          replace omf := om.thaw
                          replace omz := om.lt
                          replace hw : Below w.heap.size w w4 := Below.hop (by repeat' (first | exact Below.refl _ _ | assumption | (refine Below.alloc ?_ ?_ _; rotate_left; (focus (first | rfl | omega | (simp; done) | (simp; omega)))) | (refine Below.setCell ?_ ?_ _; rotate_left; (focus (first | rfl | omega | (simp; done) | (simp; omega)))) | refine Below.drew ?_)) hbx
                          replace hz := hw.size
                          clear hbx
                          go_wp2
                          go_ret
                          exact ⟨rfl, hw⟩
                        · have HV := Lib.hid (show Value.bool (vIn ⟨Y.x, Y.y, Y.z⟩) = .bool true from congrArg Value.bool hv)
                          have HVV := Lib.hid hv
                          clear hv
                          go_wp2_with fail
                          refine Calls.mono (callv (plane_In Y.x Y.y Y.z _) HV.out) ?_
                          rintro e w4 ⟨rfl, hbx⟩
                          replace ob : Own w4 (w.heap.size) #[.int .u8 s0, .int .u8 s1, .int .u8 s2] := Own.below (by repeat' (first | ((refine Own.new ?_); (focus (first | rfl | omega | (simp; done) | (simp; omega)))) | assumption | refine Own.alloc ?_ _ | refine Own.drew ?_ | (refine Own.far ?_ ?_ _; rotate_left; (focus (first | rfl | omega | (simp; done) | (simp; omega)))))) hbx
                          replace obc := ob.cell
                          replace obf := ob.thaw
                          replace obz := ob.lt
                          replace og : Own w4 (g) cs := Own.below (by repeat' (first | ((refine Own.new ?_); (focus (first | rfl | omega | (simp; done) | (simp; omega)))) | assumption | refine Own.alloc ?_ _ | refine Own.drew ?_ | (refine Own.far ?_ ?_ _; rotate_left; (focus (first | rfl | omega | (simp; done) | (simp; omega)))))) hbx
                          replace ogc := og.cell
                          replace ogf := og.thaw
                          replace ogz := og.lt
                          replace op : Own w4 (opb) #[.int .i64 N.x, .int .i64 N.y, .int .i64 N.z, .int .i64 b] := Own.below (by repeat' (first | ((refine Own.new ?_); (focus (first | rfl | omega | (simp; done) | (simp; omega)))) | assumption | refine Own.alloc ?_ _ | refine Own.drew ?_ | (refine Own.far ?_ ?_ _; rotate_left; (focus (first | rfl | omega | (simp; done) | (simp; omega)))))) hbx
                          replace opc := op.cell
                          replace opf := op.thaw
                          replace opz := op.lt
                          replace os : Own w4 (w3.heap.size) #[.int .i64 Sv.x, .int .i64 Sv.y, .int .i64 Sv.z] := Own.below (by repeat' (first | ((refine Own.new ?_); (focus (first | rfl | omega | (simp; done) | (simp; omega)))) | assumption | refine Own.alloc ?_ _ | refine Own.drew ?_ | (refine Own.far ?_ ?_ _; rotate_left; (focus (first | rfl | omega | (simp; done) | (simp; omega)))))) hbx
                          replace osc := os.cell
                          replace osf := os.thaw
                          replace osz := os.lt
                          replace om : Own w4 (w3.heap.size + 1) cm2 := Own.below (by repeat' (first | ((refine Own.new ?_); (focus (first | rfl | omega | (simp; done) | (simp; omega)))) | assumption | refine Own.alloc ?_ _ | refine Own.drew ?_ | (refine Own.far ?_ ?_ _; rotate_left; (focus (first | rfl | omega | (simp; done) | (simp; omega)))))) hbx
                          replace omc := om.cell
                          replace omf := om.thaw
                          replace omz := om.lt
                          replace hw : Below w.heap.size w w4 := Below.hop (by repeat' (first | exact Below.refl _ _ | assumption | (refine Below.alloc ?_ ?_ _; rotate_left; (focus (first | rfl | omega | (simp; done) | (simp; omega)))) | (refine Below.setCell ?_ ?_ _; rotate_left; (focus (first | rfl | omega | (simp; done) | (simp; omega)))) | refine Below.drew ?_)) hbx
                          replace hz := hw.size
                          clear hbx
                          go_wp2
                          go_roundw
                          case rel => exact ⟨k + 1, cm2, by omega, by go_num, hw, ob, og, op, os, om, HM3.out, fun j hj => (Nat.lt_or_ge j k).elim (fun h => HI.out j h) (fun h => by obtain rfl : j = k := (by omega); rw [HY.out]; exact HVV.out)⟩
                          case measure => simp [intOf]; omega
                    · obtain rfl : k = 3 := by omega
                      have m4 := HS.out.mv Sv (hI 0 (by omega)) (hI 1 (by omega)) (hI 2 (by omega))
                      obtain ⟨Y0, hY0⟩ : ∃ Y, vAdd (pk 0) Sv = Y := ⟨_, rfl⟩
                      have r0 := hM.row 0 (by omega)
                      rw [hY0] at r0
                      have r0x : cm[0]? = some (.int .i64 Y0.x) := r0.1
                      have r0y : cm[1]? = some (.int .i64 Y0.y) := r0.2.1
                      have r0z : cm[2]? = some (.int .i64 Y0.z) := r0.2.2
                      rw [hY0] at m4
                      obtain ⟨Y1, hY1⟩ : ∃ Y, vAdd (pk 1) Sv = Y := ⟨_, rfl⟩
                      have r1 := hM.row 1 (by omega)
                      rw [hY1] at r1
                      have r1x : cm[3]? = some (.int .i64 Y1.x) := r1.1
                      have r1y : cm[4]? = some (.int .i64 Y1.y) := r1.2.1
                      have r1z : cm[5]? = some (.int .i64 Y1.z) := r1.2.2
                      rw [hY1] at m4
                      obtain ⟨Y2, hY2⟩ : ∃ Y, vAdd (pk 2) Sv = Y := ⟨_, rfl⟩
                      have r2 := hM.row 2 (by omega)
                      rw [hY2] at r2
                      have r2x : cm[6]? = some (.int .i64 Y2.x) := r2.1
                      have r2y : cm[7]? = some (.int .i64 Y2.y) := r2.2.1
                      have r2z : cm[8]? = some (.int .i64 Y2.z) := r2.2.2
                      rw [hY2] at m4
                      obtain ⟨d, hd⟩ : ∃ d, vDot N Sv = d := ⟨_, rfl⟩
                      rw [hd] at m4
                      have HD := Lib.hid (show Value.int .i64 (vDot ⟨N.x, N.y, N.z⟩ ⟨Sv.x, Sv.y, Sv.z⟩) = .int .i64 d from congrArg (Value.int .i64) hd)
                      have HT4 := Lib.hid (show Value.tuple #[(pThrough ⟨Y0.x, Y0.y, Y0.z⟩ ⟨Y1.x, Y1.y, Y1.z⟩ ⟨Y2.x, Y2.y, Y2.z⟩).v, .bool (okThrough ⟨Y0.x, Y0.y, Y0.z⟩ ⟨Y1.x, Y1.y, Y1.z⟩ ⟨Y2.x, Y2.y, Y2.z⟩)] = .tuple #[Pl.v ⟨N, wrap64 (b + d)⟩, .bool true] from tupThrough m4.1 m4.2.1 m4.2.2)
                      clear hd m4 hM hI r0 r1 r2 hY0 hY1 hY2
                      go_wp2_with fail
                      refine Calls.mono (callv (plane_Through Y0.x Y0.y Y0.z Y1.x Y1.y Y1.z Y2.x Y2.y Y2.z _) HT4.out) ?_
                      rintro e w4 ⟨rfl, hbx⟩
                      replace ob : Own w4 (w.heap.size) #[.int .u8 s0, .int .u8 s1, .int .u8 s2] := Own.below (by repeat' (first | ((refine Own.new ?_); (focus (first | rfl | omega | (simp; done) | (simp; omega)))) | assumption | refine Own.alloc ?_ _ | refine Own.drew ?_ | (refine Own.far ?_ ?_ _; rotate_left; (focus (first | rfl | omega | (simp; done) | (simp; omega)))))) hbx
                      replace obc := ob.cell
                      replace obf := ob.thaw
                      replace obz := ob.lt
                      replace og : Own w4 (g) cs := Own.below (by repeat' (first | ((refine Own.new ?_); (focus (first | rfl | omega | (simp; done) | (simp; omega)))) | assumption | refine Own.alloc ?_ _ | refine Own.drew ?_ | (refine Own.far ?_ ?_ _; rotate_left; (focus (first | rfl | omega | (simp; done) | (simp; omega)))))) hbx
                      replace ogc := og.cell
                      replace ogf := og.thaw
                      replace ogz := og.lt
                      replace op : Own w4 (opb) #[.int .i64 N.x, .int .i64 N.y, .int .i64 N.z, .int .i64 b] := Own.below (by repeat' (first | ((refine Own.new ?_); (focus (first | rfl | omega | (simp; done) | (simp; omega)))) | assumption | refine Own.alloc ?_ _ | refine Own.drew ?_ | (refine Own.far ?_ ?_ _; rotate_left; (focus (first | rfl | omega | (simp; done) | (simp; omega)))))) hbx
                      replace opc := op.cell
                      replace opf := op.thaw
                      replace opz := op.lt
                      replace os : Own w4 (w3.heap.size) #[.int .i64 Sv.x, .int .i64 Sv.y, .int .i64 Sv.z] := Own.below (by repeat' (first | ((refine Own.new ?_); (focus (first | rfl | omega | (simp; done) | (simp; omega)))) | assumption | refine Own.alloc ?_ _ | refine Own.drew ?_ | (refine Own.far ?_ ?_ _; rotate_left; (focus (first | rfl | omega | (simp; done) | (simp; omega)))))) hbx
                      replace osc := os.cell
                      replace osf := os.thaw
                      replace osz := os.lt
                      replace om : Own w4 (w3.heap.size + 1) cm := Own.below (by repeat' (first | ((refine Own.new ?_); (focus (first | rfl | omega | (simp; done) | (simp; omega)))) | assumption | refine Own.alloc ?_ _ | refine Own.drew ?_ | (refine Own.far ?_ ?_ _; rotate_left; (focus (first | rfl | omega | (simp; done) | (simp; omega)))))) hbx
                      replace omc := om.cell
                      replace omf := om.thaw
                      replace omz := om.lt
                      replace hw : Below w.heap.size w w4 := Below.hop (by repeat' (first | exact Below.refl _ _ | assumption | (refine Below.alloc ?_ ?_ _; rotate_left; (focus (first | rfl | omega | (simp; done) | (simp; omega)))) | (refine Below.setCell ?_ ?_ _; rotate_left; (focus (first | rfl | omega | (simp; done) | (simp; omega)))) | refine Below.drew ?_)) hbx
                      replace hz := hw.size
                      clear hbx
                      go_wp2
                      have ot : Own (w4.alloc (.cells #[.int .i64 N.x, .int .i64 N.y, .int .i64 N.z, .int .i64 (wrap64 (b + d))] 32)) (w4.heap.size) #[.int .i64 N.x, .int .i64 N.y, .int .i64 N.z, .int .i64 (wrap64 (b + d))] := Own.new rfl
                      replace ob : Own (w4.alloc (.cells #[.int .i64 N.x, .int .i64 N.y, .int .i64 N.z, .int .i64 (wrap64 (b + d))] 32)) (w.heap.size) #[.int .u8 s0, .int .u8 s1, .int .u8 s2] := (by repeat' (first | ((refine Own.new ?_); (focus (first | rfl | omega | (simp; done) | (simp; omega)))) | assumption | refine Own.alloc ?_ _ | refine Own.drew ?_ | (refine Own.far ?_ ?_ _; rotate_left; (focus (first | rfl | omega | (simp; done) | (simp; omega))))))
                      clear obc obf obz
                      replace og : Own (w4.alloc (.cells #[.int .i64 N.x, .int .i64 N.y, .int .i64 N.z, .int .i64 (wrap64 (b + d))] 32)) (g) cs := (by repeat' (first | ((refine Own.new ?_); (focus (first | rfl | omega | (simp; done) | (simp; omega)))) | assumption | refine Own.alloc ?_ _ | refine Own.drew ?_ | (refine Own.far ?_ ?_ _; rotate_left; (focus (first | rfl | omega | (simp; done) | (simp; omega))))))
                      clear ogc ogf ogz
                      replace op : Own (w4.alloc (.cells #[.int .i64 N.x, .int .i64 N.y, .int .i64 N.z, .int .i64 (wrap64 (b + d))] 32)) (opb) #[.int .i64 N.x, .int .i64 N.y, .int .i64 N.z, .int .i64 b] := (by repeat' (first | ((refine Own.new ?_); (focus (first | rfl | omega | (simp; done) | (simp; omega)))) | assumption | refine Own.alloc ?_ _ | refine Own.drew ?_ | (refine Own.far ?_ ?_ _; rotate_left; (focus (first | rfl | omega | (simp; done) | (simp; omega))))))
                      clear opc opf opz
                      replace os : Own (w4.alloc (.cells #[.int .i64 N.x, .int .i64 N.y, .int .i64 N.z, .int .i64 (wrap64 (b + d))] 32)) (w3.heap.size) #[.int .i64 Sv.x, .int .i64 Sv.y, .int .i64 Sv.z] := (by repeat' (first | ((refine Own.new ?_); (focus (first | rfl | omega | (simp; done) | (simp; omega)))) | assumption | refine Own.alloc ?_ _ | refine Own.drew ?_ | (refine Own.far ?_ ?_ _; rotate_left; (focus (first | rfl | omega | (simp; done) | (simp; omega))))))
                      clear osc osf osz
                      replace om : Own (w4.alloc (.cells #[.int .i64 N.x, .int .i64 N.y, .int .i64 N.z, .int .i64 (wrap64 (b + d))] 32)) (w3.heap.size + 1) cm := (by repeat' (first | ((refine Own.new ?_); (focus (first | rfl | omega | (simp; done) | (simp; omega)))) | assumption | refine Own.alloc ?_ _ | refine Own.drew ?_ | (refine Own.far ?_ ?_ _; rotate_left; (focus (first | rfl | omega | (simp; done) | (simp; omega))))))
                      clear omc omf omz
                      replace hw : Below w.heap.size w (w4.alloc (.cells #[.int .i64 N.x, .int .i64 N.y, .int .i64 N.z, .int .i64 (wrap64 (b + d))] 32)) := (by repeat' (first | exact Below.refl _ _ | assumption | (refine Below.alloc ?_ ?_ _; rotate_left; (focus (first | rfl | omega | (simp; done) | (simp; omega)))) | (refine Below.setCell ?_ ?_ _; rotate_left; (focus (first | rfl | omega | (simp; done) | (simp; omega)))) | refine Below.drew ?_))
                      generalize w4.alloc (.cells #[.int .i64 N.x, .int .i64 N.y, .int .i64 N.z, .int .i64 (wrap64 (b + d))] 32) = w5 at *
                      have obc := ob.cell
                      have obf := ob.thaw
                      have obz := ob.lt
                      have ogc := og.cell
                      have ogf := og.thaw
                      have ogz := og.lt
                      have opc := op.cell
                      have opf := op.thaw
                      have opz := op.lt
                      have osc := os.cell
                      have osf := os.thaw
                      have osz := os.lt
                      have omc := om.cell
                      have omf := om.thaw
                      have omz := om.lt
                      have otc := ot.cell
                      have otf := ot.thaw
                      have otz := ot.lt
                      replace hz := hw.size
                      refine region_late 23 [] (by kernel_rfl) (by kernel_rfl) (by rfl) ?_
                      apply Exists.intro
                      refine ⟨fun v hv hne => ?_, fun u hu => ?_⟩
                      · simp only [List.take_succ_cons, List.take_zero]
                        have dob := fun x => (ob.later (v := v) (T := []) (by first | (simp; done) | (simp; omega)) x).cell
                        have dog := fun x => (og.later (v := v) (T := []) (by first | (simp; done) | (simp; omega)) x).cell
                        have dop := fun x => (op.later (v := v) (T := []) (by first | (simp; done) | (simp; omega)) x).cell
                        have dos := fun x => (os.later (v := v) (T := []) (by first | (simp; done) | (simp; omega)) x).cell
                        have dom := fun x => (om.later (v := v) (T := []) (by first | (simp; done) | (simp; omega)) x).cell
                        have dot := fun x => (ot.later (v := v) (T := []) (by first | (simp; done) | (simp; omega)) x).cell
                        repeat (go_big_quiet_step ((first | (go_at_call 29; with_reducible exact lateB (callv (plane_Dot N.x N.y N.z Sv.x Sv.y Sv.z _) HD.out)))))
                        refine wpQuiet_nil ?_
                        exact rfl
                      · simp only [List.drop_succ_cons, List.drop_zero]
                        refine late_mem (fun K hK => ?_)
                        go_simp
                        refine hK _ _ (Keeps.of_below hu) (fun u4 hu2 => ?_)
                        clear hK K
                        replace ob := (ob.below hu).below hu2
                        replace og := (og.below hu).below hu2
                        replace op := (op.below hu).below hu2
                        replace os := (os.below hu).below hu2
                        replace om := (om.below hu).below hu2
                        replace ot := (ot.below hu).below hu2
                        replace hw := Below.hop (Below.hop hw hu) hu2
                        replace hz := hw.size
                        clear hu hu2
                        refine late_nil ?_
                        (try simp only [Act.put, List.setIfInBounds_toArray, List.set_cons_zero, List.set_cons_succ])
                        have obc := ob.cell
                        have obf := ob.thaw
                        have obz := ob.lt
                        have ogc := og.cell
                        have ogf := og.thaw
                        have ogz := og.lt
                        have opc := op.cell
                        have opf := op.thaw
                        have opz := op.lt
                        have osc := os.cell
                        have osf := os.thaw
                        have osz := os.lt
                        have omc := om.cell
                        have omf := om.thaw
                        have omz := om.lt
                        have otc := ot.cell
                        have otf := ot.thaw
                        have otz := ot.lt
                        go_wp2
                        go_ret
                        exact ⟨rfl, hw⟩
set_option maxRecDepth 100000 in
set_option maxHeartbeats 4000000 in
theorem law7_Sides_flat (A : Option Addr) (n cap : Nat) (l : List Int) (s0 s1 s2 : Int) (w : World) (hl : SliceI w A n l) (hcap : n ≤ cap) (hcap2 : cap ≤ 9223372036854775807) (pk : Nat → V3) (hpk : ∀ k, pk k = ptAt (l.take 16) k)
    (hx : vCross (vSub (pk 1) (pk 0)) (vSub (pk 2) (pk 0)) = ⟨0, 0, 0⟩) (S : FlatLaw (pk 0) (pk 1) (pk 2)) :
    Calls Try.prog 9 #[.slice A n cap, .agg #[.int .u8 s0, .int .u8 s1, .int .u8 s2]] w fun r w' => r = .returned (.bool true) ∧ Below w.heap.size w w' := by
  have hl2 := hl.cutTo 16
  have HL := Lib.hid hl2
  clear hl hl2
  have hn0 : 0 ≤ (n : Int) := by omega
  have hn1 : (n : Int) ≤ (cap : Int) := by omega
  have hn2 : (cap : Int) ≤ 9223372036854775807 := by omega
  have HPK := Lib.hid hpk
  clear hpk
  have HT0 := Lib.hid (show Value.tuple #[(pThrough ⟨(pk 0).x, (pk 0).y, (pk 0).z⟩ ⟨(pk 1).x, (pk 1).y, (pk 1).z⟩ ⟨(pk 2).x, (pk 2).y, (pk 2).z⟩).v, .bool (okThrough ⟨(pk 0).x, (pk 0).y, (pk 0).z⟩ ⟨(pk 1).x, (pk 1).y, (pk 1).z⟩ ⟨(pk 2).x, (pk 2).y, (pk 2).z⟩)] = .tuple #[vP 0 0 0 0, .bool false] by show Value.tuple #[(pThrough (pk 0) (pk 1) (pk 2)).v, .bool (okThrough (pk 0) (pk 1) (pk 2))] = _; rw [S.t1, S.o1])
  have HT1 := Lib.hid (show Value.tuple #[(pThrough ⟨(pk 1).x, (pk 1).y, (pk 1).z⟩ ⟨(pk 2).x, (pk 2).y, (pk 2).z⟩ ⟨(pk 0).x, (pk 0).y, (pk 0).z⟩).v, .bool (okThrough ⟨(pk 1).x, (pk 1).y, (pk 1).z⟩ ⟨(pk 2).x, (pk 2).y, (pk 2).z⟩ ⟨(pk 0).x, (pk 0).y, (pk 0).z⟩)] = .tuple #[vP 0 0 0 0, .bool false] by show Value.tuple #[(pThrough (pk 1) (pk 2) (pk 0)).v, .bool (okThrough (pk 1) (pk 2) (pk 0))] = _; rw [S.t2, S.o2])
  have HT2 := Lib.hid (show Value.tuple #[(pThrough ⟨(pk 0).x, (pk 0).y, (pk 0).z⟩ ⟨(pk 2).x, (pk 2).y, (pk 2).z⟩ ⟨(pk 1).x, (pk 1).y, (pk 1).z⟩).v, .bool (okThrough ⟨(pk 0).x, (pk 0).y, (pk 0).z⟩ ⟨(pk 2).x, (pk 2).y, (pk 2).z⟩ ⟨(pk 1).x, (pk 1).y, (pk 1).z⟩)] = .tuple #[vP 0 0 0 0, .bool false] by show Value.tuple #[(pThrough (pk 0) (pk 2) (pk 1)).v, .bool (okThrough (pk 0) (pk 2) (pk 1))] = _; rw [S.t3, S.o3])
  obtain ⟨D1, hD1⟩ : ∃ D, vSub (pk 1) (pk 0) = D := ⟨_, rfl⟩
  obtain ⟨D2, hD2⟩ : ∃ D, vSub (pk 2) (pk 0) = D := ⟨_, rfl⟩
  rw [hD1, hD2] at hx
  have HD1 := Lib.hid (show (vSub ⟨(pk 1).x, (pk 1).y, (pk 1).z⟩ ⟨(pk 0).x, (pk 0).y, (pk 0).z⟩).v = D1.v from congrArg V3.v hD1)
  have HD2 := Lib.hid (show (vSub ⟨(pk 2).x, (pk 2).y, (pk 2).z⟩ ⟨(pk 0).x, (pk 0).y, (pk 0).z⟩).v = D2.v from congrArg V3.v hD2)
  have HX := Lib.hid (show (vCross ⟨D1.x, D1.y, D1.z⟩ ⟨D2.x, D2.y, D2.z⟩).v = vV 0 0 0 from congrArg V3.v hx)
  clear hD1 hD2 hx S
  go_enter Try.func9, Try.ntmps9
  go_wp2_with fail
  refine Calls.mono (law7_sanity _) ?_
  rintro e w1 ⟨rfl, hbx⟩
  have ob : Own w1 (w.heap.size) #[.int .u8 s0, .int .u8 s1, .int .u8 s2] := Own.below (by repeat' (first | ((refine Own.new ?_); (focus (first | rfl | omega | (simp; done) | (simp; omega)))) | assumption | refine Own.alloc ?_ _ | refine Own.drew ?_ | (refine Own.far ?_ ?_ _; rotate_left; (focus (first | rfl | omega | (simp; done) | (simp; omega)))))) hbx
  have obc := ob.cell
  have obf := ob.thaw
  have obz := ob.lt
  have hw : Below w.heap.size w w1 := Below.hop (by repeat' (first | exact Below.refl _ _ | assumption | (refine Below.alloc ?_ ?_ _; rotate_left; (focus (first | rfl | omega | (simp; done) | (simp; omega)))) | (refine Below.setCell ?_ ?_ _; rotate_left; (focus (first | rfl | omega | (simp; done) | (simp; omega)))) | refine Below.drew ?_)) hbx
  have hz := hw.size
  clear hbx
  go_wp2_with fail
  all_goals
    have hl3 := HL.out.below hw
    first
      | rw [show min n 16 = 16 by omega] at hl3
      | rw [show min n 16 = n by omega] at hl3
    refine Calls.mono (ref7_PointsOwn A _ cap _ 4 (by omega) (by omega) _ hl3) ?_
    rintro e w2 ⟨g, c, cs, rfl, hbx, hg0, hc4, hcM, og, hq⟩
    replace ob : Own w2 (w.heap.size) #[.int .u8 s0, .int .u8 s1, .int .u8 s2] := Own.below (by repeat' (first | ((refine Own.new ?_); (focus (first | rfl | omega | (simp; done) | (simp; omega)))) | assumption | refine Own.alloc ?_ _ | refine Own.drew ?_ | (refine Own.far ?_ ?_ _; rotate_left; (focus (first | rfl | omega | (simp; done) | (simp; omega)))))) hbx
    replace obc := ob.cell
    replace obf := ob.thaw
    replace obz := ob.lt
    replace hw : Below w.heap.size w w2 := Below.hop (by repeat' (first | exact Below.refl _ _ | assumption | (refine Below.alloc ?_ ?_ _; rotate_left; (focus (first | rfl | omega | (simp; done) | (simp; omega)))) | (refine Below.setCell ?_ ?_ _; rotate_left; (focus (first | rfl | omega | (simp; done) | (simp; omega)))) | refine Below.drew ?_)) hbx
    replace hz := hw.size
    clear hbx
    have HQ := Lib.hid (show ∀ k, k < 4 → cs[k * 3]? = some (.int .i64 (pk k).x) ∧ cs[k * 3 + 1]? = some (.int .i64 (pk k).y) ∧ cs[k * 3 + 2]? = some (.int .i64 (pk k).z) from fun k hk => by have h := ptCells_at (l.take 16) 4 k hk; rw [HPK.out k, hq _ (by omega), hq _ (by omega), hq _ (by omega)]; exact h)
    clear hq hl3
    have q0 := HQ.out 0 (by omega)
    have q0x : cs[0]? = some (.int .i64 (pk 0).x) := q0.1
    have q0y : cs[1]? = some (.int .i64 (pk 0).y) := q0.2.1
    have q0z : cs[2]? = some (.int .i64 (pk 0).z) := q0.2.2
    clear q0
    have q1 := HQ.out 1 (by omega)
    have q1x : cs[3]? = some (.int .i64 (pk 1).x) := q1.1
    have q1y : cs[4]? = some (.int .i64 (pk 1).y) := q1.2.1
    have q1z : cs[5]? = some (.int .i64 (pk 1).z) := q1.2.2
    clear q1
    have q2 := HQ.out 2 (by omega)
    have q2x : cs[6]? = some (.int .i64 (pk 2).x) := q2.1
    have q2y : cs[7]? = some (.int .i64 (pk 2).y) := q2.2.1
    have q2z : cs[8]? = some (.int .i64 (pk 2).z) := q2.2.2
    clear q2
    have q3 := HQ.out 3 (by omega)
    have q3x : cs[9]? = some (.int .i64 (pk 3).x) := q3.1
    have q3y : cs[10]? = some (.int .i64 (pk 3).y) := q3.2.1
    have q3z : cs[11]? = some (.int .i64 (pk 3).z) := q3.2.2
    clear q3
    have ogc := og.cell
    have ogf := og.thaw
    have ogz := og.lt
    go_wp2
    refine region_late 13 [] (by kernel_rfl) (by kernel_rfl) (by rfl) ?_
    apply Exists.intro
    refine ⟨fun v hv hne => ?_, fun u hu => ?_⟩
    · simp only [List.take_succ_cons, List.take_zero]
      have dob := fun x => (ob.later (v := v) (T := []) (by first | (simp; done) | (simp; omega)) x).cell
      have dog := fun x => (og.later (v := v) (T := []) (by first | (simp; done) | (simp; omega)) x).cell
      repeat (go_big_quiet_step ((first | (go_at_call 20; with_reducible exact lateB (callv (plane_Through (pk 0).x (pk 0).y (pk 0).z (pk 1).x (pk 1).y (pk 1).z (pk 2).x (pk 2).y (pk 2).z _) HT0.out)))))
      refine wpQuiet_nil ?_
      exact rfl
    · simp only [List.drop_succ_cons, List.drop_zero]
      skip
      refine late_mem (fun K hK => ?_)
      go_simp
      refine hK _ _ ((Keeps.of_below hu).alloc _) (fun ua2 hu2 => ?_)
      clear hK K
      have hk2 : Keeps [] w2 ua2 := ((Keeps.of_below (T := []) hu).alloc _).later hu2
      have op : Own ua2 u.heap.size #[.int .i64 0, .int .i64 0, .int .i64 0, .int .i64 0] := Own.below (Own.new rfl) hu2
      have opc := op.cell
      have opf := op.thaw
      have opg : w2.heap.size ≤ u.heap.size := hu.size
      replace hw := Below.hop ((Below.hop hw hu).alloc (by have := hw.size; have := hu.size; omega) _) hu2
      have hwz := hw.size
      have opy : w.heap.size ≤ u.heap.size := by omega
      refine late_mem (fun K hK => ?_)
      go_simp
      refine hK _ _ ((((hk2.new (by simp; omega) _).new (by simp; omega) _).new (by simp; omega) _).new (by simp; omega) _) (fun ua3 hu3 => ?_)
      clear hK K
      have hk3 : Keeps [] w2 ua3 := ((((hk2.new (by simp; omega) _).new (by simp; omega) _).new (by simp; omega) _).new (by simp; omega) _).later hu3
      replace op : Own ua3 u.heap.size #[.int .i64 0, .int .i64 0, .int .i64 0, .int .i64 0] := ((((op.set 0 _).set 1 _).set 2 _).set 3 _).below hu3
      replace hw := Below.hop ((((hw.setCell (by simp; omega) _).setCell (by simp; omega) _).setCell (by simp; omega) _).setCell (by simp; omega) _) hu3
      clear opc opf hk2
      refine late_mem (fun K hK => ?_)
      go_simp
      refine hK _ _ hk3 (fun ua4 hu4 => ?_)
      clear hK K
      replace op := op.below hu4
      replace hw := Below.hop hw hu4
      replace hk3 := hk3.later hu4
      clear hu4
      replace ob : Own ua4 (w.heap.size) #[.int .u8 s0, .int .u8 s1, .int .u8 s2] := ob.keeps hk3 (by simp)
      replace og : Own ua4 (g) cs := og.keeps hk3 (by simp)
      refine late_nil ?_
      (try simp only [Act.put, List.setIfInBounds_toArray, List.set_cons_zero, List.set_cons_succ])
      clear hk3 hu hu2 hu3 hwz
      generalize u.heap.size = opb at *
      replace hz := hw.size
      clear u
      replace obc := ob.cell
      replace obf := ob.thaw
      replace obz := ob.lt
      replace ogc := og.cell
      replace ogf := og.thaw
      replace ogz := og.lt
      replace opc := op.cell
      replace opf := op.thaw
      replace opz := op.lt
      go_wp2
      refine region_late 13 [] (by kernel_rfl) (by kernel_rfl) (by rfl) ?_
      apply Exists.intro
      refine ⟨fun v hv hne => ?_, fun u hu => ?_⟩
      · simp only [List.take_succ_cons, List.take_zero]
        have dob := fun x => (ob.later (v := v) (T := []) (by first | (simp; done) | (simp; omega)) x).cell
        have dog := fun x => (og.later (v := v) (T := []) (by first | (simp; done) | (simp; omega)) x).cell
        have dop := fun x => (op.later (v := v) (T := []) (by first | (simp; done) | (simp; omega)) x).cell
        repeat (go_big_quiet_step ((first | (go_at_call 20; with_reducible exact lateB (callv (plane_Through (pk 1).x (pk 1).y (pk 1).z (pk 2).x (pk 2).y (pk 2).z (pk 0).x (pk 0).y (pk 0).z _) HT1.out)))))
        refine wpQuiet_nil ?_
        exact rfl
      · simp only [List.drop_succ_cons, List.drop_zero]
        skip
        refine late_mem (fun K hK => ?_)
        go_simp
        refine hK _ _ ((Keeps.of_below hu).alloc _) (fun ub2 hu2 => ?_)
        clear hK K
        have hk2 : Keeps [] ua4 ub2 := ((Keeps.of_below (T := []) hu).alloc _).later hu2
        have oq : Own ub2 u.heap.size #[.int .i64 0, .int .i64 0, .int .i64 0, .int .i64 0] := Own.below (Own.new rfl) hu2
        have oqc := oq.cell
        have oqf := oq.thaw
        have oqg : ua4.heap.size ≤ u.heap.size := hu.size
        replace hw := Below.hop ((Below.hop hw hu).alloc (by have := hw.size; have := hu.size; omega) _) hu2
        have hwz := hw.size
        have oqy : w.heap.size ≤ u.heap.size := by omega
        refine late_mem (fun K hK => ?_)
        go_simp
        refine hK _ _ ((((hk2.new (by simp; omega) _).new (by simp; omega) _).new (by simp; omega) _).new (by simp; omega) _) (fun ub3 hu3 => ?_)
        clear hK K
        have hk3 : Keeps [] ua4 ub3 := ((((hk2.new (by simp; omega) _).new (by simp; omega) _).new (by simp; omega) _).new (by simp; omega) _).later hu3
        replace oq : Own ub3 u.heap.size #[.int .i64 0, .int .i64 0, .int .i64 0, .int .i64 0] := ((((oq.set 0 _).set 1 _).set 2 _).set 3 _).below hu3
        replace hw := Below.hop ((((hw.setCell (by simp; omega) _).setCell (by simp; omega) _).setCell (by simp; omega) _).setCell (by simp; omega) _) hu3
        clear oqc oqf hk2
        refine late_mem (fun K hK => ?_)
        go_simp
        refine hK _ _ hk3 (fun ub4 hu4 => ?_)
        clear hK K
        replace oq := oq.below hu4
        replace hw := Below.hop hw hu4
        replace hk3 := hk3.later hu4
        clear hu4
        replace ob : Own ub4 (w.heap.size) #[.int .u8 s0, .int .u8 s1, .int .u8 s2] := ob.keeps hk3 (by simp)
        replace og : Own ub4 (g) cs := og.keeps hk3 (by simp)
        replace op : Own ub4 (opb) #[.int .i64 0, .int .i64 0, .int .i64 0, .int .i64 0] := op.keeps hk3 (by simp)
        refine late_nil ?_
        (try simp only [Act.put, List.setIfInBounds_toArray, List.set_cons_zero, List.set_cons_succ])
        clear hk3 hu hu2 hu3 hwz
        generalize u.heap.size = oqb at *
        replace hz := hw.size
        clear u
        replace obc := ob.cell
        replace obf := ob.thaw
        replace obz := ob.lt
        replace ogc := og.cell
        replace ogf := og.thaw
        replace ogz := og.lt
        replace opc := op.cell
        replace opf := op.thaw
        replace opz := op.lt
        replace oqc := oq.cell
        replace oqf := oq.thaw
        replace oqz := oq.lt
        go_wp2
        refine region_late 13 [] (by kernel_rfl) (by kernel_rfl) (by rfl) ?_
        apply Exists.intro
        refine ⟨fun v hv hne => ?_, fun u hu => ?_⟩
        · simp only [List.take_succ_cons, List.take_zero]
          have dob := fun x => (ob.later (v := v) (T := []) (by first | (simp; done) | (simp; omega)) x).cell
          have dog := fun x => (og.later (v := v) (T := []) (by first | (simp; done) | (simp; omega)) x).cell
          have dop := fun x => (op.later (v := v) (T := []) (by first | (simp; done) | (simp; omega)) x).cell
          have doq := fun x => (oq.later (v := v) (T := []) (by first | (simp; done) | (simp; omega)) x).cell
          repeat (go_big_quiet_step ((first | (go_at_call 20; with_reducible exact lateB (callv (plane_Through (pk 0).x (pk 0).y (pk 0).z (pk 2).x (pk 2).y (pk 2).z (pk 1).x (pk 1).y (pk 1).z _) HT2.out)))))
          refine wpQuiet_nil ?_
          exact rfl
        · simp only [List.drop_succ_cons, List.drop_zero]
          skip
          refine late_mem (fun K hK => ?_)
          go_simp
          refine hK _ _ ((Keeps.of_below hu).alloc _) (fun uc2 hu2 => ?_)
          clear hK K
          have hk2 : Keeps [] ub4 uc2 := ((Keeps.of_below (T := []) hu).alloc _).later hu2
          have or : Own uc2 u.heap.size #[.int .i64 0, .int .i64 0, .int .i64 0, .int .i64 0] := Own.below (Own.new rfl) hu2
          have orc := or.cell
          have orf := or.thaw
          have org : ub4.heap.size ≤ u.heap.size := hu.size
          replace hw := Below.hop ((Below.hop hw hu).alloc (by have := hw.size; have := hu.size; omega) _) hu2
          have hwz := hw.size
          have ory : w.heap.size ≤ u.heap.size := by omega
          refine late_mem (fun K hK => ?_)
          go_simp
          refine hK _ _ ((((hk2.new (by simp; omega) _).new (by simp; omega) _).new (by simp; omega) _).new (by simp; omega) _) (fun uc3 hu3 => ?_)
          clear hK K
          have hk3 : Keeps [] ub4 uc3 := ((((hk2.new (by simp; omega) _).new (by simp; omega) _).new (by simp; omega) _).new (by simp; omega) _).later hu3
          replace or : Own uc3 u.heap.size #[.int .i64 0, .int .i64 0, .int .i64 0, .int .i64 0] := ((((or.set 0 _).set 1 _).set 2 _).set 3 _).below hu3
          replace hw := Below.hop ((((hw.setCell (by simp; omega) _).setCell (by simp; omega) _).setCell (by simp; omega) _).setCell (by simp; omega) _) hu3
          clear orc orf hk2
          refine late_mem (fun K hK => ?_)
          go_simp
          refine hK _ _ hk3 (fun uc4 hu4 => ?_)
          clear hK K
          replace or := or.below hu4
          replace hw := Below.hop hw hu4
          replace hk3 := hk3.later hu4
          clear hu4
          replace ob : Own uc4 (w.heap.size) #[.int .u8 s0, .int .u8 s1, .int .u8 s2] := ob.keeps hk3 (by simp)
          replace og : Own uc4 (g) cs := og.keeps hk3 (by simp)
          replace op : Own uc4 (opb) #[.int .i64 0, .int .i64 0, .int .i64 0, .int .i64 0] := op.keeps hk3 (by simp)
          replace oq : Own uc4 (oqb) #[.int .i64 0, .int .i64 0, .int .i64 0, .int .i64 0] := oq.keeps hk3 (by simp)
          refine late_nil ?_
          (try simp only [Act.put, List.setIfInBounds_toArray, List.set_cons_zero, List.set_cons_succ])
          clear hk3 hu hu2 hu3 hwz
          generalize u.heap.size = orb at *
          replace hz := hw.size
          clear u
          replace obc := ob.cell
          replace obf := ob.thaw
          replace obz := ob.lt
          replace ogc := og.cell
          replace ogf := og.thaw
          replace ogz := og.lt
          replace opc := op.cell
          replace opf := op.thaw
          replace opz := op.lt
          replace oqc := oq.cell
          replace oqf := oq.thaw
          replace oqz := oq.lt
          replace orc := or.cell
          replace orf := or.thaw
          replace orz := or.lt
          go_wp2
          refine region_late 17 [] (by kernel_rfl) (by kernel_rfl) (by rfl) ?_
          apply Exists.intro
          refine ⟨fun v hv hne => ?_, fun u hu => ?_⟩
          · simp only [List.take_succ_cons, List.take_zero]
            have dob := fun x => (ob.later (v := v) (T := []) (by first | (simp; done) | (simp; omega)) x).cell
            have dog := fun x => (og.later (v := v) (T := []) (by first | (simp; done) | (simp; omega)) x).cell
            have dop := fun x => (op.later (v := v) (T := []) (by first | (simp; done) | (simp; omega)) x).cell
            have doq := fun x => (oq.later (v := v) (T := []) (by first | (simp; done) | (simp; omega)) x).cell
            have dor := fun x => (or.later (v := v) (T := []) (by first | (simp; done) | (simp; omega)) x).cell
            repeat (go_big_quiet_step ((first | (go_at_call 28; with_reducible exact lateB (callv (plane_Sub (pk 1).x (pk 1).y (pk 1).z (pk 0).x (pk 0).y (pk 0).z _) HD1.out)) | (go_at_call 28; with_reducible exact lateB (callv (plane_Sub (pk 2).x (pk 2).y (pk 2).z (pk 0).x (pk 0).y (pk 0).z _) HD2.out)) | (go_at_call 31; with_reducible exact lateB (callv (plane_Cross D1.x D1.y D1.z D2.x D2.y D2.z _) HX.out)))))
            refine wpQuiet_nil ?_
            exact rfl
          · simp only [List.drop_succ_cons, List.drop_zero]
            refine late_mem (fun K hK => ?_)
            go_simp
            refine hK _ _ (Keeps.of_below hu) (fun ud hu2 => ?_)
            clear hK K
            replace ob := (ob.below hu).below hu2
            replace og := (og.below hu).below hu2
            replace op := (op.below hu).below hu2
            replace oq := (oq.below hu).below hu2
            replace or := (or.below hu).below hu2
            replace hw := Below.hop (Below.hop hw hu) hu2
            replace hz := hw.size
            clear hu hu2
            refine late_nil ?_
            (try simp only [Act.put, List.setIfInBounds_toArray, List.set_cons_zero, List.set_cons_succ])
            have obc := ob.cell
            have obf := ob.thaw
            have obz := ob.lt
            have ogc := og.cell
            have ogf := og.thaw
            have ogz := og.lt
            have opc := op.cell
            have opf := op.thaw
            have opz := op.lt
            have oqc := oq.cell
            have oqf := oq.thaw
            have oqz := oq.lt
            have orc := or.cell
            have orf := or.thaw
            have orz := or.lt
            go_wp2
            go_ret
            exact ⟨rfl, hw⟩

theorem law7_Sides_walk (A : Option Addr) (n cap : Nat) (l : List Int) (s0 s1 s2 : Int) (w : World) (hl : SliceI w A n l) (hcap : n ≤ cap) (hcap2 : cap ≤ 9223372036854775807)
    (hs0 : 0 ≤ s0 ∧ s0 ≤ 255) (hs1 : 0 ≤ s1 ∧ s1 ≤ 255) (hs2 : 0 ≤ s2 ∧ s2 ≤ 255) :
    Calls Try.prog 9 #[.slice A n cap, .agg #[.int .u8 s0, .int .u8 s1, .int .u8 s2]] w fun r w' => r = .returned (.bool true) ∧ Below w.heap.size w w' := by
  have hb : ∀ k, Bd 24 (ptAt (l.take 16) k) := fun k => by
    have h := ptAt_bd (l.take 16) k
    exact ⟨by omega, by omega, by omega, by omega, by omega, by omega⟩
  by_cases hx : vCross (vSub (ptAt (l.take 16) 1) (ptAt (l.take 16) 0)) (vSub (ptAt (l.take 16) 2) (ptAt (l.take 16) 0)) = ⟨0, 0, 0⟩
  · exact law7_Sides_flat A n cap l s0 s1 s2 w hl hcap hcap2 (ptAt (l.take 16)) (fun _ => rfl) hx (flatLaw hx)
  · have hne : ¬ ((vCross (vSub (ptAt (l.take 16) 1) (ptAt (l.take 16) 0)) (vSub (ptAt (l.take 16) 2) (ptAt (l.take 16) 0))).x = 0 ∧ (vCross (vSub (ptAt (l.take 16) 1) (ptAt (l.take 16) 0)) (vSub (ptAt (l.take 16) 2) (ptAt (l.take 16) 0))).y = 0 ∧ (vCross (vSub (ptAt (l.take 16) 1) (ptAt (l.take 16) 0)) (vSub (ptAt (l.take 16) 2) (ptAt (l.take 16) 0))).z = 0) :=
      fun h => hx (V3.ext h.1 h.2.1 h.2.2)
    obtain ⟨N, b, S⟩ := sidesLaw (hb 0) (hb 1) (hb 2) hne
    exact law7_Sides_some A n cap l s0 s1 s2 w hl hcap hcap2 hs0 hs1 hs2 (ptAt (l.take 16)) (fun _ => rfl) N b S hne
end Go.Proofs.Ythijnggeoinlfaa
