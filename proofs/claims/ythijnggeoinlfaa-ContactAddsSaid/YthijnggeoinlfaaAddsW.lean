/- The law ContactAdds returns true. The numbers are int64 or uint8, and the slice reads as int64 numbers. -/
import Derived.Test.YthijnggeoinlfaaSan25
import Derived.Test.YthijnggeoinlfaaCtN
import Derived.Test.YthijnggeoinlfaaAddsM
import Derived.Test.YthijnggeoinlfaaSink
namespace Go.Proofs.Ythijnggeoinlfaa
open Go.RowKit

theorem wr_small {n : Int} (h1 : -1000000 ≤ n) (h2 : n ≤ 1000000) : wrap64 n = n := wr_id ⟨by omega, by omega⟩
theorem adds_law {c : Ct} (h : CtOk c) (f0 f1 f2 g0 g1 g2 : Int) {x u0 u1 : Int} (_hx : 0 ≤ x ∧ x ≤ 255) (_hu0 : 0 ≤ u0 ∧ u0 ≤ 255) (_hu1 : 0 ≤ u1 ∧ u1 ≤ 255) :
    ∃ (s0 s1 s2 t0 t1 t2 p0 p1 p2 q0 q1 q2 : Int) (a b d : Bool) (k : Int), (vSmall ⟨f0, f1, f2⟩).v = vV s0 s1 s2 ∧ (vSmall ⟨g0, g1, g2⟩).v = vV t0 t1 t2 ∧
      Value.bool (cHas c ⟨s0, s1, s2⟩) = .bool a ∧ Value.bool (cHas c ⟨t0, t1, t2⟩) = .bool b ∧ (vAdd ⟨s0, s1, s2⟩ ⟨t0, t1, t2⟩).v = vV p0 p1 p2 ∧ (vSum ⟨0, 0, 0⟩ (1 + x % 50) ⟨s0, s1, s2⟩).v = vV q0 q1 q2 ∧
      cHas c ⟨p0, p1, p2⟩ = cHas c ⟨p0, p1, p2⟩ ∧ Value.bool (cHas c ⟨q0, q1, q2⟩) = .bool a ∧ (a = true → b = true → cHas c ⟨p0, p1, p2⟩ = true) ∧
      Value.int IntKind.i64 (cCheck ⟨c.at_, c.n, u1 % (1 + u0 % 10 + 1), 1 + u0 % 10⟩) = .int .i64 0 ∧ Value.bool (cHas ⟨c.at_, c.n, u1 % (1 + u0 % 10 + 1), 1 + u0 % 10⟩ ⟨s0, s1, s2⟩) = .bool d ∧
      wrap64 (u1 % (1 + u0 % 10 + 1) * c.md) = u1 % (1 + u0 % 10 + 1) * c.md ∧ wrap64 (c.mn * (1 + u0 % 10)) = c.mn * (1 + u0 % 10) ∧ k = 0 ∧
      ((c.mn * (1 + u0 % 10) ≤ u1 % (1 + u0 % 10 + 1) * c.md → a = true → d = true) ∧ (u1 % (1 + u0 % 10 + 1) * c.md ≤ c.mn * (1 + u0 % 10) → d = true → a = true)) := by
  have hs := small_Bd ⟨f0, f1, f2⟩
  have ht := small_Bd ⟨g0, g1, g2⟩
  have hd : CtOk ⟨c.at_, c.n, u1 % (1 + u0 % 10 + 1), 1 + u0 % 10⟩ := by
    have h1 := Int.emod_nonneg u1 (show 1 + u0 % 10 + 1 ≠ 0 by omega)
    have h2 := Int.emod_lt_of_pos u1 (show 0 < 1 + u0 % 10 + 1 by omega)
    exact ⟨h.at_, h.u, h1, by simp only []; omega, by simp only []; omega, by simp only []; omega⟩
  have b1 := prodBd (m := 10) (n := 10) (show -10 ≤ u1 % (1 + u0 % 10 + 1) by have h1 := hd.n1; simp only [] at h1; omega) (show u1 % (1 + u0 % 10 + 1) ≤ 10 by have h1 := hd.n2; have h2 := hd.d2; simp only [] at h1 h2; omega) (show -10 ≤ c.md by have := h.d1; omega) h.d2
  have b2 := prodBd (m := 10) (n := 10) (show -10 ≤ c.mn by have := h.n1; omega) (show c.mn ≤ 10 by have := h.n2; have := h.d2; omega) (show -10 ≤ 1 + u0 % 10 by omega) (show 1 + u0 % 10 ≤ 10 by omega)
  exact ⟨_, _, _, _, _, _, _, _, _, _, _, _, _, _, _, 0, rfl, rfl, rfl, rfl, rfl, rfl, rfl, congrArg Value.bool (has_times h hs (by omega) (by omega)), fun h1 h2 => has_add h hs ht h1 h2,
    congrArg (Value.int IntKind.i64) hd.check, rfl, wr_id ⟨by omega, by omega⟩, wr_id ⟨by omega, by omega⟩, rfl,
    fun h1 h2 => has_more h hd rfl hs h1 h2, fun h1 h2 => has_more hd h rfl hs h1 h2⟩

set_option maxRecDepth 100000 in
set_option maxHeartbeats 4000000 in
theorem law25_Adds_walk (A : Option Addr) (n cap : Nat) (l : List Int) (f0 f1 f2 g0 g1 g2 x u0 u1 : Int) (w : World) (hx : 0 ≤ x ∧ x ≤ 255) (hu0 : 0 ≤ u0 ∧ u0 ≤ 255) (hu1 : 0 ≤ u1 ∧ u1 ≤ 255) (hl : SliceI w A n l) (hcap : n ≤ cap) (hcap2 : cap ≤ 9223372036854775807) :
    Calls Try.prog 14 #[.slice A n cap, vV f0 f1 f2, vV g0 g1 g2, .int .u8 x, .agg #[.int .u8 u0, .int .u8 u1]] w fun r w' => r = .returned (.bool true) ∧ Below w.heap.size w w' := by
  have HL := Lib.hid hl
  clear hl
  have hn0 : 0 ≤ (n : Int) := by omega
  have hn1 : (n : Int) ≤ (cap : Int) := by omega
  have hn2 : (cap : Int) ≤ 9223372036854775807 := by omega
  have hxa := hx.1
  have hxb := hx.2
  have hua := hu0.1
  have hub := hu0.2
  have hva := hu1.1
  have hvb := hu1.2
  go_enter Try.func14, Try.ntmps14
  go_wp2_with fail
  refine Calls.mono (law25_sanity _) ?_
  rintro e w1 ⟨rfl, hbx⟩
  have of : Own w1 (w.heap.size) #[.int .i64 f0, .int .i64 f1, .int .i64 f2] := Own.below (by repeat' (first | ((refine Own.new ?_); (focus (first | rfl | omega | (simp; done) | (simp; omega)))) | assumption | refine Own.alloc ?_ _ | refine Own.drew ?_ | (refine Own.far ?_ ?_ _; rotate_left; (focus (first | rfl | omega | (simp; done) | (simp; omega)))))) hbx
  have ofc := of.cell
  have off := of.thaw
  have ofz := of.lt
  have og : Own w1 (w.heap.size + 1) #[.int .i64 g0, .int .i64 g1, .int .i64 g2] := Own.below (by repeat' (first | ((refine Own.new ?_); (focus (first | rfl | omega | (simp; done) | (simp; omega)))) | assumption | refine Own.alloc ?_ _ | refine Own.drew ?_ | (refine Own.far ?_ ?_ _; rotate_left; (focus (first | rfl | omega | (simp; done) | (simp; omega)))))) hbx
  have ogc := og.cell
  have ogf := og.thaw
  have ogz := og.lt
  have om : Own w1 (w.heap.size + 1 + 1) #[.int .u8 u0, .int .u8 u1] := Own.below (by repeat' (first | ((refine Own.new ?_); (focus (first | rfl | omega | (simp; done) | (simp; omega)))) | assumption | refine Own.alloc ?_ _ | refine Own.drew ?_ | (refine Own.far ?_ ?_ _; rotate_left; (focus (first | rfl | omega | (simp; done) | (simp; omega)))))) hbx
  have omc := om.cell
  have omf := om.thaw
  have omz := om.lt
  have hw : Below w.heap.size w w1 := Below.hop (by repeat' (first | exact Below.refl _ _ | assumption | (refine Below.alloc ?_ ?_ _; rotate_left; (focus (first | rfl | omega | (simp; done) | (simp; omega)))) | (refine Below.setCell ?_ ?_ _; rotate_left; (focus (first | rfl | omega | (simp; done) | (simp; omega)))) | refine Below.drew ?_)) hbx
  have hz := hw.size
  clear hbx
  go_wp2_with fail
  refine Calls.mono (law25_made A n cap _ _ (HL.out.below hw) (by omega) (by omega)) ?_
  rintro e w2 ⟨⟨⟨c0, c1, c2⟩, ⟨cn0, cn1, cn2⟩, cm, cd⟩, rfl, hok, hbx⟩
  have Hhok := Lib.hid hok
  clear hok
  replace of : Own w2 (w.heap.size) #[.int .i64 f0, .int .i64 f1, .int .i64 f2] := Own.below (by repeat' (first | ((refine Own.new ?_); (focus (first | rfl | omega | (simp; done) | (simp; omega)))) | assumption | refine Own.alloc ?_ _ | refine Own.drew ?_ | (refine Own.far ?_ ?_ _; rotate_left; (focus (first | rfl | omega | (simp; done) | (simp; omega)))))) hbx
  replace ofc := of.cell
  replace off := of.thaw
  replace ofz := of.lt
  replace og : Own w2 (w.heap.size + 1) #[.int .i64 g0, .int .i64 g1, .int .i64 g2] := Own.below (by repeat' (first | ((refine Own.new ?_); (focus (first | rfl | omega | (simp; done) | (simp; omega)))) | assumption | refine Own.alloc ?_ _ | refine Own.drew ?_ | (refine Own.far ?_ ?_ _; rotate_left; (focus (first | rfl | omega | (simp; done) | (simp; omega)))))) hbx
  replace ogc := og.cell
  replace ogf := og.thaw
  replace ogz := og.lt
  replace om : Own w2 (w.heap.size + 1 + 1) #[.int .u8 u0, .int .u8 u1] := Own.below (by repeat' (first | ((refine Own.new ?_); (focus (first | rfl | omega | (simp; done) | (simp; omega)))) | assumption | refine Own.alloc ?_ _ | refine Own.drew ?_ | (refine Own.far ?_ ?_ _; rotate_left; (focus (first | rfl | omega | (simp; done) | (simp; omega)))))) hbx
  replace omc := om.cell
  replace omf := om.thaw
  replace omz := om.lt
  replace hw : Below w.heap.size w w2 := Below.hop (by repeat' (first | exact Below.refl _ _ | assumption | (refine Below.alloc ?_ ?_ _; rotate_left; (focus (first | rfl | omega | (simp; done) | (simp; omega)))) | (refine Below.setCell ?_ ?_ _; rotate_left; (focus (first | rfl | omega | (simp; done) | (simp; omega)))) | refine Below.drew ?_)) hbx
  replace hz := hw.size
  clear hbx
  obtain ⟨s0, s1, s2, t0, t1, t2, p0, p1, p2, q0, q1, q2, a, b, d, k, e1, e2, e3, e4, e5, e6, e7, e8, hab, e9, e10, e11, e12, e13, hm1⟩ := adds_law Hhok.out f0 f1 f2 g0 g1 g2 hx hu0 hu1
  have H1 := Lib.hid e1
  have H2 := Lib.hid e2
  have H3 := Lib.hid e3
  have H4 := Lib.hid e4
  have H5 := Lib.hid e5
  have H6 := Lib.hid e6
  have H7 := Lib.hid e7
  have H8 := Lib.hid e8
  have H9 := Lib.hid e9
  have H10 := Lib.hid e10
  have H11 := Lib.hid e11
  have H12 := Lib.hid e12
  have H13 := Lib.hid e13
  have HAB := Lib.hid hab
  have HM1 := Lib.hid hm1
  clear hab hm1 e1 e2 e3 e4 e5 e6 e7 e8 e9 e10 e11 e12 e13
  go_wp2_with fail
  have hcb : w.heap.size + 1 + 1 < w2.heap.size := omz
  have oc : Own ((w2.alloc (.cells #[.int .i64 c0, .int .i64 c1, .int .i64 c2, .int .i64 cn0, .int .i64 cn1, .int .i64 cn2, .int .i64 cm, .int .i64 cd] 66))) (w2.heap.size) #[.int .i64 c0, .int .i64 c1, .int .i64 c2, .int .i64 cn0, .int .i64 cn1, .int .i64 cn2, .int .i64 cm, .int .i64 cd] := Own.new rfl
  replace of : Own ((w2.alloc (.cells #[.int .i64 c0, .int .i64 c1, .int .i64 c2, .int .i64 cn0, .int .i64 cn1, .int .i64 cn2, .int .i64 cm, .int .i64 cd] 66))) (w.heap.size) #[.int .i64 f0, .int .i64 f1, .int .i64 f2] := (by repeat' (first | ((refine Own.new ?_); (focus (first | rfl | omega | (simp; done) | (simp; omega)))) | assumption | refine Own.alloc ?_ _ | refine Own.drew ?_ | (refine Own.far ?_ ?_ _; rotate_left; (focus (first | rfl | omega | (simp; done) | (simp; omega))))))
  clear ofc off ofz
  replace og : Own ((w2.alloc (.cells #[.int .i64 c0, .int .i64 c1, .int .i64 c2, .int .i64 cn0, .int .i64 cn1, .int .i64 cn2, .int .i64 cm, .int .i64 cd] 66))) (w.heap.size + 1) #[.int .i64 g0, .int .i64 g1, .int .i64 g2] := (by repeat' (first | ((refine Own.new ?_); (focus (first | rfl | omega | (simp; done) | (simp; omega)))) | assumption | refine Own.alloc ?_ _ | refine Own.drew ?_ | (refine Own.far ?_ ?_ _; rotate_left; (focus (first | rfl | omega | (simp; done) | (simp; omega))))))
  clear ogc ogf ogz
  replace om : Own ((w2.alloc (.cells #[.int .i64 c0, .int .i64 c1, .int .i64 c2, .int .i64 cn0, .int .i64 cn1, .int .i64 cn2, .int .i64 cm, .int .i64 cd] 66))) (w.heap.size + 1 + 1) #[.int .u8 u0, .int .u8 u1] := (by repeat' (first | ((refine Own.new ?_); (focus (first | rfl | omega | (simp; done) | (simp; omega)))) | assumption | refine Own.alloc ?_ _ | refine Own.drew ?_ | (refine Own.far ?_ ?_ _; rotate_left; (focus (first | rfl | omega | (simp; done) | (simp; omega))))))
  clear omc omf omz
  replace hw : Below w.heap.size w ((w2.alloc (.cells #[.int .i64 c0, .int .i64 c1, .int .i64 c2, .int .i64 cn0, .int .i64 cn1, .int .i64 cn2, .int .i64 cm, .int .i64 cd] 66))) := (by repeat' (first | exact Below.refl _ _ | assumption | (refine Below.alloc ?_ ?_ _; rotate_left; (focus (first | rfl | omega | (simp; done) | (simp; omega)))) | (refine Below.setCell ?_ ?_ _; rotate_left; (focus (first | rfl | omega | (simp; done) | (simp; omega)))) | refine Below.drew ?_))
  generalize (w2.alloc (.cells #[.int .i64 c0, .int .i64 c1, .int .i64 c2, .int .i64 cn0, .int .i64 cn1, .int .i64 cn2, .int .i64 cm, .int .i64 cd] 66)) = w3 at *
  have ofc := of.cell
  have off := of.thaw
  have ofz := of.lt
  have ogc := og.cell
  have ogf := og.thaw
  have ogz := og.lt
  have omc := om.cell
  have omf := om.thaw
  have omz := om.lt
  have occ := oc.cell
  have ocf := oc.thaw
  have ocz := oc.lt
  replace hz := hw.size
  generalize w2.heap.size = cb at *
  go_wp2
  refine region_sink 4 [] (by kernel_rfl) (by kernel_rfl) (by rfl) ?_
  apply Exists.intro
  refine ⟨fun v hv hne => ?_, fun u3 hu => ?_⟩
  · simp only [List.take_succ_cons, List.take_zero]
    have dof := fun x => (of.later (v := v) (T := []) (by first | (simp; done) | (simp; omega)) x).cell
    have dog := fun x => (og.later (v := v) (T := []) (by first | (simp; done) | (simp; omega)) x).cell
    have dom := fun x => (om.later (v := v) (T := []) (by first | (simp; done) | (simp; omega)) x).cell
    have doc := fun x => (oc.later (v := v) (T := []) (by first | (simp; done) | (simp; omega)) x).cell
    repeat (go_big_quiet_step ((first | (go_at_call 57; with_reducible exact lateB (callv (law25_small f0 f1 f2 _) H1.out)) | (go_at_call 57; with_reducible exact lateB (callv (law25_small g0 g1 g2 _) H2.out)))))
    refine wpQuiet_nil ?_
    exact rfl
  · simp only [List.drop_succ_cons, List.drop_zero]
    replace of := of.below hu
    clear ofc off ofz
    replace og := og.below hu
    clear ogc ogf ogz
    replace om := om.below hu
    clear omc omf omz
    replace oc := oc.below hu
    clear occ ocf ocz
    replace hw := Below.hop hw hu
    replace hz := hw.size
    clear hu
    have ofc := of.cell
    have off := of.thaw
    have ofz := of.lt
    have ogc := og.cell
    have ogf := og.thaw
    have ogz := og.lt
    have omc := om.cell
    have omf := om.thaw
    have omz := om.lt
    have occ := oc.cell
    have ocf := oc.thaw
    have ocz := oc.lt
    refine sink_all (by kernel_rfl) (fun K hK => ?_)
    go_simp
    refine hK _ _ ?_
    clear hK K
    (try simp only [Act.put])
    have tof : Own (((((((u3).setCell ⟨w.heap.size, 0, none⟩ (.int .i64 s0))).setCell ⟨w.heap.size, 1, none⟩ (.int .i64 s1))).setCell ⟨w.heap.size, 2, none⟩ (.int .i64 s2))) (w.heap.size) #[.int .i64 s0, .int .i64 s1, .int .i64 s2] := (((of.set 0 _).set 1 _).set 2 _)
    clear ofc off ofz of
    replace og : Own (((((((u3).setCell ⟨w.heap.size, 0, none⟩ (.int .i64 s0))).setCell ⟨w.heap.size, 1, none⟩ (.int .i64 s1))).setCell ⟨w.heap.size, 2, none⟩ (.int .i64 s2))) (w.heap.size + 1) #[.int .i64 g0, .int .i64 g1, .int .i64 g2] := (((og.far (by first | (simp; done) | (simp; omega)) _).far (by first | (simp; done) | (simp; omega)) _).far (by first | (simp; done) | (simp; omega)) _)
    clear ogc ogf ogz
    replace om : Own (((((((u3).setCell ⟨w.heap.size, 0, none⟩ (.int .i64 s0))).setCell ⟨w.heap.size, 1, none⟩ (.int .i64 s1))).setCell ⟨w.heap.size, 2, none⟩ (.int .i64 s2))) (w.heap.size + 1 + 1) #[.int .u8 u0, .int .u8 u1] := (((om.far (by first | (simp; done) | (simp; omega)) _).far (by first | (simp; done) | (simp; omega)) _).far (by first | (simp; done) | (simp; omega)) _)
    clear omc omf omz
    replace oc : Own (((((((u3).setCell ⟨w.heap.size, 0, none⟩ (.int .i64 s0))).setCell ⟨w.heap.size, 1, none⟩ (.int .i64 s1))).setCell ⟨w.heap.size, 2, none⟩ (.int .i64 s2))) (cb) #[.int .i64 c0, .int .i64 c1, .int .i64 c2, .int .i64 cn0, .int .i64 cn1, .int .i64 cn2, .int .i64 cm, .int .i64 cd] := (((oc.far (by first | (simp; done) | (simp; omega)) _).far (by first | (simp; done) | (simp; omega)) _).far (by first | (simp; done) | (simp; omega)) _)
    clear occ ocf ocz
    replace hw : Below w.heap.size w (((((((u3).setCell ⟨w.heap.size, 0, none⟩ (.int .i64 s0))).setCell ⟨w.heap.size, 1, none⟩ (.int .i64 s1))).setCell ⟨w.heap.size, 2, none⟩ (.int .i64 s2))) := (((hw.setCell (by first | (simp; done) | (simp; omega)) _).setCell (by first | (simp; done) | (simp; omega)) _).setCell (by first | (simp; done) | (simp; omega)) _)
    have of := tof
    clear tof
    generalize ((((((u3).setCell ⟨w.heap.size, 0, none⟩ (.int .i64 s0))).setCell ⟨w.heap.size, 1, none⟩ (.int .i64 s1))).setCell ⟨w.heap.size, 2, none⟩ (.int .i64 s2)) = w4 at *
    have ogc := og.cell
    have ogf := og.thaw
    have ogz := og.lt
    have omc := om.cell
    have omf := om.thaw
    have omz := om.lt
    have occ := oc.cell
    have ocf := oc.thaw
    have ocz := oc.lt
    have ofc := of.cell
    have off := of.thaw
    have ofz := of.lt
    replace hz := hw.size
    refine sink_all (by kernel_rfl) (fun K hK => ?_)
    go_simp
    refine hK _ _ ?_
    clear hK K
    (try simp only [Act.put])
    have tog : Own (((((((w4).setCell ⟨w.heap.size + 1, 0, none⟩ (.int .i64 t0))).setCell ⟨w.heap.size + 1, 1, none⟩ (.int .i64 t1))).setCell ⟨w.heap.size + 1, 2, none⟩ (.int .i64 t2))) (w.heap.size + 1) #[.int .i64 t0, .int .i64 t1, .int .i64 t2] := (((og.set 0 _).set 1 _).set 2 _)
    clear ogc ogf ogz og
    replace om : Own (((((((w4).setCell ⟨w.heap.size + 1, 0, none⟩ (.int .i64 t0))).setCell ⟨w.heap.size + 1, 1, none⟩ (.int .i64 t1))).setCell ⟨w.heap.size + 1, 2, none⟩ (.int .i64 t2))) (w.heap.size + 1 + 1) #[.int .u8 u0, .int .u8 u1] := (((om.far (by first | (simp; done) | (simp; omega)) _).far (by first | (simp; done) | (simp; omega)) _).far (by first | (simp; done) | (simp; omega)) _)
    clear omc omf omz
    replace oc : Own (((((((w4).setCell ⟨w.heap.size + 1, 0, none⟩ (.int .i64 t0))).setCell ⟨w.heap.size + 1, 1, none⟩ (.int .i64 t1))).setCell ⟨w.heap.size + 1, 2, none⟩ (.int .i64 t2))) (cb) #[.int .i64 c0, .int .i64 c1, .int .i64 c2, .int .i64 cn0, .int .i64 cn1, .int .i64 cn2, .int .i64 cm, .int .i64 cd] := (((oc.far (by first | (simp; done) | (simp; omega)) _).far (by first | (simp; done) | (simp; omega)) _).far (by first | (simp; done) | (simp; omega)) _)
    clear occ ocf ocz
    replace of : Own (((((((w4).setCell ⟨w.heap.size + 1, 0, none⟩ (.int .i64 t0))).setCell ⟨w.heap.size + 1, 1, none⟩ (.int .i64 t1))).setCell ⟨w.heap.size + 1, 2, none⟩ (.int .i64 t2))) (w.heap.size) #[.int .i64 s0, .int .i64 s1, .int .i64 s2] := (((of.far (by first | (simp; done) | (simp; omega)) _).far (by first | (simp; done) | (simp; omega)) _).far (by first | (simp; done) | (simp; omega)) _)
    clear ofc off ofz
    replace hw : Below w.heap.size w (((((((w4).setCell ⟨w.heap.size + 1, 0, none⟩ (.int .i64 t0))).setCell ⟨w.heap.size + 1, 1, none⟩ (.int .i64 t1))).setCell ⟨w.heap.size + 1, 2, none⟩ (.int .i64 t2))) := (((hw.setCell (by first | (simp; done) | (simp; omega)) _).setCell (by first | (simp; done) | (simp; omega)) _).setCell (by first | (simp; done) | (simp; omega)) _)
    have og := tog
    clear tog
    generalize ((((((w4).setCell ⟨w.heap.size + 1, 0, none⟩ (.int .i64 t0))).setCell ⟨w.heap.size + 1, 1, none⟩ (.int .i64 t1))).setCell ⟨w.heap.size + 1, 2, none⟩ (.int .i64 t2)) = w5 at *
    have omc := om.cell
    have omf := om.thaw
    have omz := om.lt
    have occ := oc.cell
    have ocf := oc.thaw
    have ocz := oc.lt
    have ofc := of.cell
    have off := of.thaw
    have ofz := of.lt
    have ogc := og.cell
    have ogf := og.thaw
    have ogz := og.lt
    replace hz := hw.size
    refine sink_nil ?_
    (try simp only [Act.put, List.setIfInBounds_toArray, List.set_cons_zero, List.set_cons_succ])
    go_wp2
    refine region_late 6 [] (by kernel_rfl) (by kernel_rfl) (by rfl) ?_
    apply Exists.intro
    refine ⟨fun v hv hne => ?_, fun u6 hu => ?_⟩
    · simp only [List.take_succ_cons, List.take_zero]
      have dom := fun x => (om.later (v := v) (T := []) (by first | (simp; done) | (simp; omega)) x).cell
      have doc := fun x => (oc.later (v := v) (T := []) (by first | (simp; done) | (simp; omega)) x).cell
      have dof := fun x => (of.later (v := v) (T := []) (by first | (simp; done) | (simp; omega)) x).cell
      have dog := fun x => (og.later (v := v) (T := []) (by first | (simp; done) | (simp; omega)) x).cell
      repeat (go_big_quiet_step ((first | (go_at_call 59; with_reducible exact lateB (callv (contact_Has _ _ _ _ _ _ _ _ _ _ _ _) H3.out)) | (go_at_call 59; with_reducible exact lateB (callv (contact_Has _ _ _ _ _ _ _ _ _ _ _ _) H4.out)))))
      refine wpQuiet_nil ?_
      exact rfl
    · simp only [List.drop_succ_cons, List.drop_zero]
      replace om := om.below hu
      clear omc omf omz
      replace oc := oc.below hu
      clear occ ocf ocz
      replace of := of.below hu
      clear ofc off ofz
      replace og := og.below hu
      clear ogc ogf ogz
      have hkk := Keeps.of_below (T := []) hu
      replace hw := Below.hop hw hu
      clear hu
      refine late_mem (fun K hK => ?_)
      go_simp
      refine hK _ _ hkk (fun u6a hu2 => ?_)
      clear hK K
      replace hw := Below.hop hw hu2
      replace hkk := hkk.later hu2
      replace om := om.below hu2
      replace oc := oc.below hu2
      replace of := of.below hu2
      replace og := og.below hu2
      clear hu2
      refine late_mem (fun K hK => ?_)
      go_simp
      refine hK _ _ hkk (fun u6b hu2 => ?_)
      clear hK K
      replace hw := Below.hop hw hu2
      replace hkk := hkk.later hu2
      replace om := om.below hu2
      replace oc := oc.below hu2
      replace of := of.below hu2
      replace og := og.below hu2
      clear hu2
      replace hz := hw.size
      clear hkk
      refine late_nil ?_
      (try simp only [Act.put, List.setIfInBounds_toArray, List.set_cons_zero, List.set_cons_succ])
      have omc := om.cell
      have omf := om.thaw
      have omz := om.lt
      have occ := oc.cell
      have ocf := oc.thaw
      have ocz := oc.lt
      have ofc := of.cell
      have off := of.thaw
      have ofz := of.lt
      have ogc := og.cell
      have ogf := og.thaw
      have ogz := og.lt
      go_wp2
      cases a <;> cases b
      · skip
        refine region_late 22 [] (by kernel_rfl) (by kernel_rfl) (by rfl) ?_
        apply Exists.intro
        refine ⟨fun v hv hne => ?_, fun u7 hu => ?_⟩
        · simp only [List.take_succ_cons, List.take_zero]
          have dom := fun x => (om.later (v := v) (T := []) (by first | (simp; done) | (simp; omega)) x).cell
          have doc := fun x => (oc.later (v := v) (T := []) (by first | (simp; done) | (simp; omega)) x).cell
          have dof := fun x => (of.later (v := v) (T := []) (by first | (simp; done) | (simp; omega)) x).cell
          have dog := fun x => (og.later (v := v) (T := []) (by first | (simp; done) | (simp; omega)) x).cell
          repeat (go_big_quiet_step ((first | (go_at_call 64; with_reducible exact lateB (callv (law25_sum _ _ _ _ _ _ _ _) H6.out)) | (go_at_call 59; with_reducible exact lateB (callv (contact_Has _ _ _ _ _ _ _ _ _ _ _ _) H8.out)))))
          refine wpQuiet_nil ?_
          exact rfl
        · simp only [List.drop_succ_cons, List.drop_zero]
          replace om := om.below hu
          replace oc := oc.below hu
          replace of := of.below hu
          replace og := og.below hu
          replace hw := Below.hop hw hu
          replace hz := hw.size
          clear hu
          refine late_nil ?_
          (try simp only [Act.put, List.setIfInBounds_toArray, List.set_cons_zero, List.set_cons_succ])
          have omc := om.cell
          have omf := om.thaw
          have omz := om.lt
          have occ := oc.cell
          have ocf := oc.thaw
          have ocz := oc.lt
          have ofc := of.cell
          have off := of.thaw
          have ofz := of.lt
          have ogc := og.cell
          have ogf := og.thaw
          have ogz := og.lt
          go_wp2
          have hD1 : 1 ≤ 1 + u0 % 10 := by omega
          have hD2 : 1 + u0 % 10 ≤ 10 := by omega
          have hM1 := Int.emod_nonneg u1 (show 1 + u0 % 10 + 1 ≠ 0 by omega)
          have hM2 := Int.emod_lt_of_pos u1 (show 0 < 1 + u0 % 10 + 1 by omega)
          have hq3 : u1.tmod (1 + u0 % 10 + 1) = u1 % (1 + u0 % 10 + 1) := Int.tmod_eq_emod_of_nonneg hva
          clear hua hub hu0
          generalize 1 + u0 % 10 = D at *
          generalize u1 % (D + 1) = M at *
          have hq1 : IntKind.i64.wrap (D + 1) = D + 1 := IntWalk.i64_in _ (by omega)
          have hq2 : ¬ (D + 1 = 0) := by omega
          have hq4 : IntKind.i64.wrap M = M := IntWalk.i64_in _ (by omega)
          refine region_late 9 [] (by kernel_rfl) (by kernel_rfl) (by rfl) ?_
          apply Exists.intro
          refine ⟨fun v hv hne => ?_, fun u hu => ?_⟩
          · simp only [List.take_succ_cons, List.take_zero]
            have dom := fun x => (om.later (v := v) (T := []) (by first | (simp; done) | (simp; omega)) x).cell
            have doc := fun x => (oc.later (v := v) (T := []) (by first | (simp; done) | (simp; omega)) x).cell
            have dof := fun x => (of.later (v := v) (T := []) (by first | (simp; done) | (simp; omega)) x).cell
            have dog := fun x => (og.later (v := v) (T := []) (by first | (simp; done) | (simp; omega)) x).cell
            repeat (go_big_quiet_step ((first | (go_at_call 66; with_reducible exact lateB (law25_with _ _ _ _ _ _ _ _ _ _ _)))))
            refine wpQuiet_nil ?_
            exact rfl
          · simp only [List.drop_succ_cons, List.drop_zero]
            skip
            refine late_mem (fun K hK => ?_)
            go_simp
            refine hK _ _ ((Keeps.of_below hu).alloc _) (fun u82 hu2 => ?_)
            clear hK K
            have hk2 : Keeps [] u7 u82 := ((Keeps.of_below (T := []) hu).alloc _).later hu2
            have oo : Own u82 u.heap.size #[.int .i64 0, .int .i64 0, .int .i64 0, .int .i64 0, .int .i64 0, .int .i64 0, .int .i64 0, .int .i64 0] := Own.below (Own.new rfl) hu2
            have ooc := oo.cell
            have oof := oo.thaw
            have oog : u7.heap.size ≤ u.heap.size := hu.size
            replace hw := Below.hop ((Below.hop hw hu).alloc (by have := hw.size; have := hu.size; omega) _) hu2
            have hwz := hw.size
            have ooy : w.heap.size ≤ u.heap.size := by omega
            refine late_mem (fun K hK => ?_)
            go_simp
            refine hK _ _ ((((((((hk2.new oog _).new oog _).new oog _).new oog _).new oog _).new oog _).new oog _).new oog _) (fun u83 hu3 => ?_)
            clear hK K
            have hk3 : Keeps [] u7 u83 := ((((((((hk2.new oog _).new oog _).new oog _).new oog _).new oog _).new oog _).new oog _).new oog _).later hu3
            replace oo : Own u83 u.heap.size #[.int .i64 c0, .int .i64 c1, .int .i64 c2, .int .i64 cn0, .int .i64 cn1, .int .i64 cn2, .int .i64 M, .int .i64 D] := ((((((((oo.set 0 _).set 1 _).set 2 _).set 3 _).set 4 _).set 5 _).set 6 _).set 7 _).below hu3
            replace hw := Below.hop ((((((((hw.setCell ooy _).setCell ooy _).setCell ooy _).setCell ooy _).setCell ooy _).setCell ooy _).setCell ooy _).setCell ooy _) hu3
            clear ooc oof hk2
            replace om : Own u83 (w.heap.size + 1 + 1) #[.int .u8 u0, .int .u8 u1] := om.keeps hk3 (by simp)
            replace oc : Own u83 (cb) #[.int .i64 c0, .int .i64 c1, .int .i64 c2, .int .i64 cn0, .int .i64 cn1, .int .i64 cn2, .int .i64 cm, .int .i64 cd] := oc.keeps hk3 (by simp)
            replace of : Own u83 (w.heap.size) #[.int .i64 s0, .int .i64 s1, .int .i64 s2] := of.keeps hk3 (by simp)
            replace og : Own u83 (w.heap.size + 1) #[.int .i64 t0, .int .i64 t1, .int .i64 t2] := og.keeps hk3 (by simp)
            refine late_nil ?_
            (try simp only [Act.put, List.setIfInBounds_toArray, List.set_cons_zero, List.set_cons_succ])
            clear hk3 hu hu2 hu3 hwz
            generalize u.heap.size = oob at *
            replace hz := hw.size
            clear u
            replace omc := om.cell
            replace omf := om.thaw
            replace omz := om.lt
            replace occ := oc.cell
            replace ocf := oc.thaw
            replace ocz := oc.lt
            replace ofc := of.cell
            replace off := of.thaw
            replace ofz := of.lt
            replace ogc := og.cell
            replace ogf := og.thaw
            replace ogz := og.lt
            replace ooc := oo.cell
            replace oof := oo.thaw
            replace ooz := oo.lt
            clear hq1 hq2 hq3 hq4
            by_cases hmore : wrap64 (cm * D) ≤ wrap64 (M * cd)
            · skip
              cases d
              · skip
                go_wp2_with fail
                refine Calls.mono (callv (contact_Check _ _ _ _ _ _ _ _ _) H9.out) ?_
                rintro e u9 ⟨rfl, hbx⟩
                replace om : Own u9 (w.heap.size + 1 + 1) #[.int .u8 u0, .int .u8 u1] := Own.below (by repeat' (first | ((refine Own.new ?_); (focus (first | rfl | omega | (simp; done) | (simp; omega)))) | assumption | refine Own.alloc ?_ _ | refine Own.drew ?_ | (refine Own.far ?_ ?_ _; rotate_left; (focus (first | rfl | omega | (simp; done) | (simp; omega)))))) hbx
                replace omc := om.cell
                replace omf := om.thaw
                replace omz := om.lt
                replace oc : Own u9 (cb) #[.int .i64 c0, .int .i64 c1, .int .i64 c2, .int .i64 cn0, .int .i64 cn1, .int .i64 cn2, .int .i64 cm, .int .i64 cd] := Own.below (by repeat' (first | ((refine Own.new ?_); (focus (first | rfl | omega | (simp; done) | (simp; omega)))) | assumption | refine Own.alloc ?_ _ | refine Own.drew ?_ | (refine Own.far ?_ ?_ _; rotate_left; (focus (first | rfl | omega | (simp; done) | (simp; omega)))))) hbx
                replace occ := oc.cell
                replace ocf := oc.thaw
                replace ocz := oc.lt
                replace of : Own u9 (w.heap.size) #[.int .i64 s0, .int .i64 s1, .int .i64 s2] := Own.below (by repeat' (first | ((refine Own.new ?_); (focus (first | rfl | omega | (simp; done) | (simp; omega)))) | assumption | refine Own.alloc ?_ _ | refine Own.drew ?_ | (refine Own.far ?_ ?_ _; rotate_left; (focus (first | rfl | omega | (simp; done) | (simp; omega)))))) hbx
                replace ofc := of.cell
                replace off := of.thaw
                replace ofz := of.lt
                replace og : Own u9 (w.heap.size + 1) #[.int .i64 t0, .int .i64 t1, .int .i64 t2] := Own.below (by repeat' (first | ((refine Own.new ?_); (focus (first | rfl | omega | (simp; done) | (simp; omega)))) | assumption | refine Own.alloc ?_ _ | refine Own.drew ?_ | (refine Own.far ?_ ?_ _; rotate_left; (focus (first | rfl | omega | (simp; done) | (simp; omega)))))) hbx
                replace ogc := og.cell
                replace ogf := og.thaw
                replace ogz := og.lt
                replace oo : Own u9 (oob) #[.int .i64 c0, .int .i64 c1, .int .i64 c2, .int .i64 cn0, .int .i64 cn1, .int .i64 cn2, .int .i64 M, .int .i64 D] := Own.below (by repeat' (first | ((refine Own.new ?_); (focus (first | rfl | omega | (simp; done) | (simp; omega)))) | assumption | refine Own.alloc ?_ _ | refine Own.drew ?_ | (refine Own.far ?_ ?_ _; rotate_left; (focus (first | rfl | omega | (simp; done) | (simp; omega)))))) hbx
                replace ooc := oo.cell
                replace oof := oo.thaw
                replace ooz := oo.lt
                replace hw : Below w.heap.size w u9 := Below.hop (by repeat' (first | exact Below.refl _ _ | assumption | (refine Below.alloc ?_ ?_ _; rotate_left; (focus (first | rfl | omega | (simp; done) | (simp; omega)))) | (refine Below.setCell ?_ ?_ _; rotate_left; (focus (first | rfl | omega | (simp; done) | (simp; omega)))) | refine Below.drew ?_)) hbx
                replace hz := hw.size
                clear hbx
                go_wp2
                go_ret
                exact ⟨rfl, hw⟩
              · skip
                go_wp2_with fail
                refine Calls.mono (callv (contact_Check _ _ _ _ _ _ _ _ _) H9.out) ?_
                rintro e u9 ⟨rfl, hbx⟩
                replace om : Own u9 (w.heap.size + 1 + 1) #[.int .u8 u0, .int .u8 u1] := Own.below (by repeat' (first | ((refine Own.new ?_); (focus (first | rfl | omega | (simp; done) | (simp; omega)))) | assumption | refine Own.alloc ?_ _ | refine Own.drew ?_ | (refine Own.far ?_ ?_ _; rotate_left; (focus (first | rfl | omega | (simp; done) | (simp; omega)))))) hbx
                replace omc := om.cell
                replace omf := om.thaw
                replace omz := om.lt
                replace oc : Own u9 (cb) #[.int .i64 c0, .int .i64 c1, .int .i64 c2, .int .i64 cn0, .int .i64 cn1, .int .i64 cn2, .int .i64 cm, .int .i64 cd] := Own.below (by repeat' (first | ((refine Own.new ?_); (focus (first | rfl | omega | (simp; done) | (simp; omega)))) | assumption | refine Own.alloc ?_ _ | refine Own.drew ?_ | (refine Own.far ?_ ?_ _; rotate_left; (focus (first | rfl | omega | (simp; done) | (simp; omega)))))) hbx
                replace occ := oc.cell
                replace ocf := oc.thaw
                replace ocz := oc.lt
                replace of : Own u9 (w.heap.size) #[.int .i64 s0, .int .i64 s1, .int .i64 s2] := Own.below (by repeat' (first | ((refine Own.new ?_); (focus (first | rfl | omega | (simp; done) | (simp; omega)))) | assumption | refine Own.alloc ?_ _ | refine Own.drew ?_ | (refine Own.far ?_ ?_ _; rotate_left; (focus (first | rfl | omega | (simp; done) | (simp; omega)))))) hbx
                replace ofc := of.cell
                replace off := of.thaw
                replace ofz := of.lt
                replace og : Own u9 (w.heap.size + 1) #[.int .i64 t0, .int .i64 t1, .int .i64 t2] := Own.below (by repeat' (first | ((refine Own.new ?_); (focus (first | rfl | omega | (simp; done) | (simp; omega)))) | assumption | refine Own.alloc ?_ _ | refine Own.drew ?_ | (refine Own.far ?_ ?_ _; rotate_left; (focus (first | rfl | omega | (simp; done) | (simp; omega)))))) hbx
                replace ogc := og.cell
                replace ogf := og.thaw
                replace ogz := og.lt
                replace oo : Own u9 (oob) #[.int .i64 c0, .int .i64 c1, .int .i64 c2, .int .i64 cn0, .int .i64 cn1, .int .i64 cn2, .int .i64 M, .int .i64 D] := Own.below (by repeat' (first | ((refine Own.new ?_); (focus (first | rfl | omega | (simp; done) | (simp; omega)))) | assumption | refine Own.alloc ?_ _ | refine Own.drew ?_ | (refine Own.far ?_ ?_ _; rotate_left; (focus (first | rfl | omega | (simp; done) | (simp; omega)))))) hbx
                replace ooc := oo.cell
                replace oof := oo.thaw
                replace ooz := oo.lt
                replace hw : Below w.heap.size w u9 := Below.hop (by repeat' (first | exact Below.refl _ _ | assumption | (refine Below.alloc ?_ ?_ _; rotate_left; (focus (first | rfl | omega | (simp; done) | (simp; omega)))) | (refine Below.setCell ?_ ?_ _; rotate_left; (focus (first | rfl | omega | (simp; done) | (simp; omega)))) | refine Below.drew ?_)) hbx
                replace hz := hw.size
                clear hbx
                go_wp2
                go_ret
                exact ⟨rfl, hw⟩
            · skip
              cases d
              · skip
                go_wp2_with fail
                refine Calls.mono (callv (contact_Check _ _ _ _ _ _ _ _ _) H9.out) ?_
                rintro e u9 ⟨rfl, hbx⟩
                replace om : Own u9 (w.heap.size + 1 + 1) #[.int .u8 u0, .int .u8 u1] := Own.below (by repeat' (first | ((refine Own.new ?_); (focus (first | rfl | omega | (simp; done) | (simp; omega)))) | assumption | refine Own.alloc ?_ _ | refine Own.drew ?_ | (refine Own.far ?_ ?_ _; rotate_left; (focus (first | rfl | omega | (simp; done) | (simp; omega)))))) hbx
                replace omc := om.cell
                replace omf := om.thaw
                replace omz := om.lt
                replace oc : Own u9 (cb) #[.int .i64 c0, .int .i64 c1, .int .i64 c2, .int .i64 cn0, .int .i64 cn1, .int .i64 cn2, .int .i64 cm, .int .i64 cd] := Own.below (by repeat' (first | ((refine Own.new ?_); (focus (first | rfl | omega | (simp; done) | (simp; omega)))) | assumption | refine Own.alloc ?_ _ | refine Own.drew ?_ | (refine Own.far ?_ ?_ _; rotate_left; (focus (first | rfl | omega | (simp; done) | (simp; omega)))))) hbx
                replace occ := oc.cell
                replace ocf := oc.thaw
                replace ocz := oc.lt
                replace of : Own u9 (w.heap.size) #[.int .i64 s0, .int .i64 s1, .int .i64 s2] := Own.below (by repeat' (first | ((refine Own.new ?_); (focus (first | rfl | omega | (simp; done) | (simp; omega)))) | assumption | refine Own.alloc ?_ _ | refine Own.drew ?_ | (refine Own.far ?_ ?_ _; rotate_left; (focus (first | rfl | omega | (simp; done) | (simp; omega)))))) hbx
                replace ofc := of.cell
                replace off := of.thaw
                replace ofz := of.lt
                replace og : Own u9 (w.heap.size + 1) #[.int .i64 t0, .int .i64 t1, .int .i64 t2] := Own.below (by repeat' (first | ((refine Own.new ?_); (focus (first | rfl | omega | (simp; done) | (simp; omega)))) | assumption | refine Own.alloc ?_ _ | refine Own.drew ?_ | (refine Own.far ?_ ?_ _; rotate_left; (focus (first | rfl | omega | (simp; done) | (simp; omega)))))) hbx
                replace ogc := og.cell
                replace ogf := og.thaw
                replace ogz := og.lt
                replace oo : Own u9 (oob) #[.int .i64 c0, .int .i64 c1, .int .i64 c2, .int .i64 cn0, .int .i64 cn1, .int .i64 cn2, .int .i64 M, .int .i64 D] := Own.below (by repeat' (first | ((refine Own.new ?_); (focus (first | rfl | omega | (simp; done) | (simp; omega)))) | assumption | refine Own.alloc ?_ _ | refine Own.drew ?_ | (refine Own.far ?_ ?_ _; rotate_left; (focus (first | rfl | omega | (simp; done) | (simp; omega)))))) hbx
                replace ooc := oo.cell
                replace oof := oo.thaw
                replace ooz := oo.lt
                replace hw : Below w.heap.size w u9 := Below.hop (by repeat' (first | exact Below.refl _ _ | assumption | (refine Below.alloc ?_ ?_ _; rotate_left; (focus (first | rfl | omega | (simp; done) | (simp; omega)))) | (refine Below.setCell ?_ ?_ _; rotate_left; (focus (first | rfl | omega | (simp; done) | (simp; omega)))) | refine Below.drew ?_)) hbx
                replace hz := hw.size
                clear hbx
                go_wp2_with fail
                refine Calls.mono (callv (contact_Has _ _ _ _ _ _ _ _ _ _ _ _) H10.out) ?_
                rintro e u10 ⟨rfl, hbx⟩
                replace om : Own u10 (w.heap.size + 1 + 1) #[.int .u8 u0, .int .u8 u1] := Own.below (by repeat' (first | ((refine Own.new ?_); (focus (first | rfl | omega | (simp; done) | (simp; omega)))) | assumption | refine Own.alloc ?_ _ | refine Own.drew ?_ | (refine Own.far ?_ ?_ _; rotate_left; (focus (first | rfl | omega | (simp; done) | (simp; omega)))))) hbx
                replace omc := om.cell
                replace omf := om.thaw
                replace omz := om.lt
                replace oc : Own u10 (cb) #[.int .i64 c0, .int .i64 c1, .int .i64 c2, .int .i64 cn0, .int .i64 cn1, .int .i64 cn2, .int .i64 cm, .int .i64 cd] := Own.below (by repeat' (first | ((refine Own.new ?_); (focus (first | rfl | omega | (simp; done) | (simp; omega)))) | assumption | refine Own.alloc ?_ _ | refine Own.drew ?_ | (refine Own.far ?_ ?_ _; rotate_left; (focus (first | rfl | omega | (simp; done) | (simp; omega)))))) hbx
                replace occ := oc.cell
                replace ocf := oc.thaw
                replace ocz := oc.lt
                replace of : Own u10 (w.heap.size) #[.int .i64 s0, .int .i64 s1, .int .i64 s2] := Own.below (by repeat' (first | ((refine Own.new ?_); (focus (first | rfl | omega | (simp; done) | (simp; omega)))) | assumption | refine Own.alloc ?_ _ | refine Own.drew ?_ | (refine Own.far ?_ ?_ _; rotate_left; (focus (first | rfl | omega | (simp; done) | (simp; omega)))))) hbx
                replace ofc := of.cell
                replace off := of.thaw
                replace ofz := of.lt
                replace og : Own u10 (w.heap.size + 1) #[.int .i64 t0, .int .i64 t1, .int .i64 t2] := Own.below (by repeat' (first | ((refine Own.new ?_); (focus (first | rfl | omega | (simp; done) | (simp; omega)))) | assumption | refine Own.alloc ?_ _ | refine Own.drew ?_ | (refine Own.far ?_ ?_ _; rotate_left; (focus (first | rfl | omega | (simp; done) | (simp; omega)))))) hbx
                replace ogc := og.cell
                replace ogf := og.thaw
                replace ogz := og.lt
                replace oo : Own u10 (oob) #[.int .i64 c0, .int .i64 c1, .int .i64 c2, .int .i64 cn0, .int .i64 cn1, .int .i64 cn2, .int .i64 M, .int .i64 D] := Own.below (by repeat' (first | ((refine Own.new ?_); (focus (first | rfl | omega | (simp; done) | (simp; omega)))) | assumption | refine Own.alloc ?_ _ | refine Own.drew ?_ | (refine Own.far ?_ ?_ _; rotate_left; (focus (first | rfl | omega | (simp; done) | (simp; omega)))))) hbx
                replace ooc := oo.cell
                replace oof := oo.thaw
                replace ooz := oo.lt
                replace hw : Below w.heap.size w u10 := Below.hop (by repeat' (first | exact Below.refl _ _ | assumption | (refine Below.alloc ?_ ?_ _; rotate_left; (focus (first | rfl | omega | (simp; done) | (simp; omega)))) | (refine Below.setCell ?_ ?_ _; rotate_left; (focus (first | rfl | omega | (simp; done) | (simp; omega)))) | refine Below.drew ?_)) hbx
                replace hz := hw.size
                clear hbx
                go_wp2
                go_ret
                exact ⟨rfl, hw⟩
              · skip
                have hz1 := HM1.out.2 (by have := H11.out; have := H12.out; omega)
                simp at hz1
      · skip
        refine region_late 22 [] (by kernel_rfl) (by kernel_rfl) (by rfl) ?_
        apply Exists.intro
        refine ⟨fun v hv hne => ?_, fun u7 hu => ?_⟩
        · simp only [List.take_succ_cons, List.take_zero]
          have dom := fun x => (om.later (v := v) (T := []) (by first | (simp; done) | (simp; omega)) x).cell
          have doc := fun x => (oc.later (v := v) (T := []) (by first | (simp; done) | (simp; omega)) x).cell
          have dof := fun x => (of.later (v := v) (T := []) (by first | (simp; done) | (simp; omega)) x).cell
          have dog := fun x => (og.later (v := v) (T := []) (by first | (simp; done) | (simp; omega)) x).cell
          repeat (go_big_quiet_step ((first | (go_at_call 64; with_reducible exact lateB (callv (law25_sum _ _ _ _ _ _ _ _) H6.out)) | (go_at_call 59; with_reducible exact lateB (callv (contact_Has _ _ _ _ _ _ _ _ _ _ _ _) H8.out)))))
          refine wpQuiet_nil ?_
          exact rfl
        · simp only [List.drop_succ_cons, List.drop_zero]
          replace om := om.below hu
          replace oc := oc.below hu
          replace of := of.below hu
          replace og := og.below hu
          replace hw := Below.hop hw hu
          replace hz := hw.size
          clear hu
          refine late_nil ?_
          (try simp only [Act.put, List.setIfInBounds_toArray, List.set_cons_zero, List.set_cons_succ])
          have omc := om.cell
          have omf := om.thaw
          have omz := om.lt
          have occ := oc.cell
          have ocf := oc.thaw
          have ocz := oc.lt
          have ofc := of.cell
          have off := of.thaw
          have ofz := of.lt
          have ogc := og.cell
          have ogf := og.thaw
          have ogz := og.lt
          go_wp2
          have hD1 : 1 ≤ 1 + u0 % 10 := by omega
          have hD2 : 1 + u0 % 10 ≤ 10 := by omega
          have hM1 := Int.emod_nonneg u1 (show 1 + u0 % 10 + 1 ≠ 0 by omega)
          have hM2 := Int.emod_lt_of_pos u1 (show 0 < 1 + u0 % 10 + 1 by omega)
          have hq3 : u1.tmod (1 + u0 % 10 + 1) = u1 % (1 + u0 % 10 + 1) := Int.tmod_eq_emod_of_nonneg hva
          clear hua hub hu0
          generalize 1 + u0 % 10 = D at *
          generalize u1 % (D + 1) = M at *
          have hq1 : IntKind.i64.wrap (D + 1) = D + 1 := IntWalk.i64_in _ (by omega)
          have hq2 : ¬ (D + 1 = 0) := by omega
          have hq4 : IntKind.i64.wrap M = M := IntWalk.i64_in _ (by omega)
          refine region_late 9 [] (by kernel_rfl) (by kernel_rfl) (by rfl) ?_
          apply Exists.intro
          refine ⟨fun v hv hne => ?_, fun u hu => ?_⟩
          · simp only [List.take_succ_cons, List.take_zero]
            have dom := fun x => (om.later (v := v) (T := []) (by first | (simp; done) | (simp; omega)) x).cell
            have doc := fun x => (oc.later (v := v) (T := []) (by first | (simp; done) | (simp; omega)) x).cell
            have dof := fun x => (of.later (v := v) (T := []) (by first | (simp; done) | (simp; omega)) x).cell
            have dog := fun x => (og.later (v := v) (T := []) (by first | (simp; done) | (simp; omega)) x).cell
            repeat (go_big_quiet_step ((first | (go_at_call 66; with_reducible exact lateB (law25_with _ _ _ _ _ _ _ _ _ _ _)))))
            refine wpQuiet_nil ?_
            exact rfl
          · simp only [List.drop_succ_cons, List.drop_zero]
            skip
            refine late_mem (fun K hK => ?_)
            go_simp
            refine hK _ _ ((Keeps.of_below hu).alloc _) (fun u82 hu2 => ?_)
            clear hK K
            have hk2 : Keeps [] u7 u82 := ((Keeps.of_below (T := []) hu).alloc _).later hu2
            have oo : Own u82 u.heap.size #[.int .i64 0, .int .i64 0, .int .i64 0, .int .i64 0, .int .i64 0, .int .i64 0, .int .i64 0, .int .i64 0] := Own.below (Own.new rfl) hu2
            have ooc := oo.cell
            have oof := oo.thaw
            have oog : u7.heap.size ≤ u.heap.size := hu.size
            replace hw := Below.hop ((Below.hop hw hu).alloc (by have := hw.size; have := hu.size; omega) _) hu2
            have hwz := hw.size
            have ooy : w.heap.size ≤ u.heap.size := by omega
            refine late_mem (fun K hK => ?_)
            go_simp
            refine hK _ _ ((((((((hk2.new oog _).new oog _).new oog _).new oog _).new oog _).new oog _).new oog _).new oog _) (fun u83 hu3 => ?_)
            clear hK K
            have hk3 : Keeps [] u7 u83 := ((((((((hk2.new oog _).new oog _).new oog _).new oog _).new oog _).new oog _).new oog _).new oog _).later hu3
            replace oo : Own u83 u.heap.size #[.int .i64 c0, .int .i64 c1, .int .i64 c2, .int .i64 cn0, .int .i64 cn1, .int .i64 cn2, .int .i64 M, .int .i64 D] := ((((((((oo.set 0 _).set 1 _).set 2 _).set 3 _).set 4 _).set 5 _).set 6 _).set 7 _).below hu3
            replace hw := Below.hop ((((((((hw.setCell ooy _).setCell ooy _).setCell ooy _).setCell ooy _).setCell ooy _).setCell ooy _).setCell ooy _).setCell ooy _) hu3
            clear ooc oof hk2
            replace om : Own u83 (w.heap.size + 1 + 1) #[.int .u8 u0, .int .u8 u1] := om.keeps hk3 (by simp)
            replace oc : Own u83 (cb) #[.int .i64 c0, .int .i64 c1, .int .i64 c2, .int .i64 cn0, .int .i64 cn1, .int .i64 cn2, .int .i64 cm, .int .i64 cd] := oc.keeps hk3 (by simp)
            replace of : Own u83 (w.heap.size) #[.int .i64 s0, .int .i64 s1, .int .i64 s2] := of.keeps hk3 (by simp)
            replace og : Own u83 (w.heap.size + 1) #[.int .i64 t0, .int .i64 t1, .int .i64 t2] := og.keeps hk3 (by simp)
            refine late_nil ?_
            (try simp only [Act.put, List.setIfInBounds_toArray, List.set_cons_zero, List.set_cons_succ])
            clear hk3 hu hu2 hu3 hwz
            generalize u.heap.size = oob at *
            replace hz := hw.size
            clear u
            replace omc := om.cell
            replace omf := om.thaw
            replace omz := om.lt
            replace occ := oc.cell
            replace ocf := oc.thaw
            replace ocz := oc.lt
            replace ofc := of.cell
            replace off := of.thaw
            replace ofz := of.lt
            replace ogc := og.cell
            replace ogf := og.thaw
            replace ogz := og.lt
            replace ooc := oo.cell
            replace oof := oo.thaw
            replace ooz := oo.lt
            clear hq1 hq2 hq3 hq4
            by_cases hmore : wrap64 (cm * D) ≤ wrap64 (M * cd)
            · skip
              cases d
              · skip
                go_wp2_with fail
                refine Calls.mono (callv (contact_Check _ _ _ _ _ _ _ _ _) H9.out) ?_
                rintro e u9 ⟨rfl, hbx⟩
                replace om : Own u9 (w.heap.size + 1 + 1) #[.int .u8 u0, .int .u8 u1] := Own.below (by repeat' (first | ((refine Own.new ?_); (focus (first | rfl | omega | (simp; done) | (simp; omega)))) | assumption | refine Own.alloc ?_ _ | refine Own.drew ?_ | (refine Own.far ?_ ?_ _; rotate_left; (focus (first | rfl | omega | (simp; done) | (simp; omega)))))) hbx
                replace omc := om.cell
                replace omf := om.thaw
                replace omz := om.lt
                replace oc : Own u9 (cb) #[.int .i64 c0, .int .i64 c1, .int .i64 c2, .int .i64 cn0, .int .i64 cn1, .int .i64 cn2, .int .i64 cm, .int .i64 cd] := Own.below (by repeat' (first | ((refine Own.new ?_); (focus (first | rfl | omega | (simp; done) | (simp; omega)))) | assumption | refine Own.alloc ?_ _ | refine Own.drew ?_ | (refine Own.far ?_ ?_ _; rotate_left; (focus (first | rfl | omega | (simp; done) | (simp; omega)))))) hbx
                replace occ := oc.cell
                replace ocf := oc.thaw
                replace ocz := oc.lt
                replace of : Own u9 (w.heap.size) #[.int .i64 s0, .int .i64 s1, .int .i64 s2] := Own.below (by repeat' (first | ((refine Own.new ?_); (focus (first | rfl | omega | (simp; done) | (simp; omega)))) | assumption | refine Own.alloc ?_ _ | refine Own.drew ?_ | (refine Own.far ?_ ?_ _; rotate_left; (focus (first | rfl | omega | (simp; done) | (simp; omega)))))) hbx
                replace ofc := of.cell
                replace off := of.thaw
                replace ofz := of.lt
                replace og : Own u9 (w.heap.size + 1) #[.int .i64 t0, .int .i64 t1, .int .i64 t2] := Own.below (by repeat' (first | ((refine Own.new ?_); (focus (first | rfl | omega | (simp; done) | (simp; omega)))) | assumption | refine Own.alloc ?_ _ | refine Own.drew ?_ | (refine Own.far ?_ ?_ _; rotate_left; (focus (first | rfl | omega | (simp; done) | (simp; omega)))))) hbx
                replace ogc := og.cell
                replace ogf := og.thaw
                replace ogz := og.lt
                replace oo : Own u9 (oob) #[.int .i64 c0, .int .i64 c1, .int .i64 c2, .int .i64 cn0, .int .i64 cn1, .int .i64 cn2, .int .i64 M, .int .i64 D] := Own.below (by repeat' (first | ((refine Own.new ?_); (focus (first | rfl | omega | (simp; done) | (simp; omega)))) | assumption | refine Own.alloc ?_ _ | refine Own.drew ?_ | (refine Own.far ?_ ?_ _; rotate_left; (focus (first | rfl | omega | (simp; done) | (simp; omega)))))) hbx
                replace ooc := oo.cell
                replace oof := oo.thaw
                replace ooz := oo.lt
                replace hw : Below w.heap.size w u9 := Below.hop (by repeat' (first | exact Below.refl _ _ | assumption | (refine Below.alloc ?_ ?_ _; rotate_left; (focus (first | rfl | omega | (simp; done) | (simp; omega)))) | (refine Below.setCell ?_ ?_ _; rotate_left; (focus (first | rfl | omega | (simp; done) | (simp; omega)))) | refine Below.drew ?_)) hbx
                replace hz := hw.size
                clear hbx
                go_wp2
                go_ret
                exact ⟨rfl, hw⟩
              · skip
                go_wp2_with fail
                refine Calls.mono (callv (contact_Check _ _ _ _ _ _ _ _ _) H9.out) ?_
                rintro e u9 ⟨rfl, hbx⟩
                replace om : Own u9 (w.heap.size + 1 + 1) #[.int .u8 u0, .int .u8 u1] := Own.below (by repeat' (first | ((refine Own.new ?_); (focus (first | rfl | omega | (simp; done) | (simp; omega)))) | assumption | refine Own.alloc ?_ _ | refine Own.drew ?_ | (refine Own.far ?_ ?_ _; rotate_left; (focus (first | rfl | omega | (simp; done) | (simp; omega)))))) hbx
                replace omc := om.cell
                replace omf := om.thaw
                replace omz := om.lt
                replace oc : Own u9 (cb) #[.int .i64 c0, .int .i64 c1, .int .i64 c2, .int .i64 cn0, .int .i64 cn1, .int .i64 cn2, .int .i64 cm, .int .i64 cd] := Own.below (by repeat' (first | ((refine Own.new ?_); (focus (first | rfl | omega | (simp; done) | (simp; omega)))) | assumption | refine Own.alloc ?_ _ | refine Own.drew ?_ | (refine Own.far ?_ ?_ _; rotate_left; (focus (first | rfl | omega | (simp; done) | (simp; omega)))))) hbx
                replace occ := oc.cell
                replace ocf := oc.thaw
                replace ocz := oc.lt
                replace of : Own u9 (w.heap.size) #[.int .i64 s0, .int .i64 s1, .int .i64 s2] := Own.below (by repeat' (first | ((refine Own.new ?_); (focus (first | rfl | omega | (simp; done) | (simp; omega)))) | assumption | refine Own.alloc ?_ _ | refine Own.drew ?_ | (refine Own.far ?_ ?_ _; rotate_left; (focus (first | rfl | omega | (simp; done) | (simp; omega)))))) hbx
                replace ofc := of.cell
                replace off := of.thaw
                replace ofz := of.lt
                replace og : Own u9 (w.heap.size + 1) #[.int .i64 t0, .int .i64 t1, .int .i64 t2] := Own.below (by repeat' (first | ((refine Own.new ?_); (focus (first | rfl | omega | (simp; done) | (simp; omega)))) | assumption | refine Own.alloc ?_ _ | refine Own.drew ?_ | (refine Own.far ?_ ?_ _; rotate_left; (focus (first | rfl | omega | (simp; done) | (simp; omega)))))) hbx
                replace ogc := og.cell
                replace ogf := og.thaw
                replace ogz := og.lt
                replace oo : Own u9 (oob) #[.int .i64 c0, .int .i64 c1, .int .i64 c2, .int .i64 cn0, .int .i64 cn1, .int .i64 cn2, .int .i64 M, .int .i64 D] := Own.below (by repeat' (first | ((refine Own.new ?_); (focus (first | rfl | omega | (simp; done) | (simp; omega)))) | assumption | refine Own.alloc ?_ _ | refine Own.drew ?_ | (refine Own.far ?_ ?_ _; rotate_left; (focus (first | rfl | omega | (simp; done) | (simp; omega)))))) hbx
                replace ooc := oo.cell
                replace oof := oo.thaw
                replace ooz := oo.lt
                replace hw : Below w.heap.size w u9 := Below.hop (by repeat' (first | exact Below.refl _ _ | assumption | (refine Below.alloc ?_ ?_ _; rotate_left; (focus (first | rfl | omega | (simp; done) | (simp; omega)))) | (refine Below.setCell ?_ ?_ _; rotate_left; (focus (first | rfl | omega | (simp; done) | (simp; omega)))) | refine Below.drew ?_)) hbx
                replace hz := hw.size
                clear hbx
                go_wp2
                go_ret
                exact ⟨rfl, hw⟩
            · skip
              cases d
              · skip
                go_wp2_with fail
                refine Calls.mono (callv (contact_Check _ _ _ _ _ _ _ _ _) H9.out) ?_
                rintro e u9 ⟨rfl, hbx⟩
                replace om : Own u9 (w.heap.size + 1 + 1) #[.int .u8 u0, .int .u8 u1] := Own.below (by repeat' (first | ((refine Own.new ?_); (focus (first | rfl | omega | (simp; done) | (simp; omega)))) | assumption | refine Own.alloc ?_ _ | refine Own.drew ?_ | (refine Own.far ?_ ?_ _; rotate_left; (focus (first | rfl | omega | (simp; done) | (simp; omega)))))) hbx
                replace omc := om.cell
                replace omf := om.thaw
                replace omz := om.lt
                replace oc : Own u9 (cb) #[.int .i64 c0, .int .i64 c1, .int .i64 c2, .int .i64 cn0, .int .i64 cn1, .int .i64 cn2, .int .i64 cm, .int .i64 cd] := Own.below (by repeat' (first | ((refine Own.new ?_); (focus (first | rfl | omega | (simp; done) | (simp; omega)))) | assumption | refine Own.alloc ?_ _ | refine Own.drew ?_ | (refine Own.far ?_ ?_ _; rotate_left; (focus (first | rfl | omega | (simp; done) | (simp; omega)))))) hbx
                replace occ := oc.cell
                replace ocf := oc.thaw
                replace ocz := oc.lt
                replace of : Own u9 (w.heap.size) #[.int .i64 s0, .int .i64 s1, .int .i64 s2] := Own.below (by repeat' (first | ((refine Own.new ?_); (focus (first | rfl | omega | (simp; done) | (simp; omega)))) | assumption | refine Own.alloc ?_ _ | refine Own.drew ?_ | (refine Own.far ?_ ?_ _; rotate_left; (focus (first | rfl | omega | (simp; done) | (simp; omega)))))) hbx
                replace ofc := of.cell
                replace off := of.thaw
                replace ofz := of.lt
                replace og : Own u9 (w.heap.size + 1) #[.int .i64 t0, .int .i64 t1, .int .i64 t2] := Own.below (by repeat' (first | ((refine Own.new ?_); (focus (first | rfl | omega | (simp; done) | (simp; omega)))) | assumption | refine Own.alloc ?_ _ | refine Own.drew ?_ | (refine Own.far ?_ ?_ _; rotate_left; (focus (first | rfl | omega | (simp; done) | (simp; omega)))))) hbx
                replace ogc := og.cell
                replace ogf := og.thaw
                replace ogz := og.lt
                replace oo : Own u9 (oob) #[.int .i64 c0, .int .i64 c1, .int .i64 c2, .int .i64 cn0, .int .i64 cn1, .int .i64 cn2, .int .i64 M, .int .i64 D] := Own.below (by repeat' (first | ((refine Own.new ?_); (focus (first | rfl | omega | (simp; done) | (simp; omega)))) | assumption | refine Own.alloc ?_ _ | refine Own.drew ?_ | (refine Own.far ?_ ?_ _; rotate_left; (focus (first | rfl | omega | (simp; done) | (simp; omega)))))) hbx
                replace ooc := oo.cell
                replace oof := oo.thaw
                replace ooz := oo.lt
                replace hw : Below w.heap.size w u9 := Below.hop (by repeat' (first | exact Below.refl _ _ | assumption | (refine Below.alloc ?_ ?_ _; rotate_left; (focus (first | rfl | omega | (simp; done) | (simp; omega)))) | (refine Below.setCell ?_ ?_ _; rotate_left; (focus (first | rfl | omega | (simp; done) | (simp; omega)))) | refine Below.drew ?_)) hbx
                replace hz := hw.size
                clear hbx
                go_wp2_with fail
                refine Calls.mono (callv (contact_Has _ _ _ _ _ _ _ _ _ _ _ _) H10.out) ?_
                rintro e u10 ⟨rfl, hbx⟩
                replace om : Own u10 (w.heap.size + 1 + 1) #[.int .u8 u0, .int .u8 u1] := Own.below (by repeat' (first | ((refine Own.new ?_); (focus (first | rfl | omega | (simp; done) | (simp; omega)))) | assumption | refine Own.alloc ?_ _ | refine Own.drew ?_ | (refine Own.far ?_ ?_ _; rotate_left; (focus (first | rfl | omega | (simp; done) | (simp; omega)))))) hbx
                replace omc := om.cell
                replace omf := om.thaw
                replace omz := om.lt
                replace oc : Own u10 (cb) #[.int .i64 c0, .int .i64 c1, .int .i64 c2, .int .i64 cn0, .int .i64 cn1, .int .i64 cn2, .int .i64 cm, .int .i64 cd] := Own.below (by repeat' (first | ((refine Own.new ?_); (focus (first | rfl | omega | (simp; done) | (simp; omega)))) | assumption | refine Own.alloc ?_ _ | refine Own.drew ?_ | (refine Own.far ?_ ?_ _; rotate_left; (focus (first | rfl | omega | (simp; done) | (simp; omega)))))) hbx
                replace occ := oc.cell
                replace ocf := oc.thaw
                replace ocz := oc.lt
                replace of : Own u10 (w.heap.size) #[.int .i64 s0, .int .i64 s1, .int .i64 s2] := Own.below (by repeat' (first | ((refine Own.new ?_); (focus (first | rfl | omega | (simp; done) | (simp; omega)))) | assumption | refine Own.alloc ?_ _ | refine Own.drew ?_ | (refine Own.far ?_ ?_ _; rotate_left; (focus (first | rfl | omega | (simp; done) | (simp; omega)))))) hbx
                replace ofc := of.cell
                replace off := of.thaw
                replace ofz := of.lt
                replace og : Own u10 (w.heap.size + 1) #[.int .i64 t0, .int .i64 t1, .int .i64 t2] := Own.below (by repeat' (first | ((refine Own.new ?_); (focus (first | rfl | omega | (simp; done) | (simp; omega)))) | assumption | refine Own.alloc ?_ _ | refine Own.drew ?_ | (refine Own.far ?_ ?_ _; rotate_left; (focus (first | rfl | omega | (simp; done) | (simp; omega)))))) hbx
                replace ogc := og.cell
                replace ogf := og.thaw
                replace ogz := og.lt
                replace oo : Own u10 (oob) #[.int .i64 c0, .int .i64 c1, .int .i64 c2, .int .i64 cn0, .int .i64 cn1, .int .i64 cn2, .int .i64 M, .int .i64 D] := Own.below (by repeat' (first | ((refine Own.new ?_); (focus (first | rfl | omega | (simp; done) | (simp; omega)))) | assumption | refine Own.alloc ?_ _ | refine Own.drew ?_ | (refine Own.far ?_ ?_ _; rotate_left; (focus (first | rfl | omega | (simp; done) | (simp; omega)))))) hbx
                replace ooc := oo.cell
                replace oof := oo.thaw
                replace ooz := oo.lt
                replace hw : Below w.heap.size w u10 := Below.hop (by repeat' (first | exact Below.refl _ _ | assumption | (refine Below.alloc ?_ ?_ _; rotate_left; (focus (first | rfl | omega | (simp; done) | (simp; omega)))) | (refine Below.setCell ?_ ?_ _; rotate_left; (focus (first | rfl | omega | (simp; done) | (simp; omega)))) | refine Below.drew ?_)) hbx
                replace hz := hw.size
                clear hbx
                go_wp2
                go_ret
                exact ⟨rfl, hw⟩
              · skip
                have hz1 := HM1.out.2 (by have := H11.out; have := H12.out; omega)
                simp at hz1
      · skip
        refine region_late 22 [] (by kernel_rfl) (by kernel_rfl) (by rfl) ?_
        apply Exists.intro
        refine ⟨fun v hv hne => ?_, fun u7 hu => ?_⟩
        · simp only [List.take_succ_cons, List.take_zero]
          have dom := fun x => (om.later (v := v) (T := []) (by first | (simp; done) | (simp; omega)) x).cell
          have doc := fun x => (oc.later (v := v) (T := []) (by first | (simp; done) | (simp; omega)) x).cell
          have dof := fun x => (of.later (v := v) (T := []) (by first | (simp; done) | (simp; omega)) x).cell
          have dog := fun x => (og.later (v := v) (T := []) (by first | (simp; done) | (simp; omega)) x).cell
          repeat (go_big_quiet_step ((first | (go_at_call 64; with_reducible exact lateB (callv (law25_sum _ _ _ _ _ _ _ _) H6.out)) | (go_at_call 59; with_reducible exact lateB (callv (contact_Has _ _ _ _ _ _ _ _ _ _ _ _) H8.out)))))
          refine wpQuiet_nil ?_
          exact rfl
        · simp only [List.drop_succ_cons, List.drop_zero]
          replace om := om.below hu
          replace oc := oc.below hu
          replace of := of.below hu
          replace og := og.below hu
          replace hw := Below.hop hw hu
          replace hz := hw.size
          clear hu
          refine late_nil ?_
          (try simp only [Act.put, List.setIfInBounds_toArray, List.set_cons_zero, List.set_cons_succ])
          have omc := om.cell
          have omf := om.thaw
          have omz := om.lt
          have occ := oc.cell
          have ocf := oc.thaw
          have ocz := oc.lt
          have ofc := of.cell
          have off := of.thaw
          have ofz := of.lt
          have ogc := og.cell
          have ogf := og.thaw
          have ogz := og.lt
          go_wp2
          have hD1 : 1 ≤ 1 + u0 % 10 := by omega
          have hD2 : 1 + u0 % 10 ≤ 10 := by omega
          have hM1 := Int.emod_nonneg u1 (show 1 + u0 % 10 + 1 ≠ 0 by omega)
          have hM2 := Int.emod_lt_of_pos u1 (show 0 < 1 + u0 % 10 + 1 by omega)
          have hq3 : u1.tmod (1 + u0 % 10 + 1) = u1 % (1 + u0 % 10 + 1) := Int.tmod_eq_emod_of_nonneg hva
          clear hua hub hu0
          generalize 1 + u0 % 10 = D at *
          generalize u1 % (D + 1) = M at *
          have hq1 : IntKind.i64.wrap (D + 1) = D + 1 := IntWalk.i64_in _ (by omega)
          have hq2 : ¬ (D + 1 = 0) := by omega
          have hq4 : IntKind.i64.wrap M = M := IntWalk.i64_in _ (by omega)
          refine region_late 9 [] (by kernel_rfl) (by kernel_rfl) (by rfl) ?_
          apply Exists.intro
          refine ⟨fun v hv hne => ?_, fun u hu => ?_⟩
          · simp only [List.take_succ_cons, List.take_zero]
            have dom := fun x => (om.later (v := v) (T := []) (by first | (simp; done) | (simp; omega)) x).cell
            have doc := fun x => (oc.later (v := v) (T := []) (by first | (simp; done) | (simp; omega)) x).cell
            have dof := fun x => (of.later (v := v) (T := []) (by first | (simp; done) | (simp; omega)) x).cell
            have dog := fun x => (og.later (v := v) (T := []) (by first | (simp; done) | (simp; omega)) x).cell
            repeat (go_big_quiet_step ((first | (go_at_call 66; with_reducible exact lateB (law25_with _ _ _ _ _ _ _ _ _ _ _)))))
            refine wpQuiet_nil ?_
            exact rfl
          · simp only [List.drop_succ_cons, List.drop_zero]
            skip
            refine late_mem (fun K hK => ?_)
            go_simp
            refine hK _ _ ((Keeps.of_below hu).alloc _) (fun u82 hu2 => ?_)
            clear hK K
            have hk2 : Keeps [] u7 u82 := ((Keeps.of_below (T := []) hu).alloc _).later hu2
            have oo : Own u82 u.heap.size #[.int .i64 0, .int .i64 0, .int .i64 0, .int .i64 0, .int .i64 0, .int .i64 0, .int .i64 0, .int .i64 0] := Own.below (Own.new rfl) hu2
            have ooc := oo.cell
            have oof := oo.thaw
            have oog : u7.heap.size ≤ u.heap.size := hu.size
            replace hw := Below.hop ((Below.hop hw hu).alloc (by have := hw.size; have := hu.size; omega) _) hu2
            have hwz := hw.size
            have ooy : w.heap.size ≤ u.heap.size := by omega
            refine late_mem (fun K hK => ?_)
            go_simp
            refine hK _ _ ((((((((hk2.new oog _).new oog _).new oog _).new oog _).new oog _).new oog _).new oog _).new oog _) (fun u83 hu3 => ?_)
            clear hK K
            have hk3 : Keeps [] u7 u83 := ((((((((hk2.new oog _).new oog _).new oog _).new oog _).new oog _).new oog _).new oog _).new oog _).later hu3
            replace oo : Own u83 u.heap.size #[.int .i64 c0, .int .i64 c1, .int .i64 c2, .int .i64 cn0, .int .i64 cn1, .int .i64 cn2, .int .i64 M, .int .i64 D] := ((((((((oo.set 0 _).set 1 _).set 2 _).set 3 _).set 4 _).set 5 _).set 6 _).set 7 _).below hu3
            replace hw := Below.hop ((((((((hw.setCell ooy _).setCell ooy _).setCell ooy _).setCell ooy _).setCell ooy _).setCell ooy _).setCell ooy _).setCell ooy _) hu3
            clear ooc oof hk2
            replace om : Own u83 (w.heap.size + 1 + 1) #[.int .u8 u0, .int .u8 u1] := om.keeps hk3 (by simp)
            replace oc : Own u83 (cb) #[.int .i64 c0, .int .i64 c1, .int .i64 c2, .int .i64 cn0, .int .i64 cn1, .int .i64 cn2, .int .i64 cm, .int .i64 cd] := oc.keeps hk3 (by simp)
            replace of : Own u83 (w.heap.size) #[.int .i64 s0, .int .i64 s1, .int .i64 s2] := of.keeps hk3 (by simp)
            replace og : Own u83 (w.heap.size + 1) #[.int .i64 t0, .int .i64 t1, .int .i64 t2] := og.keeps hk3 (by simp)
            refine late_nil ?_
            (try simp only [Act.put, List.setIfInBounds_toArray, List.set_cons_zero, List.set_cons_succ])
            clear hk3 hu hu2 hu3 hwz
            generalize u.heap.size = oob at *
            replace hz := hw.size
            clear u
            replace omc := om.cell
            replace omf := om.thaw
            replace omz := om.lt
            replace occ := oc.cell
            replace ocf := oc.thaw
            replace ocz := oc.lt
            replace ofc := of.cell
            replace off := of.thaw
            replace ofz := of.lt
            replace ogc := og.cell
            replace ogf := og.thaw
            replace ogz := og.lt
            replace ooc := oo.cell
            replace oof := oo.thaw
            replace ooz := oo.lt
            clear hq1 hq2 hq3 hq4
            by_cases hmore : wrap64 (cm * D) ≤ wrap64 (M * cd)
            · skip
              cases d
              · skip
                have hz1 := HM1.out.1 (by rw [← H12.out, ← H11.out]; exact hmore)
                simp at hz1
              · skip
                go_wp2_with fail
                refine Calls.mono (callv (contact_Check _ _ _ _ _ _ _ _ _) H9.out) ?_
                rintro e u9 ⟨rfl, hbx⟩
                replace om : Own u9 (w.heap.size + 1 + 1) #[.int .u8 u0, .int .u8 u1] := Own.below (by repeat' (first | ((refine Own.new ?_); (focus (first | rfl | omega | (simp; done) | (simp; omega)))) | assumption | refine Own.alloc ?_ _ | refine Own.drew ?_ | (refine Own.far ?_ ?_ _; rotate_left; (focus (first | rfl | omega | (simp; done) | (simp; omega)))))) hbx
                replace omc := om.cell
                replace omf := om.thaw
                replace omz := om.lt
                replace oc : Own u9 (cb) #[.int .i64 c0, .int .i64 c1, .int .i64 c2, .int .i64 cn0, .int .i64 cn1, .int .i64 cn2, .int .i64 cm, .int .i64 cd] := Own.below (by repeat' (first | ((refine Own.new ?_); (focus (first | rfl | omega | (simp; done) | (simp; omega)))) | assumption | refine Own.alloc ?_ _ | refine Own.drew ?_ | (refine Own.far ?_ ?_ _; rotate_left; (focus (first | rfl | omega | (simp; done) | (simp; omega)))))) hbx
                replace occ := oc.cell
                replace ocf := oc.thaw
                replace ocz := oc.lt
                replace of : Own u9 (w.heap.size) #[.int .i64 s0, .int .i64 s1, .int .i64 s2] := Own.below (by repeat' (first | ((refine Own.new ?_); (focus (first | rfl | omega | (simp; done) | (simp; omega)))) | assumption | refine Own.alloc ?_ _ | refine Own.drew ?_ | (refine Own.far ?_ ?_ _; rotate_left; (focus (first | rfl | omega | (simp; done) | (simp; omega)))))) hbx
                replace ofc := of.cell
                replace off := of.thaw
                replace ofz := of.lt
                replace og : Own u9 (w.heap.size + 1) #[.int .i64 t0, .int .i64 t1, .int .i64 t2] := Own.below (by repeat' (first | ((refine Own.new ?_); (focus (first | rfl | omega | (simp; done) | (simp; omega)))) | assumption | refine Own.alloc ?_ _ | refine Own.drew ?_ | (refine Own.far ?_ ?_ _; rotate_left; (focus (first | rfl | omega | (simp; done) | (simp; omega)))))) hbx
                replace ogc := og.cell
                replace ogf := og.thaw
                replace ogz := og.lt
                replace oo : Own u9 (oob) #[.int .i64 c0, .int .i64 c1, .int .i64 c2, .int .i64 cn0, .int .i64 cn1, .int .i64 cn2, .int .i64 M, .int .i64 D] := Own.below (by repeat' (first | ((refine Own.new ?_); (focus (first | rfl | omega | (simp; done) | (simp; omega)))) | assumption | refine Own.alloc ?_ _ | refine Own.drew ?_ | (refine Own.far ?_ ?_ _; rotate_left; (focus (first | rfl | omega | (simp; done) | (simp; omega)))))) hbx
                replace ooc := oo.cell
                replace oof := oo.thaw
                replace ooz := oo.lt
                replace hw : Below w.heap.size w u9 := Below.hop (by repeat' (first | exact Below.refl _ _ | assumption | (refine Below.alloc ?_ ?_ _; rotate_left; (focus (first | rfl | omega | (simp; done) | (simp; omega)))) | (refine Below.setCell ?_ ?_ _; rotate_left; (focus (first | rfl | omega | (simp; done) | (simp; omega)))) | refine Below.drew ?_)) hbx
                replace hz := hw.size
                clear hbx
                go_wp2_with fail
                refine Calls.mono (callv (contact_Has _ _ _ _ _ _ _ _ _ _ _ _) H10.out) ?_
                rintro e u10 ⟨rfl, hbx⟩
                replace om : Own u10 (w.heap.size + 1 + 1) #[.int .u8 u0, .int .u8 u1] := Own.below (by repeat' (first | ((refine Own.new ?_); (focus (first | rfl | omega | (simp; done) | (simp; omega)))) | assumption | refine Own.alloc ?_ _ | refine Own.drew ?_ | (refine Own.far ?_ ?_ _; rotate_left; (focus (first | rfl | omega | (simp; done) | (simp; omega)))))) hbx
                replace omc := om.cell
                replace omf := om.thaw
                replace omz := om.lt
                replace oc : Own u10 (cb) #[.int .i64 c0, .int .i64 c1, .int .i64 c2, .int .i64 cn0, .int .i64 cn1, .int .i64 cn2, .int .i64 cm, .int .i64 cd] := Own.below (by repeat' (first | ((refine Own.new ?_); (focus (first | rfl | omega | (simp; done) | (simp; omega)))) | assumption | refine Own.alloc ?_ _ | refine Own.drew ?_ | (refine Own.far ?_ ?_ _; rotate_left; (focus (first | rfl | omega | (simp; done) | (simp; omega)))))) hbx
                replace occ := oc.cell
                replace ocf := oc.thaw
                replace ocz := oc.lt
                replace of : Own u10 (w.heap.size) #[.int .i64 s0, .int .i64 s1, .int .i64 s2] := Own.below (by repeat' (first | ((refine Own.new ?_); (focus (first | rfl | omega | (simp; done) | (simp; omega)))) | assumption | refine Own.alloc ?_ _ | refine Own.drew ?_ | (refine Own.far ?_ ?_ _; rotate_left; (focus (first | rfl | omega | (simp; done) | (simp; omega)))))) hbx
                replace ofc := of.cell
                replace off := of.thaw
                replace ofz := of.lt
                replace og : Own u10 (w.heap.size + 1) #[.int .i64 t0, .int .i64 t1, .int .i64 t2] := Own.below (by repeat' (first | ((refine Own.new ?_); (focus (first | rfl | omega | (simp; done) | (simp; omega)))) | assumption | refine Own.alloc ?_ _ | refine Own.drew ?_ | (refine Own.far ?_ ?_ _; rotate_left; (focus (first | rfl | omega | (simp; done) | (simp; omega)))))) hbx
                replace ogc := og.cell
                replace ogf := og.thaw
                replace ogz := og.lt
                replace oo : Own u10 (oob) #[.int .i64 c0, .int .i64 c1, .int .i64 c2, .int .i64 cn0, .int .i64 cn1, .int .i64 cn2, .int .i64 M, .int .i64 D] := Own.below (by repeat' (first | ((refine Own.new ?_); (focus (first | rfl | omega | (simp; done) | (simp; omega)))) | assumption | refine Own.alloc ?_ _ | refine Own.drew ?_ | (refine Own.far ?_ ?_ _; rotate_left; (focus (first | rfl | omega | (simp; done) | (simp; omega)))))) hbx
                replace ooc := oo.cell
                replace oof := oo.thaw
                replace ooz := oo.lt
                replace hw : Below w.heap.size w u10 := Below.hop (by repeat' (first | exact Below.refl _ _ | assumption | (refine Below.alloc ?_ ?_ _; rotate_left; (focus (first | rfl | omega | (simp; done) | (simp; omega)))) | (refine Below.setCell ?_ ?_ _; rotate_left; (focus (first | rfl | omega | (simp; done) | (simp; omega)))) | refine Below.drew ?_)) hbx
                replace hz := hw.size
                clear hbx
                go_wp2
                go_ret
                exact ⟨rfl, hw⟩
            · skip
              cases d
              · skip
                go_wp2_with fail
                refine Calls.mono (callv (contact_Check _ _ _ _ _ _ _ _ _) H9.out) ?_
                rintro e u9 ⟨rfl, hbx⟩
                replace om : Own u9 (w.heap.size + 1 + 1) #[.int .u8 u0, .int .u8 u1] := Own.below (by repeat' (first | ((refine Own.new ?_); (focus (first | rfl | omega | (simp; done) | (simp; omega)))) | assumption | refine Own.alloc ?_ _ | refine Own.drew ?_ | (refine Own.far ?_ ?_ _; rotate_left; (focus (first | rfl | omega | (simp; done) | (simp; omega)))))) hbx
                replace omc := om.cell
                replace omf := om.thaw
                replace omz := om.lt
                replace oc : Own u9 (cb) #[.int .i64 c0, .int .i64 c1, .int .i64 c2, .int .i64 cn0, .int .i64 cn1, .int .i64 cn2, .int .i64 cm, .int .i64 cd] := Own.below (by repeat' (first | ((refine Own.new ?_); (focus (first | rfl | omega | (simp; done) | (simp; omega)))) | assumption | refine Own.alloc ?_ _ | refine Own.drew ?_ | (refine Own.far ?_ ?_ _; rotate_left; (focus (first | rfl | omega | (simp; done) | (simp; omega)))))) hbx
                replace occ := oc.cell
                replace ocf := oc.thaw
                replace ocz := oc.lt
                replace of : Own u9 (w.heap.size) #[.int .i64 s0, .int .i64 s1, .int .i64 s2] := Own.below (by repeat' (first | ((refine Own.new ?_); (focus (first | rfl | omega | (simp; done) | (simp; omega)))) | assumption | refine Own.alloc ?_ _ | refine Own.drew ?_ | (refine Own.far ?_ ?_ _; rotate_left; (focus (first | rfl | omega | (simp; done) | (simp; omega)))))) hbx
                replace ofc := of.cell
                replace off := of.thaw
                replace ofz := of.lt
                replace og : Own u9 (w.heap.size + 1) #[.int .i64 t0, .int .i64 t1, .int .i64 t2] := Own.below (by repeat' (first | ((refine Own.new ?_); (focus (first | rfl | omega | (simp; done) | (simp; omega)))) | assumption | refine Own.alloc ?_ _ | refine Own.drew ?_ | (refine Own.far ?_ ?_ _; rotate_left; (focus (first | rfl | omega | (simp; done) | (simp; omega)))))) hbx
                replace ogc := og.cell
                replace ogf := og.thaw
                replace ogz := og.lt
                replace oo : Own u9 (oob) #[.int .i64 c0, .int .i64 c1, .int .i64 c2, .int .i64 cn0, .int .i64 cn1, .int .i64 cn2, .int .i64 M, .int .i64 D] := Own.below (by repeat' (first | ((refine Own.new ?_); (focus (first | rfl | omega | (simp; done) | (simp; omega)))) | assumption | refine Own.alloc ?_ _ | refine Own.drew ?_ | (refine Own.far ?_ ?_ _; rotate_left; (focus (first | rfl | omega | (simp; done) | (simp; omega)))))) hbx
                replace ooc := oo.cell
                replace oof := oo.thaw
                replace ooz := oo.lt
                replace hw : Below w.heap.size w u9 := Below.hop (by repeat' (first | exact Below.refl _ _ | assumption | (refine Below.alloc ?_ ?_ _; rotate_left; (focus (first | rfl | omega | (simp; done) | (simp; omega)))) | (refine Below.setCell ?_ ?_ _; rotate_left; (focus (first | rfl | omega | (simp; done) | (simp; omega)))) | refine Below.drew ?_)) hbx
                replace hz := hw.size
                clear hbx
                go_wp2_with fail
                refine Calls.mono (callv (contact_Has _ _ _ _ _ _ _ _ _ _ _ _) H10.out) ?_
                rintro e u10 ⟨rfl, hbx⟩
                replace om : Own u10 (w.heap.size + 1 + 1) #[.int .u8 u0, .int .u8 u1] := Own.below (by repeat' (first | ((refine Own.new ?_); (focus (first | rfl | omega | (simp; done) | (simp; omega)))) | assumption | refine Own.alloc ?_ _ | refine Own.drew ?_ | (refine Own.far ?_ ?_ _; rotate_left; (focus (first | rfl | omega | (simp; done) | (simp; omega)))))) hbx
                replace omc := om.cell
                replace omf := om.thaw
                replace omz := om.lt
                replace oc : Own u10 (cb) #[.int .i64 c0, .int .i64 c1, .int .i64 c2, .int .i64 cn0, .int .i64 cn1, .int .i64 cn2, .int .i64 cm, .int .i64 cd] := Own.below (by repeat' (first | ((refine Own.new ?_); (focus (first | rfl | omega | (simp; done) | (simp; omega)))) | assumption | refine Own.alloc ?_ _ | refine Own.drew ?_ | (refine Own.far ?_ ?_ _; rotate_left; (focus (first | rfl | omega | (simp; done) | (simp; omega)))))) hbx
                replace occ := oc.cell
                replace ocf := oc.thaw
                replace ocz := oc.lt
                replace of : Own u10 (w.heap.size) #[.int .i64 s0, .int .i64 s1, .int .i64 s2] := Own.below (by repeat' (first | ((refine Own.new ?_); (focus (first | rfl | omega | (simp; done) | (simp; omega)))) | assumption | refine Own.alloc ?_ _ | refine Own.drew ?_ | (refine Own.far ?_ ?_ _; rotate_left; (focus (first | rfl | omega | (simp; done) | (simp; omega)))))) hbx
                replace ofc := of.cell
                replace off := of.thaw
                replace ofz := of.lt
                replace og : Own u10 (w.heap.size + 1) #[.int .i64 t0, .int .i64 t1, .int .i64 t2] := Own.below (by repeat' (first | ((refine Own.new ?_); (focus (first | rfl | omega | (simp; done) | (simp; omega)))) | assumption | refine Own.alloc ?_ _ | refine Own.drew ?_ | (refine Own.far ?_ ?_ _; rotate_left; (focus (first | rfl | omega | (simp; done) | (simp; omega)))))) hbx
                replace ogc := og.cell
                replace ogf := og.thaw
                replace ogz := og.lt
                replace oo : Own u10 (oob) #[.int .i64 c0, .int .i64 c1, .int .i64 c2, .int .i64 cn0, .int .i64 cn1, .int .i64 cn2, .int .i64 M, .int .i64 D] := Own.below (by repeat' (first | ((refine Own.new ?_); (focus (first | rfl | omega | (simp; done) | (simp; omega)))) | assumption | refine Own.alloc ?_ _ | refine Own.drew ?_ | (refine Own.far ?_ ?_ _; rotate_left; (focus (first | rfl | omega | (simp; done) | (simp; omega)))))) hbx
                replace ooc := oo.cell
                replace oof := oo.thaw
                replace ooz := oo.lt
                replace hw : Below w.heap.size w u10 := Below.hop (by repeat' (first | exact Below.refl _ _ | assumption | (refine Below.alloc ?_ ?_ _; rotate_left; (focus (first | rfl | omega | (simp; done) | (simp; omega)))) | (refine Below.setCell ?_ ?_ _; rotate_left; (focus (first | rfl | omega | (simp; done) | (simp; omega)))) | refine Below.drew ?_)) hbx
                replace hz := hw.size
                clear hbx
                go_wp2
                go_ret
                exact ⟨rfl, hw⟩
              · skip
                go_wp2_with fail
                refine Calls.mono (callv (contact_Check _ _ _ _ _ _ _ _ _) H9.out) ?_
                rintro e u9 ⟨rfl, hbx⟩
                replace om : Own u9 (w.heap.size + 1 + 1) #[.int .u8 u0, .int .u8 u1] := Own.below (by repeat' (first | ((refine Own.new ?_); (focus (first | rfl | omega | (simp; done) | (simp; omega)))) | assumption | refine Own.alloc ?_ _ | refine Own.drew ?_ | (refine Own.far ?_ ?_ _; rotate_left; (focus (first | rfl | omega | (simp; done) | (simp; omega)))))) hbx
                replace omc := om.cell
                replace omf := om.thaw
                replace omz := om.lt
                replace oc : Own u9 (cb) #[.int .i64 c0, .int .i64 c1, .int .i64 c2, .int .i64 cn0, .int .i64 cn1, .int .i64 cn2, .int .i64 cm, .int .i64 cd] := Own.below (by repeat' (first | ((refine Own.new ?_); (focus (first | rfl | omega | (simp; done) | (simp; omega)))) | assumption | refine Own.alloc ?_ _ | refine Own.drew ?_ | (refine Own.far ?_ ?_ _; rotate_left; (focus (first | rfl | omega | (simp; done) | (simp; omega)))))) hbx
                replace occ := oc.cell
                replace ocf := oc.thaw
                replace ocz := oc.lt
                replace of : Own u9 (w.heap.size) #[.int .i64 s0, .int .i64 s1, .int .i64 s2] := Own.below (by repeat' (first | ((refine Own.new ?_); (focus (first | rfl | omega | (simp; done) | (simp; omega)))) | assumption | refine Own.alloc ?_ _ | refine Own.drew ?_ | (refine Own.far ?_ ?_ _; rotate_left; (focus (first | rfl | omega | (simp; done) | (simp; omega)))))) hbx
                replace ofc := of.cell
                replace off := of.thaw
                replace ofz := of.lt
                replace og : Own u9 (w.heap.size + 1) #[.int .i64 t0, .int .i64 t1, .int .i64 t2] := Own.below (by repeat' (first | ((refine Own.new ?_); (focus (first | rfl | omega | (simp; done) | (simp; omega)))) | assumption | refine Own.alloc ?_ _ | refine Own.drew ?_ | (refine Own.far ?_ ?_ _; rotate_left; (focus (first | rfl | omega | (simp; done) | (simp; omega)))))) hbx
                replace ogc := og.cell
                replace ogf := og.thaw
                replace ogz := og.lt
                replace oo : Own u9 (oob) #[.int .i64 c0, .int .i64 c1, .int .i64 c2, .int .i64 cn0, .int .i64 cn1, .int .i64 cn2, .int .i64 M, .int .i64 D] := Own.below (by repeat' (first | ((refine Own.new ?_); (focus (first | rfl | omega | (simp; done) | (simp; omega)))) | assumption | refine Own.alloc ?_ _ | refine Own.drew ?_ | (refine Own.far ?_ ?_ _; rotate_left; (focus (first | rfl | omega | (simp; done) | (simp; omega)))))) hbx
                replace ooc := oo.cell
                replace oof := oo.thaw
                replace ooz := oo.lt
                replace hw : Below w.heap.size w u9 := Below.hop (by repeat' (first | exact Below.refl _ _ | assumption | (refine Below.alloc ?_ ?_ _; rotate_left; (focus (first | rfl | omega | (simp; done) | (simp; omega)))) | (refine Below.setCell ?_ ?_ _; rotate_left; (focus (first | rfl | omega | (simp; done) | (simp; omega)))) | refine Below.drew ?_)) hbx
                replace hz := hw.size
                clear hbx
                go_wp2_with fail
                refine Calls.mono (callv (contact_Has _ _ _ _ _ _ _ _ _ _ _ _) H10.out) ?_
                rintro e u10 ⟨rfl, hbx⟩
                replace om : Own u10 (w.heap.size + 1 + 1) #[.int .u8 u0, .int .u8 u1] := Own.below (by repeat' (first | ((refine Own.new ?_); (focus (first | rfl | omega | (simp; done) | (simp; omega)))) | assumption | refine Own.alloc ?_ _ | refine Own.drew ?_ | (refine Own.far ?_ ?_ _; rotate_left; (focus (first | rfl | omega | (simp; done) | (simp; omega)))))) hbx
                replace omc := om.cell
                replace omf := om.thaw
                replace omz := om.lt
                replace oc : Own u10 (cb) #[.int .i64 c0, .int .i64 c1, .int .i64 c2, .int .i64 cn0, .int .i64 cn1, .int .i64 cn2, .int .i64 cm, .int .i64 cd] := Own.below (by repeat' (first | ((refine Own.new ?_); (focus (first | rfl | omega | (simp; done) | (simp; omega)))) | assumption | refine Own.alloc ?_ _ | refine Own.drew ?_ | (refine Own.far ?_ ?_ _; rotate_left; (focus (first | rfl | omega | (simp; done) | (simp; omega)))))) hbx
                replace occ := oc.cell
                replace ocf := oc.thaw
                replace ocz := oc.lt
                replace of : Own u10 (w.heap.size) #[.int .i64 s0, .int .i64 s1, .int .i64 s2] := Own.below (by repeat' (first | ((refine Own.new ?_); (focus (first | rfl | omega | (simp; done) | (simp; omega)))) | assumption | refine Own.alloc ?_ _ | refine Own.drew ?_ | (refine Own.far ?_ ?_ _; rotate_left; (focus (first | rfl | omega | (simp; done) | (simp; omega)))))) hbx
                replace ofc := of.cell
                replace off := of.thaw
                replace ofz := of.lt
                replace og : Own u10 (w.heap.size + 1) #[.int .i64 t0, .int .i64 t1, .int .i64 t2] := Own.below (by repeat' (first | ((refine Own.new ?_); (focus (first | rfl | omega | (simp; done) | (simp; omega)))) | assumption | refine Own.alloc ?_ _ | refine Own.drew ?_ | (refine Own.far ?_ ?_ _; rotate_left; (focus (first | rfl | omega | (simp; done) | (simp; omega)))))) hbx
                replace ogc := og.cell
                replace ogf := og.thaw
                replace ogz := og.lt
                replace oo : Own u10 (oob) #[.int .i64 c0, .int .i64 c1, .int .i64 c2, .int .i64 cn0, .int .i64 cn1, .int .i64 cn2, .int .i64 M, .int .i64 D] := Own.below (by repeat' (first | ((refine Own.new ?_); (focus (first | rfl | omega | (simp; done) | (simp; omega)))) | assumption | refine Own.alloc ?_ _ | refine Own.drew ?_ | (refine Own.far ?_ ?_ _; rotate_left; (focus (first | rfl | omega | (simp; done) | (simp; omega)))))) hbx
                replace ooc := oo.cell
                replace oof := oo.thaw
                replace ooz := oo.lt
                replace hw : Below w.heap.size w u10 := Below.hop (by repeat' (first | exact Below.refl _ _ | assumption | (refine Below.alloc ?_ ?_ _; rotate_left; (focus (first | rfl | omega | (simp; done) | (simp; omega)))) | (refine Below.setCell ?_ ?_ _; rotate_left; (focus (first | rfl | omega | (simp; done) | (simp; omega)))) | refine Below.drew ?_)) hbx
                replace hz := hw.size
                clear hbx
                go_wp2
                go_ret
                exact ⟨rfl, hw⟩
      · skip
        have HP := Lib.hid (congrArg Value.bool (HAB.out rfl rfl))
        refine region_late 22 [] (by kernel_rfl) (by kernel_rfl) (by rfl) ?_
        apply Exists.intro
        refine ⟨fun v hv hne => ?_, fun u7 hu => ?_⟩
        · simp only [List.take_succ_cons, List.take_zero]
          have dom := fun x => (om.later (v := v) (T := []) (by first | (simp; done) | (simp; omega)) x).cell
          have doc := fun x => (oc.later (v := v) (T := []) (by first | (simp; done) | (simp; omega)) x).cell
          have dof := fun x => (of.later (v := v) (T := []) (by first | (simp; done) | (simp; omega)) x).cell
          have dog := fun x => (og.later (v := v) (T := []) (by first | (simp; done) | (simp; omega)) x).cell
          repeat (go_big_quiet_step ((first | (go_at_call 64; with_reducible exact lateB (callv (law25_sum _ _ _ _ _ _ _ _) H6.out)) | (go_at_call 59; with_reducible exact lateB (callv (contact_Has _ _ _ _ _ _ _ _ _ _ _ _) H8.out)) | (go_at_call 27; with_reducible exact lateB (callv (plane_Add _ _ _ _ _ _ _) H5.out)) | (go_at_call 59; with_reducible exact lateB (callv (contact_Has _ _ _ _ _ _ _ _ _ _ _ _) HP.out)))))
          refine wpQuiet_nil ?_
          exact rfl
        · simp only [List.drop_succ_cons, List.drop_zero]
          replace om := om.below hu
          replace oc := oc.below hu
          replace of := of.below hu
          replace og := og.below hu
          replace hw := Below.hop hw hu
          replace hz := hw.size
          clear hu
          refine late_nil ?_
          (try simp only [Act.put, List.setIfInBounds_toArray, List.set_cons_zero, List.set_cons_succ])
          have omc := om.cell
          have omf := om.thaw
          have omz := om.lt
          have occ := oc.cell
          have ocf := oc.thaw
          have ocz := oc.lt
          have ofc := of.cell
          have off := of.thaw
          have ofz := of.lt
          have ogc := og.cell
          have ogf := og.thaw
          have ogz := og.lt
          go_wp2
          have hD1 : 1 ≤ 1 + u0 % 10 := by omega
          have hD2 : 1 + u0 % 10 ≤ 10 := by omega
          have hM1 := Int.emod_nonneg u1 (show 1 + u0 % 10 + 1 ≠ 0 by omega)
          have hM2 := Int.emod_lt_of_pos u1 (show 0 < 1 + u0 % 10 + 1 by omega)
          have hq3 : u1.tmod (1 + u0 % 10 + 1) = u1 % (1 + u0 % 10 + 1) := Int.tmod_eq_emod_of_nonneg hva
          clear hua hub hu0
          generalize 1 + u0 % 10 = D at *
          generalize u1 % (D + 1) = M at *
          have hq1 : IntKind.i64.wrap (D + 1) = D + 1 := IntWalk.i64_in _ (by omega)
          have hq2 : ¬ (D + 1 = 0) := by omega
          have hq4 : IntKind.i64.wrap M = M := IntWalk.i64_in _ (by omega)
          refine region_late 9 [] (by kernel_rfl) (by kernel_rfl) (by rfl) ?_
          apply Exists.intro
          refine ⟨fun v hv hne => ?_, fun u hu => ?_⟩
          · simp only [List.take_succ_cons, List.take_zero]
            have dom := fun x => (om.later (v := v) (T := []) (by first | (simp; done) | (simp; omega)) x).cell
            have doc := fun x => (oc.later (v := v) (T := []) (by first | (simp; done) | (simp; omega)) x).cell
            have dof := fun x => (of.later (v := v) (T := []) (by first | (simp; done) | (simp; omega)) x).cell
            have dog := fun x => (og.later (v := v) (T := []) (by first | (simp; done) | (simp; omega)) x).cell
            repeat (go_big_quiet_step ((first | (go_at_call 66; with_reducible exact lateB (law25_with _ _ _ _ _ _ _ _ _ _ _)))))
            refine wpQuiet_nil ?_
            exact rfl
          · simp only [List.drop_succ_cons, List.drop_zero]
            skip
            refine late_mem (fun K hK => ?_)
            go_simp
            refine hK _ _ ((Keeps.of_below hu).alloc _) (fun u82 hu2 => ?_)
            clear hK K
            have hk2 : Keeps [] u7 u82 := ((Keeps.of_below (T := []) hu).alloc _).later hu2
            have oo : Own u82 u.heap.size #[.int .i64 0, .int .i64 0, .int .i64 0, .int .i64 0, .int .i64 0, .int .i64 0, .int .i64 0, .int .i64 0] := Own.below (Own.new rfl) hu2
            have ooc := oo.cell
            have oof := oo.thaw
            have oog : u7.heap.size ≤ u.heap.size := hu.size
            replace hw := Below.hop ((Below.hop hw hu).alloc (by have := hw.size; have := hu.size; omega) _) hu2
            have hwz := hw.size
            have ooy : w.heap.size ≤ u.heap.size := by omega
            refine late_mem (fun K hK => ?_)
            go_simp
            refine hK _ _ ((((((((hk2.new oog _).new oog _).new oog _).new oog _).new oog _).new oog _).new oog _).new oog _) (fun u83 hu3 => ?_)
            clear hK K
            have hk3 : Keeps [] u7 u83 := ((((((((hk2.new oog _).new oog _).new oog _).new oog _).new oog _).new oog _).new oog _).new oog _).later hu3
            replace oo : Own u83 u.heap.size #[.int .i64 c0, .int .i64 c1, .int .i64 c2, .int .i64 cn0, .int .i64 cn1, .int .i64 cn2, .int .i64 M, .int .i64 D] := ((((((((oo.set 0 _).set 1 _).set 2 _).set 3 _).set 4 _).set 5 _).set 6 _).set 7 _).below hu3
            replace hw := Below.hop ((((((((hw.setCell ooy _).setCell ooy _).setCell ooy _).setCell ooy _).setCell ooy _).setCell ooy _).setCell ooy _).setCell ooy _) hu3
            clear ooc oof hk2
            replace om : Own u83 (w.heap.size + 1 + 1) #[.int .u8 u0, .int .u8 u1] := om.keeps hk3 (by simp)
            replace oc : Own u83 (cb) #[.int .i64 c0, .int .i64 c1, .int .i64 c2, .int .i64 cn0, .int .i64 cn1, .int .i64 cn2, .int .i64 cm, .int .i64 cd] := oc.keeps hk3 (by simp)
            replace of : Own u83 (w.heap.size) #[.int .i64 s0, .int .i64 s1, .int .i64 s2] := of.keeps hk3 (by simp)
            replace og : Own u83 (w.heap.size + 1) #[.int .i64 t0, .int .i64 t1, .int .i64 t2] := og.keeps hk3 (by simp)
            refine late_nil ?_
            (try simp only [Act.put, List.setIfInBounds_toArray, List.set_cons_zero, List.set_cons_succ])
            clear hk3 hu hu2 hu3 hwz
            generalize u.heap.size = oob at *
            replace hz := hw.size
            clear u
            replace omc := om.cell
            replace omf := om.thaw
            replace omz := om.lt
            replace occ := oc.cell
            replace ocf := oc.thaw
            replace ocz := oc.lt
            replace ofc := of.cell
            replace off := of.thaw
            replace ofz := of.lt
            replace ogc := og.cell
            replace ogf := og.thaw
            replace ogz := og.lt
            replace ooc := oo.cell
            replace oof := oo.thaw
            replace ooz := oo.lt
            clear hq1 hq2 hq3 hq4
            by_cases hmore : wrap64 (cm * D) ≤ wrap64 (M * cd)
            · skip
              cases d
              · skip
                have hz1 := HM1.out.1 (by rw [← H12.out, ← H11.out]; exact hmore)
                simp at hz1
              · skip
                go_wp2_with fail
                refine Calls.mono (callv (contact_Check _ _ _ _ _ _ _ _ _) H9.out) ?_
                rintro e u9 ⟨rfl, hbx⟩
                replace om : Own u9 (w.heap.size + 1 + 1) #[.int .u8 u0, .int .u8 u1] := Own.below (by repeat' (first | ((refine Own.new ?_); (focus (first | rfl | omega | (simp; done) | (simp; omega)))) | assumption | refine Own.alloc ?_ _ | refine Own.drew ?_ | (refine Own.far ?_ ?_ _; rotate_left; (focus (first | rfl | omega | (simp; done) | (simp; omega)))))) hbx
                replace omc := om.cell
                replace omf := om.thaw
                replace omz := om.lt
                replace oc : Own u9 (cb) #[.int .i64 c0, .int .i64 c1, .int .i64 c2, .int .i64 cn0, .int .i64 cn1, .int .i64 cn2, .int .i64 cm, .int .i64 cd] := Own.below (by repeat' (first | ((refine Own.new ?_); (focus (first | rfl | omega | (simp; done) | (simp; omega)))) | assumption | refine Own.alloc ?_ _ | refine Own.drew ?_ | (refine Own.far ?_ ?_ _; rotate_left; (focus (first | rfl | omega | (simp; done) | (simp; omega)))))) hbx
                replace occ := oc.cell
                replace ocf := oc.thaw
                replace ocz := oc.lt
                replace of : Own u9 (w.heap.size) #[.int .i64 s0, .int .i64 s1, .int .i64 s2] := Own.below (by repeat' (first | ((refine Own.new ?_); (focus (first | rfl | omega | (simp; done) | (simp; omega)))) | assumption | refine Own.alloc ?_ _ | refine Own.drew ?_ | (refine Own.far ?_ ?_ _; rotate_left; (focus (first | rfl | omega | (simp; done) | (simp; omega)))))) hbx
                replace ofc := of.cell
                replace off := of.thaw
                replace ofz := of.lt
                replace og : Own u9 (w.heap.size + 1) #[.int .i64 t0, .int .i64 t1, .int .i64 t2] := Own.below (by repeat' (first | ((refine Own.new ?_); (focus (first | rfl | omega | (simp; done) | (simp; omega)))) | assumption | refine Own.alloc ?_ _ | refine Own.drew ?_ | (refine Own.far ?_ ?_ _; rotate_left; (focus (first | rfl | omega | (simp; done) | (simp; omega)))))) hbx
                replace ogc := og.cell
                replace ogf := og.thaw
                replace ogz := og.lt
                replace oo : Own u9 (oob) #[.int .i64 c0, .int .i64 c1, .int .i64 c2, .int .i64 cn0, .int .i64 cn1, .int .i64 cn2, .int .i64 M, .int .i64 D] := Own.below (by repeat' (first | ((refine Own.new ?_); (focus (first | rfl | omega | (simp; done) | (simp; omega)))) | assumption | refine Own.alloc ?_ _ | refine Own.drew ?_ | (refine Own.far ?_ ?_ _; rotate_left; (focus (first | rfl | omega | (simp; done) | (simp; omega)))))) hbx
                replace ooc := oo.cell
                replace oof := oo.thaw
                replace ooz := oo.lt
                replace hw : Below w.heap.size w u9 := Below.hop (by repeat' (first | exact Below.refl _ _ | assumption | (refine Below.alloc ?_ ?_ _; rotate_left; (focus (first | rfl | omega | (simp; done) | (simp; omega)))) | (refine Below.setCell ?_ ?_ _; rotate_left; (focus (first | rfl | omega | (simp; done) | (simp; omega)))) | refine Below.drew ?_)) hbx
                replace hz := hw.size
                clear hbx
                go_wp2_with fail
                refine Calls.mono (callv (contact_Has _ _ _ _ _ _ _ _ _ _ _ _) H10.out) ?_
                rintro e u10 ⟨rfl, hbx⟩
                replace om : Own u10 (w.heap.size + 1 + 1) #[.int .u8 u0, .int .u8 u1] := Own.below (by repeat' (first | ((refine Own.new ?_); (focus (first | rfl | omega | (simp; done) | (simp; omega)))) | assumption | refine Own.alloc ?_ _ | refine Own.drew ?_ | (refine Own.far ?_ ?_ _; rotate_left; (focus (first | rfl | omega | (simp; done) | (simp; omega)))))) hbx
                replace omc := om.cell
                replace omf := om.thaw
                replace omz := om.lt
                replace oc : Own u10 (cb) #[.int .i64 c0, .int .i64 c1, .int .i64 c2, .int .i64 cn0, .int .i64 cn1, .int .i64 cn2, .int .i64 cm, .int .i64 cd] := Own.below (by repeat' (first | ((refine Own.new ?_); (focus (first | rfl | omega | (simp; done) | (simp; omega)))) | assumption | refine Own.alloc ?_ _ | refine Own.drew ?_ | (refine Own.far ?_ ?_ _; rotate_left; (focus (first | rfl | omega | (simp; done) | (simp; omega)))))) hbx
                replace occ := oc.cell
                replace ocf := oc.thaw
                replace ocz := oc.lt
                replace of : Own u10 (w.heap.size) #[.int .i64 s0, .int .i64 s1, .int .i64 s2] := Own.below (by repeat' (first | ((refine Own.new ?_); (focus (first | rfl | omega | (simp; done) | (simp; omega)))) | assumption | refine Own.alloc ?_ _ | refine Own.drew ?_ | (refine Own.far ?_ ?_ _; rotate_left; (focus (first | rfl | omega | (simp; done) | (simp; omega)))))) hbx
                replace ofc := of.cell
                replace off := of.thaw
                replace ofz := of.lt
                replace og : Own u10 (w.heap.size + 1) #[.int .i64 t0, .int .i64 t1, .int .i64 t2] := Own.below (by repeat' (first | ((refine Own.new ?_); (focus (first | rfl | omega | (simp; done) | (simp; omega)))) | assumption | refine Own.alloc ?_ _ | refine Own.drew ?_ | (refine Own.far ?_ ?_ _; rotate_left; (focus (first | rfl | omega | (simp; done) | (simp; omega)))))) hbx
                replace ogc := og.cell
                replace ogf := og.thaw
                replace ogz := og.lt
                replace oo : Own u10 (oob) #[.int .i64 c0, .int .i64 c1, .int .i64 c2, .int .i64 cn0, .int .i64 cn1, .int .i64 cn2, .int .i64 M, .int .i64 D] := Own.below (by repeat' (first | ((refine Own.new ?_); (focus (first | rfl | omega | (simp; done) | (simp; omega)))) | assumption | refine Own.alloc ?_ _ | refine Own.drew ?_ | (refine Own.far ?_ ?_ _; rotate_left; (focus (first | rfl | omega | (simp; done) | (simp; omega)))))) hbx
                replace ooc := oo.cell
                replace oof := oo.thaw
                replace ooz := oo.lt
                replace hw : Below w.heap.size w u10 := Below.hop (by repeat' (first | exact Below.refl _ _ | assumption | (refine Below.alloc ?_ ?_ _; rotate_left; (focus (first | rfl | omega | (simp; done) | (simp; omega)))) | (refine Below.setCell ?_ ?_ _; rotate_left; (focus (first | rfl | omega | (simp; done) | (simp; omega)))) | refine Below.drew ?_)) hbx
                replace hz := hw.size
                clear hbx
                go_wp2
                go_ret
                exact ⟨rfl, hw⟩
            · skip
              cases d
              · skip
                go_wp2_with fail
                refine Calls.mono (callv (contact_Check _ _ _ _ _ _ _ _ _) H9.out) ?_
                rintro e u9 ⟨rfl, hbx⟩
                replace om : Own u9 (w.heap.size + 1 + 1) #[.int .u8 u0, .int .u8 u1] := Own.below (by repeat' (first | ((refine Own.new ?_); (focus (first | rfl | omega | (simp; done) | (simp; omega)))) | assumption | refine Own.alloc ?_ _ | refine Own.drew ?_ | (refine Own.far ?_ ?_ _; rotate_left; (focus (first | rfl | omega | (simp; done) | (simp; omega)))))) hbx
                replace omc := om.cell
                replace omf := om.thaw
                replace omz := om.lt
                replace oc : Own u9 (cb) #[.int .i64 c0, .int .i64 c1, .int .i64 c2, .int .i64 cn0, .int .i64 cn1, .int .i64 cn2, .int .i64 cm, .int .i64 cd] := Own.below (by repeat' (first | ((refine Own.new ?_); (focus (first | rfl | omega | (simp; done) | (simp; omega)))) | assumption | refine Own.alloc ?_ _ | refine Own.drew ?_ | (refine Own.far ?_ ?_ _; rotate_left; (focus (first | rfl | omega | (simp; done) | (simp; omega)))))) hbx
                replace occ := oc.cell
                replace ocf := oc.thaw
                replace ocz := oc.lt
                replace of : Own u9 (w.heap.size) #[.int .i64 s0, .int .i64 s1, .int .i64 s2] := Own.below (by repeat' (first | ((refine Own.new ?_); (focus (first | rfl | omega | (simp; done) | (simp; omega)))) | assumption | refine Own.alloc ?_ _ | refine Own.drew ?_ | (refine Own.far ?_ ?_ _; rotate_left; (focus (first | rfl | omega | (simp; done) | (simp; omega)))))) hbx
                replace ofc := of.cell
                replace off := of.thaw
                replace ofz := of.lt
                replace og : Own u9 (w.heap.size + 1) #[.int .i64 t0, .int .i64 t1, .int .i64 t2] := Own.below (by repeat' (first | ((refine Own.new ?_); (focus (first | rfl | omega | (simp; done) | (simp; omega)))) | assumption | refine Own.alloc ?_ _ | refine Own.drew ?_ | (refine Own.far ?_ ?_ _; rotate_left; (focus (first | rfl | omega | (simp; done) | (simp; omega)))))) hbx
                replace ogc := og.cell
                replace ogf := og.thaw
                replace ogz := og.lt
                replace oo : Own u9 (oob) #[.int .i64 c0, .int .i64 c1, .int .i64 c2, .int .i64 cn0, .int .i64 cn1, .int .i64 cn2, .int .i64 M, .int .i64 D] := Own.below (by repeat' (first | ((refine Own.new ?_); (focus (first | rfl | omega | (simp; done) | (simp; omega)))) | assumption | refine Own.alloc ?_ _ | refine Own.drew ?_ | (refine Own.far ?_ ?_ _; rotate_left; (focus (first | rfl | omega | (simp; done) | (simp; omega)))))) hbx
                replace ooc := oo.cell
                replace oof := oo.thaw
                replace ooz := oo.lt
                replace hw : Below w.heap.size w u9 := Below.hop (by repeat' (first | exact Below.refl _ _ | assumption | (refine Below.alloc ?_ ?_ _; rotate_left; (focus (first | rfl | omega | (simp; done) | (simp; omega)))) | (refine Below.setCell ?_ ?_ _; rotate_left; (focus (first | rfl | omega | (simp; done) | (simp; omega)))) | refine Below.drew ?_)) hbx
                replace hz := hw.size
                clear hbx
                go_wp2_with fail
                refine Calls.mono (callv (contact_Has _ _ _ _ _ _ _ _ _ _ _ _) H10.out) ?_
                rintro e u10 ⟨rfl, hbx⟩
                replace om : Own u10 (w.heap.size + 1 + 1) #[.int .u8 u0, .int .u8 u1] := Own.below (by repeat' (first | ((refine Own.new ?_); (focus (first | rfl | omega | (simp; done) | (simp; omega)))) | assumption | refine Own.alloc ?_ _ | refine Own.drew ?_ | (refine Own.far ?_ ?_ _; rotate_left; (focus (first | rfl | omega | (simp; done) | (simp; omega)))))) hbx
                replace omc := om.cell
                replace omf := om.thaw
                replace omz := om.lt
                replace oc : Own u10 (cb) #[.int .i64 c0, .int .i64 c1, .int .i64 c2, .int .i64 cn0, .int .i64 cn1, .int .i64 cn2, .int .i64 cm, .int .i64 cd] := Own.below (by repeat' (first | ((refine Own.new ?_); (focus (first | rfl | omega | (simp; done) | (simp; omega)))) | assumption | refine Own.alloc ?_ _ | refine Own.drew ?_ | (refine Own.far ?_ ?_ _; rotate_left; (focus (first | rfl | omega | (simp; done) | (simp; omega)))))) hbx
                replace occ := oc.cell
                replace ocf := oc.thaw
                replace ocz := oc.lt
                replace of : Own u10 (w.heap.size) #[.int .i64 s0, .int .i64 s1, .int .i64 s2] := Own.below (by repeat' (first | ((refine Own.new ?_); (focus (first | rfl | omega | (simp; done) | (simp; omega)))) | assumption | refine Own.alloc ?_ _ | refine Own.drew ?_ | (refine Own.far ?_ ?_ _; rotate_left; (focus (first | rfl | omega | (simp; done) | (simp; omega)))))) hbx
                replace ofc := of.cell
                replace off := of.thaw
                replace ofz := of.lt
                replace og : Own u10 (w.heap.size + 1) #[.int .i64 t0, .int .i64 t1, .int .i64 t2] := Own.below (by repeat' (first | ((refine Own.new ?_); (focus (first | rfl | omega | (simp; done) | (simp; omega)))) | assumption | refine Own.alloc ?_ _ | refine Own.drew ?_ | (refine Own.far ?_ ?_ _; rotate_left; (focus (first | rfl | omega | (simp; done) | (simp; omega)))))) hbx
                replace ogc := og.cell
                replace ogf := og.thaw
                replace ogz := og.lt
                replace oo : Own u10 (oob) #[.int .i64 c0, .int .i64 c1, .int .i64 c2, .int .i64 cn0, .int .i64 cn1, .int .i64 cn2, .int .i64 M, .int .i64 D] := Own.below (by repeat' (first | ((refine Own.new ?_); (focus (first | rfl | omega | (simp; done) | (simp; omega)))) | assumption | refine Own.alloc ?_ _ | refine Own.drew ?_ | (refine Own.far ?_ ?_ _; rotate_left; (focus (first | rfl | omega | (simp; done) | (simp; omega)))))) hbx
                replace ooc := oo.cell
                replace oof := oo.thaw
                replace ooz := oo.lt
                replace hw : Below w.heap.size w u10 := Below.hop (by repeat' (first | exact Below.refl _ _ | assumption | (refine Below.alloc ?_ ?_ _; rotate_left; (focus (first | rfl | omega | (simp; done) | (simp; omega)))) | (refine Below.setCell ?_ ?_ _; rotate_left; (focus (first | rfl | omega | (simp; done) | (simp; omega)))) | refine Below.drew ?_)) hbx
                replace hz := hw.size
                clear hbx
                go_wp2
                go_ret
                exact ⟨rfl, hw⟩
              · skip
                go_wp2_with fail
                refine Calls.mono (callv (contact_Check _ _ _ _ _ _ _ _ _) H9.out) ?_
                rintro e u9 ⟨rfl, hbx⟩
                replace om : Own u9 (w.heap.size + 1 + 1) #[.int .u8 u0, .int .u8 u1] := Own.below (by repeat' (first | ((refine Own.new ?_); (focus (first | rfl | omega | (simp; done) | (simp; omega)))) | assumption | refine Own.alloc ?_ _ | refine Own.drew ?_ | (refine Own.far ?_ ?_ _; rotate_left; (focus (first | rfl | omega | (simp; done) | (simp; omega)))))) hbx
                replace omc := om.cell
                replace omf := om.thaw
                replace omz := om.lt
                replace oc : Own u9 (cb) #[.int .i64 c0, .int .i64 c1, .int .i64 c2, .int .i64 cn0, .int .i64 cn1, .int .i64 cn2, .int .i64 cm, .int .i64 cd] := Own.below (by repeat' (first | ((refine Own.new ?_); (focus (first | rfl | omega | (simp; done) | (simp; omega)))) | assumption | refine Own.alloc ?_ _ | refine Own.drew ?_ | (refine Own.far ?_ ?_ _; rotate_left; (focus (first | rfl | omega | (simp; done) | (simp; omega)))))) hbx
                replace occ := oc.cell
                replace ocf := oc.thaw
                replace ocz := oc.lt
                replace of : Own u9 (w.heap.size) #[.int .i64 s0, .int .i64 s1, .int .i64 s2] := Own.below (by repeat' (first | ((refine Own.new ?_); (focus (first | rfl | omega | (simp; done) | (simp; omega)))) | assumption | refine Own.alloc ?_ _ | refine Own.drew ?_ | (refine Own.far ?_ ?_ _; rotate_left; (focus (first | rfl | omega | (simp; done) | (simp; omega)))))) hbx
                replace ofc := of.cell
                replace off := of.thaw
                replace ofz := of.lt
                replace og : Own u9 (w.heap.size + 1) #[.int .i64 t0, .int .i64 t1, .int .i64 t2] := Own.below (by repeat' (first | ((refine Own.new ?_); (focus (first | rfl | omega | (simp; done) | (simp; omega)))) | assumption | refine Own.alloc ?_ _ | refine Own.drew ?_ | (refine Own.far ?_ ?_ _; rotate_left; (focus (first | rfl | omega | (simp; done) | (simp; omega)))))) hbx
                replace ogc := og.cell
                replace ogf := og.thaw
                replace ogz := og.lt
                replace oo : Own u9 (oob) #[.int .i64 c0, .int .i64 c1, .int .i64 c2, .int .i64 cn0, .int .i64 cn1, .int .i64 cn2, .int .i64 M, .int .i64 D] := Own.below (by repeat' (first | ((refine Own.new ?_); (focus (first | rfl | omega | (simp; done) | (simp; omega)))) | assumption | refine Own.alloc ?_ _ | refine Own.drew ?_ | (refine Own.far ?_ ?_ _; rotate_left; (focus (first | rfl | omega | (simp; done) | (simp; omega)))))) hbx
                replace ooc := oo.cell
                replace oof := oo.thaw
                replace ooz := oo.lt
                replace hw : Below w.heap.size w u9 := Below.hop (by repeat' (first | exact Below.refl _ _ | assumption | (refine Below.alloc ?_ ?_ _; rotate_left; (focus (first | rfl | omega | (simp; done) | (simp; omega)))) | (refine Below.setCell ?_ ?_ _; rotate_left; (focus (first | rfl | omega | (simp; done) | (simp; omega)))) | refine Below.drew ?_)) hbx
                replace hz := hw.size
                clear hbx
                go_wp2_with fail
                refine Calls.mono (callv (contact_Has _ _ _ _ _ _ _ _ _ _ _ _) H10.out) ?_
                rintro e u10 ⟨rfl, hbx⟩
                replace om : Own u10 (w.heap.size + 1 + 1) #[.int .u8 u0, .int .u8 u1] := Own.below (by repeat' (first | ((refine Own.new ?_); (focus (first | rfl | omega | (simp; done) | (simp; omega)))) | assumption | refine Own.alloc ?_ _ | refine Own.drew ?_ | (refine Own.far ?_ ?_ _; rotate_left; (focus (first | rfl | omega | (simp; done) | (simp; omega)))))) hbx
                replace omc := om.cell
                replace omf := om.thaw
                replace omz := om.lt
                replace oc : Own u10 (cb) #[.int .i64 c0, .int .i64 c1, .int .i64 c2, .int .i64 cn0, .int .i64 cn1, .int .i64 cn2, .int .i64 cm, .int .i64 cd] := Own.below (by repeat' (first | ((refine Own.new ?_); (focus (first | rfl | omega | (simp; done) | (simp; omega)))) | assumption | refine Own.alloc ?_ _ | refine Own.drew ?_ | (refine Own.far ?_ ?_ _; rotate_left; (focus (first | rfl | omega | (simp; done) | (simp; omega)))))) hbx
                replace occ := oc.cell
                replace ocf := oc.thaw
                replace ocz := oc.lt
                replace of : Own u10 (w.heap.size) #[.int .i64 s0, .int .i64 s1, .int .i64 s2] := Own.below (by repeat' (first | ((refine Own.new ?_); (focus (first | rfl | omega | (simp; done) | (simp; omega)))) | assumption | refine Own.alloc ?_ _ | refine Own.drew ?_ | (refine Own.far ?_ ?_ _; rotate_left; (focus (first | rfl | omega | (simp; done) | (simp; omega)))))) hbx
                replace ofc := of.cell
                replace off := of.thaw
                replace ofz := of.lt
                replace og : Own u10 (w.heap.size + 1) #[.int .i64 t0, .int .i64 t1, .int .i64 t2] := Own.below (by repeat' (first | ((refine Own.new ?_); (focus (first | rfl | omega | (simp; done) | (simp; omega)))) | assumption | refine Own.alloc ?_ _ | refine Own.drew ?_ | (refine Own.far ?_ ?_ _; rotate_left; (focus (first | rfl | omega | (simp; done) | (simp; omega)))))) hbx
                replace ogc := og.cell
                replace ogf := og.thaw
                replace ogz := og.lt
                replace oo : Own u10 (oob) #[.int .i64 c0, .int .i64 c1, .int .i64 c2, .int .i64 cn0, .int .i64 cn1, .int .i64 cn2, .int .i64 M, .int .i64 D] := Own.below (by repeat' (first | ((refine Own.new ?_); (focus (first | rfl | omega | (simp; done) | (simp; omega)))) | assumption | refine Own.alloc ?_ _ | refine Own.drew ?_ | (refine Own.far ?_ ?_ _; rotate_left; (focus (first | rfl | omega | (simp; done) | (simp; omega)))))) hbx
                replace ooc := oo.cell
                replace oof := oo.thaw
                replace ooz := oo.lt
                replace hw : Below w.heap.size w u10 := Below.hop (by repeat' (first | exact Below.refl _ _ | assumption | (refine Below.alloc ?_ ?_ _; rotate_left; (focus (first | rfl | omega | (simp; done) | (simp; omega)))) | (refine Below.setCell ?_ ?_ _; rotate_left; (focus (first | rfl | omega | (simp; done) | (simp; omega)))) | refine Below.drew ?_)) hbx
                replace hz := hw.size
                clear hbx
                go_wp2
                go_ret
                exact ⟨rfl, hw⟩
end Go.Proofs.Ythijnggeoinlfaa
