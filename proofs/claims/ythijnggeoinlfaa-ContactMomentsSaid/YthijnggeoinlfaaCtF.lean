/- What Has of the reference of package contact returns. The components are int64. -/
import Derived.Test.YthijnggeoinlfaaCtE
namespace Go.Proofs.Ythijnggeoinlfaa
open Go.RowKit

set_option maxRecDepth 100000 in
set_option maxHeartbeats 4000000 in
theorem ref25_Has_no (a0 a1 a2 n0 n1 n2 mn md f0 f1 f2 : Int) (h : ¬ cCheck ⟨⟨a0, a1, a2⟩, ⟨n0, n1, n2⟩, mn, md⟩ = 0) (w : World) :
    Calls Try.prog 60 #[vC a0 a1 a2 n0 n1 n2 mn md, vV f0 f1 f2] w fun r w' => r = .returned (.bool (cHas ⟨⟨a0, a1, a2⟩, ⟨n0, n1, n2⟩, mn, md⟩ ⟨f0, f1, f2⟩)) ∧ Below w.heap.size w w' := by
  have e : cHas ⟨⟨a0, a1, a2⟩, ⟨n0, n1, n2⟩, mn, md⟩ ⟨f0, f1, f2⟩ = false := by unfold cHas; simp [h]
  rw [e]
  obtain ⟨c, hc⟩ : ∃ c, cCheck ⟨⟨a0, a1, a2⟩, ⟨n0, n1, n2⟩, mn, md⟩ = c := ⟨_, rfl⟩
  rw [hc] at h
  have HC := Lib.hid (congrArg (Value.int IntKind.i64) hc)
  clear hc e
  go_enter Try.func60, Try.ntmps60
  go_wp2_with fail
  refine Calls.mono (callv (ref25_Check a0 a1 a2 n0 n1 n2 mn md _) HC.out) ?_
  rintro e w1 ⟨rfl, hbx⟩
  have oc : Own w1 (w.heap.size) #[.int .i64 a0, .int .i64 a1, .int .i64 a2, .int .i64 n0, .int .i64 n1, .int .i64 n2, .int .i64 mn, .int .i64 md] := Own.below (by repeat' (first | ((refine Own.new ?_); (focus (first | rfl | omega | (simp; done) | (simp; omega)))) | assumption | refine Own.alloc ?_ _ | refine Own.drew ?_ | (refine Own.far ?_ ?_ _; rotate_left; (focus (first | rfl | omega | (simp; done) | (simp; omega)))))) hbx
  have occ := oc.cell
  have ocf := oc.thaw
  have ocz := oc.lt
  have of : Own w1 (w.heap.size + 1) #[.int .i64 f0, .int .i64 f1, .int .i64 f2] := Own.below (by repeat' (first | ((refine Own.new ?_); (focus (first | rfl | omega | (simp; done) | (simp; omega)))) | assumption | refine Own.alloc ?_ _ | refine Own.drew ?_ | (refine Own.far ?_ ?_ _; rotate_left; (focus (first | rfl | omega | (simp; done) | (simp; omega)))))) hbx
  have ofc := of.cell
  have off := of.thaw
  have ofz := of.lt
  have hw : Below w.heap.size w w1 := Below.hop (by repeat' (first | exact Below.refl _ _ | assumption | (refine Below.alloc ?_ ?_ _; rotate_left; (focus (first | rfl | omega | (simp; done) | (simp; omega)))) | (refine Below.setCell ?_ ?_ _; rotate_left; (focus (first | rfl | omega | (simp; done) | (simp; omega)))) | refine Below.drew ?_)) hbx
  have hz := hw.size
  clear hbx
  go_wp2
  go_ret
  exact ⟨rfl, hw⟩
set_option maxRecDepth 100000 in
set_option maxHeartbeats 4000000 in
theorem ref25_Has_g0 (a0 a1 a2 n0 n1 n2 mn md f0 f1 f2 : Int) (h : cCheck ⟨⟨a0, a1, a2⟩, ⟨n0, n1, n2⟩, mn, md⟩ = 0) (h0 : ng f0 = false) (w : World) :
    Calls Try.prog 60 #[vC a0 a1 a2 n0 n1 n2 mn md, vV f0 f1 f2] w fun r w' => r = .returned (.bool (cHas ⟨⟨a0, a1, a2⟩, ⟨n0, n1, n2⟩, mn, md⟩ ⟨f0, f1, f2⟩)) ∧ Below w.heap.size w w' := by
  have e : cHas ⟨⟨a0, a1, a2⟩, ⟨n0, n1, n2⟩, mn, md⟩ ⟨f0, f1, f2⟩ = false := by unfold cHas; simp [h0]
  rw [e]
  have HC := Lib.hid (congrArg (Value.int IntKind.i64) h)
  have HG0 := Lib.hid (show Value.bool (!ng f0) = .bool true by rw [h0]; rfl)
  clear h e h0
  go_enter Try.func60, Try.ntmps60
  go_wp2_with fail
  refine Calls.mono (callv (ref25_Check a0 a1 a2 n0 n1 n2 mn md _) HC.out) ?_
  rintro e w1 ⟨rfl, hbx⟩
  have oc : Own w1 (w.heap.size) #[.int .i64 a0, .int .i64 a1, .int .i64 a2, .int .i64 n0, .int .i64 n1, .int .i64 n2, .int .i64 mn, .int .i64 md] := Own.below (by repeat' (first | ((refine Own.new ?_); (focus (first | rfl | omega | (simp; done) | (simp; omega)))) | assumption | refine Own.alloc ?_ _ | refine Own.drew ?_ | (refine Own.far ?_ ?_ _; rotate_left; (focus (first | rfl | omega | (simp; done) | (simp; omega)))))) hbx
  have occ := oc.cell
  have ocf := oc.thaw
  have ocz := oc.lt
  have of : Own w1 (w.heap.size + 1) #[.int .i64 f0, .int .i64 f1, .int .i64 f2] := Own.below (by repeat' (first | ((refine Own.new ?_); (focus (first | rfl | omega | (simp; done) | (simp; omega)))) | assumption | refine Own.alloc ?_ _ | refine Own.drew ?_ | (refine Own.far ?_ ?_ _; rotate_left; (focus (first | rfl | omega | (simp; done) | (simp; omega)))))) hbx
  have ofc := of.cell
  have off := of.thaw
  have ofz := of.lt
  have hw : Below w.heap.size w w1 := Below.hop (by repeat' (first | exact Below.refl _ _ | assumption | (refine Below.alloc ?_ ?_ _; rotate_left; (focus (first | rfl | omega | (simp; done) | (simp; omega)))) | (refine Below.setCell ?_ ?_ _; rotate_left; (focus (first | rfl | omega | (simp; done) | (simp; omega)))) | refine Below.drew ?_)) hbx
  have hz := hw.size
  clear hbx
  go_wp2_with (first | (go_at_call 80; with_reducible refine Calls.mono (callv (ref25_great f0 _) HG0.out) ?_; rintro e wx ⟨rfl, rfl⟩))
  go_ret
  exact ⟨rfl, hw⟩
set_option maxRecDepth 100000 in
set_option maxHeartbeats 4000000 in
theorem ref25_Has_g1 (a0 a1 a2 n0 n1 n2 mn md f0 f1 f2 : Int) (h : cCheck ⟨⟨a0, a1, a2⟩, ⟨n0, n1, n2⟩, mn, md⟩ = 0) (h0 : ng f0 = true) (h1 : ng f1 = false) (w : World) :
    Calls Try.prog 60 #[vC a0 a1 a2 n0 n1 n2 mn md, vV f0 f1 f2] w fun r w' => r = .returned (.bool (cHas ⟨⟨a0, a1, a2⟩, ⟨n0, n1, n2⟩, mn, md⟩ ⟨f0, f1, f2⟩)) ∧ Below w.heap.size w w' := by
  have e : cHas ⟨⟨a0, a1, a2⟩, ⟨n0, n1, n2⟩, mn, md⟩ ⟨f0, f1, f2⟩ = false := by unfold cHas; simp [h1]
  rw [e]
  have HC := Lib.hid (congrArg (Value.int IntKind.i64) h)
  have HG0 := Lib.hid (show Value.bool (!ng f0) = .bool false by rw [h0]; rfl)
  have HG1 := Lib.hid (show Value.bool (!ng f1) = .bool true by rw [h1]; rfl)
  clear h e h0 h1
  go_enter Try.func60, Try.ntmps60
  go_wp2_with fail
  refine Calls.mono (callv (ref25_Check a0 a1 a2 n0 n1 n2 mn md _) HC.out) ?_
  rintro e w1 ⟨rfl, hbx⟩
  have oc : Own w1 (w.heap.size) #[.int .i64 a0, .int .i64 a1, .int .i64 a2, .int .i64 n0, .int .i64 n1, .int .i64 n2, .int .i64 mn, .int .i64 md] := Own.below (by repeat' (first | ((refine Own.new ?_); (focus (first | rfl | omega | (simp; done) | (simp; omega)))) | assumption | refine Own.alloc ?_ _ | refine Own.drew ?_ | (refine Own.far ?_ ?_ _; rotate_left; (focus (first | rfl | omega | (simp; done) | (simp; omega)))))) hbx
  have occ := oc.cell
  have ocf := oc.thaw
  have ocz := oc.lt
  have of : Own w1 (w.heap.size + 1) #[.int .i64 f0, .int .i64 f1, .int .i64 f2] := Own.below (by repeat' (first | ((refine Own.new ?_); (focus (first | rfl | omega | (simp; done) | (simp; omega)))) | assumption | refine Own.alloc ?_ _ | refine Own.drew ?_ | (refine Own.far ?_ ?_ _; rotate_left; (focus (first | rfl | omega | (simp; done) | (simp; omega)))))) hbx
  have ofc := of.cell
  have off := of.thaw
  have ofz := of.lt
  have hw : Below w.heap.size w w1 := Below.hop (by repeat' (first | exact Below.refl _ _ | assumption | (refine Below.alloc ?_ ?_ _; rotate_left; (focus (first | rfl | omega | (simp; done) | (simp; omega)))) | (refine Below.setCell ?_ ?_ _; rotate_left; (focus (first | rfl | omega | (simp; done) | (simp; omega)))) | refine Below.drew ?_)) hbx
  have hz := hw.size
  clear hbx
  go_wp2_with (first | (go_at_call 80; with_reducible refine Calls.mono (callv (ref25_great f0 _) HG0.out) ?_; rintro e wx ⟨rfl, rfl⟩) | (go_at_call 80; with_reducible refine Calls.mono (callv (ref25_great f1 _) HG1.out) ?_; rintro e wx ⟨rfl, rfl⟩))
  go_ret
  exact ⟨rfl, hw⟩
set_option maxRecDepth 100000 in
set_option maxHeartbeats 4000000 in
theorem ref25_Has_g2 (a0 a1 a2 n0 n1 n2 mn md f0 f1 f2 : Int) (h : cCheck ⟨⟨a0, a1, a2⟩, ⟨n0, n1, n2⟩, mn, md⟩ = 0) (h0 : ng f0 = true) (h1 : ng f1 = true) (h2 : ng f2 = false) (w : World) :
    Calls Try.prog 60 #[vC a0 a1 a2 n0 n1 n2 mn md, vV f0 f1 f2] w fun r w' => r = .returned (.bool (cHas ⟨⟨a0, a1, a2⟩, ⟨n0, n1, n2⟩, mn, md⟩ ⟨f0, f1, f2⟩)) ∧ Below w.heap.size w w' := by
  have e : cHas ⟨⟨a0, a1, a2⟩, ⟨n0, n1, n2⟩, mn, md⟩ ⟨f0, f1, f2⟩ = false := by unfold cHas; simp [h2]
  rw [e]
  have HC := Lib.hid (congrArg (Value.int IntKind.i64) h)
  have HG0 := Lib.hid (show Value.bool (!ng f0) = .bool false by rw [h0]; rfl)
  have HG1 := Lib.hid (show Value.bool (!ng f1) = .bool false by rw [h1]; rfl)
  have HG2 := Lib.hid (show Value.bool (!ng f2) = .bool true by rw [h2]; rfl)
  clear h e h0 h1 h2
  go_enter Try.func60, Try.ntmps60
  go_wp2_with fail
  refine Calls.mono (callv (ref25_Check a0 a1 a2 n0 n1 n2 mn md _) HC.out) ?_
  rintro e w1 ⟨rfl, hbx⟩
  have oc : Own w1 (w.heap.size) #[.int .i64 a0, .int .i64 a1, .int .i64 a2, .int .i64 n0, .int .i64 n1, .int .i64 n2, .int .i64 mn, .int .i64 md] := Own.below (by repeat' (first | ((refine Own.new ?_); (focus (first | rfl | omega | (simp; done) | (simp; omega)))) | assumption | refine Own.alloc ?_ _ | refine Own.drew ?_ | (refine Own.far ?_ ?_ _; rotate_left; (focus (first | rfl | omega | (simp; done) | (simp; omega)))))) hbx
  have occ := oc.cell
  have ocf := oc.thaw
  have ocz := oc.lt
  have of : Own w1 (w.heap.size + 1) #[.int .i64 f0, .int .i64 f1, .int .i64 f2] := Own.below (by repeat' (first | ((refine Own.new ?_); (focus (first | rfl | omega | (simp; done) | (simp; omega)))) | assumption | refine Own.alloc ?_ _ | refine Own.drew ?_ | (refine Own.far ?_ ?_ _; rotate_left; (focus (first | rfl | omega | (simp; done) | (simp; omega)))))) hbx
  have ofc := of.cell
  have off := of.thaw
  have ofz := of.lt
  have hw : Below w.heap.size w w1 := Below.hop (by repeat' (first | exact Below.refl _ _ | assumption | (refine Below.alloc ?_ ?_ _; rotate_left; (focus (first | rfl | omega | (simp; done) | (simp; omega)))) | (refine Below.setCell ?_ ?_ _; rotate_left; (focus (first | rfl | omega | (simp; done) | (simp; omega)))) | refine Below.drew ?_)) hbx
  have hz := hw.size
  clear hbx
  go_wp2_with (first | (go_at_call 80; with_reducible refine Calls.mono (callv (ref25_great f0 _) HG0.out) ?_; rintro e wx ⟨rfl, rfl⟩) | (go_at_call 80; with_reducible refine Calls.mono (callv (ref25_great f1 _) HG1.out) ?_; rintro e wx ⟨rfl, rfl⟩) | (go_at_call 80; with_reducible refine Calls.mono (callv (ref25_great f2 _) HG2.out) ?_; rintro e wx ⟨rfl, rfl⟩))
  go_ret
  exact ⟨rfl, hw⟩
set_option maxRecDepth 100000 in
set_option maxHeartbeats 4000000 in
theorem ref25_Has_ok (a0 a1 a2 n0 n1 n2 mn md f0 f1 f2 : Int) (h : cCheck ⟨⟨a0, a1, a2⟩, ⟨n0, n1, n2⟩, mn, md⟩ = 0) (h0 : ng f0 = true) (h1 : ng f1 = true) (h2 : ng f2 = true) (w : World) :
    Calls Try.prog 60 #[vC a0 a1 a2 n0 n1 n2 mn md, vV f0 f1 f2] w fun r w' => r = .returned (.bool (cHas ⟨⟨a0, a1, a2⟩, ⟨n0, n1, n2⟩, mn, md⟩ ⟨f0, f1, f2⟩)) ∧ Below w.heap.size w w' := by
  have hok := ctOk h
  have hng : (ng f0 && (ng f1 && ng f2)) = true := by rw [h0, h1, h2]; rfl
  obtain ⟨RR, hR⟩ : ∃ R, cHas ⟨⟨a0, a1, a2⟩, ⟨n0, n1, n2⟩, mn, md⟩ ⟨f0, f1, f2⟩ = R := ⟨_, rfl⟩
  rw [hR]
  have hd := dot_unit (f := ⟨f0, f1, f2⟩) hok.u hng
  obtain ⟨s, t, hs, ht, bs, bt, hside⟩ := side_axes (f := ⟨f0, f1, f2⟩) hok.u hng
  obtain ⟨U, hU⟩ : ∃ U, vDot ⟨f0, f1, f2⟩ ⟨n0, n1, n2⟩ = U := ⟨_, rfl⟩
  have u1 : -2147483648 ≤ U := by rw [← hU]; exact hd.2.1
  have u2 : U ≤ 2147483648 := by rw [← hU]; exact hd.2.2
  obtain ⟨S1, hS1⟩ : ∃ S, (if s < -s then -s else s) = S := ⟨_, rfl⟩
  obtain ⟨T1, hT1⟩ : ∃ S, (if t < -t then -t else t) = S := ⟨_, rfl⟩
  have bS : 0 ≤ S1 ∧ S1 ≤ 2147483648 := by rw [← hS1]; split <;> omega
  have bT : 0 ≤ T1 ∧ T1 ≤ 2147483648 := by rw [← hT1]; split <;> omega
  obtain ⟨bS1, bS2⟩ := bS
  obtain ⟨bT1, bT2⟩ := bT
  rw [hS1, hT1] at hside
  have hmn0 : 0 ≤ mn := hok.n1
  have hmn1 : mn ≤ 10 := by have h1 := hok.n2; have h2 := hok.d2; simp only [] at h1 h2; omega
  have hmd0 : 0 ≤ md := by have h1 := hok.d1; simp only [] at h1; omega
  have hmd1 : md ≤ 10 := hok.d2
  have m1 := small_mul hmd0 hmd1 (show -4294967296 ≤ S1 + T1 by omega) (show S1 + T1 ≤ 4294967296 by omega) (by omega)
  have m2 := small_mul hmn0 hmn1 u1 u2 (by omega)
  obtain ⟨PS, hPS⟩ : ∃ p, md * (S1 + T1) = p := ⟨_, rfl⟩
  obtain ⟨PU, hPU⟩ : ∃ p, mn * U = p := ⟨_, rfl⟩
  rw [hPS] at m1
  rw [hPU] at m2
  have HF := Lib.hid (show RR = (decide (0 ≤ U) && decide (PS ≤ PU)) by
    rw [← hR]; unfold cHas; simp only []; rw [h, h0, h1, h2, hU, hside, hPS, hPU]; rfl)
  obtain ⟨A, hA⟩ : ∃ A, axA ⟨n0, n1, n2⟩ = A := ⟨_, rfl⟩
  obtain ⟨B, hB⟩ : ∃ A, axB ⟨n0, n1, n2⟩ = A := ⟨_, rfl⟩
  have ax := ref25_axes a0 a1 a2 n0 n1 n2 mn md
  rw [hA] at hs ax
  rw [hB] at ht ax
  have AX := Lib.hid ax
  have HDU := Lib.hid (congrArg (Value.int IntKind.i64) hU)
  have HS := Lib.hid (show Value.int .i64 (vDot ⟨f0, f1, f2⟩ ⟨A.x, A.y, A.z⟩) = .int .i64 s from congrArg (Value.int .i64) hs)
  have HT := Lib.hid (show Value.int .i64 (vDot ⟨f0, f1, f2⟩ ⟨B.x, B.y, B.z⟩) = .int .i64 t from congrArg (Value.int .i64) ht)
  have HS1 := Lib.hid (congrArg (Value.int IntKind.i64) hS1)
  have HT1 := Lib.hid (congrArg (Value.int IntKind.i64) hT1)
  have HC := Lib.hid (congrArg (Value.int IntKind.i64) h)
  have HG0 := Lib.hid (show Value.bool (!ng f0) = .bool false by rw [h0]; rfl)
  have HG1 := Lib.hid (show Value.bool (!ng f1) = .bool false by rw [h1]; rfl)
  have HG2 := Lib.hid (show Value.bool (!ng f2) = .bool false by rw [h2]; rfl)
  obtain ⟨m1a, m1b⟩ := m1
  obtain ⟨m2a, m2b⟩ := m2
  clear h h0 h1 h2 hok hng hR hd hs ht hside hU hS1 hT1 hA hB ax
  go_enter Try.func60, Try.ntmps60
  go_wp2_with fail
  refine Calls.mono (callv (ref25_Check a0 a1 a2 n0 n1 n2 mn md _) HC.out) ?_
  rintro e w1 ⟨rfl, hbx⟩
  have oc : Own w1 (w.heap.size) #[.int .i64 a0, .int .i64 a1, .int .i64 a2, .int .i64 n0, .int .i64 n1, .int .i64 n2, .int .i64 mn, .int .i64 md] := Own.below (by repeat' (first | ((refine Own.new ?_); (focus (first | rfl | omega | (simp; done) | (simp; omega)))) | assumption | refine Own.alloc ?_ _ | refine Own.drew ?_ | (refine Own.far ?_ ?_ _; rotate_left; (focus (first | rfl | omega | (simp; done) | (simp; omega)))))) hbx
  have occ := oc.cell
  have ocf := oc.thaw
  have ocz := oc.lt
  have of : Own w1 (w.heap.size + 1) #[.int .i64 f0, .int .i64 f1, .int .i64 f2] := Own.below (by repeat' (first | ((refine Own.new ?_); (focus (first | rfl | omega | (simp; done) | (simp; omega)))) | assumption | refine Own.alloc ?_ _ | refine Own.drew ?_ | (refine Own.far ?_ ?_ _; rotate_left; (focus (first | rfl | omega | (simp; done) | (simp; omega)))))) hbx
  have ofc := of.cell
  have off := of.thaw
  have ofz := of.lt
  have hw : Below w.heap.size w w1 := Below.hop (by repeat' (first | exact Below.refl _ _ | assumption | (refine Below.alloc ?_ ?_ _; rotate_left; (focus (first | rfl | omega | (simp; done) | (simp; omega)))) | (refine Below.setCell ?_ ?_ _; rotate_left; (focus (first | rfl | omega | (simp; done) | (simp; omega)))) | refine Below.drew ?_)) hbx
  have hz := hw.size
  clear hbx
  go_wp2_with (first | (go_at_call 80; with_reducible refine Calls.mono (callv (ref25_great f0 _) HG0.out) ?_; rintro e wx ⟨rfl, rfl⟩) | (go_at_call 80; with_reducible refine Calls.mono (callv (ref25_great f1 _) HG1.out) ?_; rintro e wx ⟨rfl, rfl⟩) | (go_at_call 80; with_reducible refine Calls.mono (callv (ref25_great f2 _) HG2.out) ?_; rintro e wx ⟨rfl, rfl⟩) | fail)
  refine Calls.mono (AX.out _) ?_
  rintro e w2 ⟨rfl, hbx⟩
  replace oc : Own w2 (w.heap.size) #[.int .i64 a0, .int .i64 a1, .int .i64 a2, .int .i64 n0, .int .i64 n1, .int .i64 n2, .int .i64 mn, .int .i64 md] := Own.below (by repeat' (first | ((refine Own.new ?_); (focus (first | rfl | omega | (simp; done) | (simp; omega)))) | assumption | refine Own.alloc ?_ _ | refine Own.drew ?_ | (refine Own.far ?_ ?_ _; rotate_left; (focus (first | rfl | omega | (simp; done) | (simp; omega)))))) hbx
  replace occ := oc.cell
  replace ocf := oc.thaw
  replace ocz := oc.lt
  replace of : Own w2 (w.heap.size + 1) #[.int .i64 f0, .int .i64 f1, .int .i64 f2] := Own.below (by repeat' (first | ((refine Own.new ?_); (focus (first | rfl | omega | (simp; done) | (simp; omega)))) | assumption | refine Own.alloc ?_ _ | refine Own.drew ?_ | (refine Own.far ?_ ?_ _; rotate_left; (focus (first | rfl | omega | (simp; done) | (simp; omega)))))) hbx
  replace ofc := of.cell
  replace off := of.thaw
  replace ofz := of.lt
  replace hw : Below w.heap.size w w2 := Below.hop (by repeat' (first | exact Below.refl _ _ | assumption | (refine Below.alloc ?_ ?_ _; rotate_left; (focus (first | rfl | omega | (simp; done) | (simp; omega)))) | (refine Below.setCell ?_ ?_ _; rotate_left; (focus (first | rfl | omega | (simp; done) | (simp; omega)))) | refine Below.drew ?_)) hbx
  replace hz := hw.size
  clear hbx
  go_wp2_with fail
  refine Calls.mono (callv (ref7_Dot f0 f1 f2 n0 n1 n2 _) HDU.out) ?_
  rintro e w3 ⟨rfl, hbx⟩
  have ox : Own w3 (w2.heap.size) #[.int .i64 A.x, .int .i64 A.y, .int .i64 A.z, .int .i64 B.x, .int .i64 B.y, .int .i64 B.z] := Own.below (by repeat' (first | ((refine Own.new ?_); (focus (first | rfl | omega | (simp; done) | (simp; omega)))) | assumption | refine Own.alloc ?_ _ | refine Own.drew ?_ | (refine Own.far ?_ ?_ _; rotate_left; (focus (first | rfl | omega | (simp; done) | (simp; omega)))))) hbx
  have oxc := ox.cell
  have oxf := ox.thaw
  have oxz := ox.lt
  replace oc : Own w3 (w.heap.size) #[.int .i64 a0, .int .i64 a1, .int .i64 a2, .int .i64 n0, .int .i64 n1, .int .i64 n2, .int .i64 mn, .int .i64 md] := Own.below (by repeat' (first | ((refine Own.new ?_); (focus (first | rfl | omega | (simp; done) | (simp; omega)))) | assumption | refine Own.alloc ?_ _ | refine Own.drew ?_ | (refine Own.far ?_ ?_ _; rotate_left; (focus (first | rfl | omega | (simp; done) | (simp; omega)))))) hbx
  replace occ := oc.cell
  replace ocf := oc.thaw
  replace ocz := oc.lt
  replace of : Own w3 (w.heap.size + 1) #[.int .i64 f0, .int .i64 f1, .int .i64 f2] := Own.below (by repeat' (first | ((refine Own.new ?_); (focus (first | rfl | omega | (simp; done) | (simp; omega)))) | assumption | refine Own.alloc ?_ _ | refine Own.drew ?_ | (refine Own.far ?_ ?_ _; rotate_left; (focus (first | rfl | omega | (simp; done) | (simp; omega)))))) hbx
  replace ofc := of.cell
  replace off := of.thaw
  replace ofz := of.lt
  replace hw : Below w.heap.size w w3 := Below.hop (by repeat' (first | exact Below.refl _ _ | assumption | (refine Below.alloc ?_ ?_ _; rotate_left; (focus (first | rfl | omega | (simp; done) | (simp; omega)))) | (refine Below.setCell ?_ ?_ _; rotate_left; (focus (first | rfl | omega | (simp; done) | (simp; omega)))) | refine Below.drew ?_)) hbx
  replace hz := hw.size
  clear hbx
  go_wp2
  refine region_late 11 [] (by kernel_rfl) (by kernel_rfl) (by rfl) ?_
  apply Exists.intro
  refine ⟨fun v hv hne => ?_, fun u hu => ?_⟩
  · simp only [List.take_succ_cons, List.take_zero]
    have doc := fun x => (oc.later (v := v) (T := []) (by first | (simp; done) | (simp; omega)) x).cell
    have dof := fun x => (of.later (v := v) (T := []) (by first | (simp; done) | (simp; omega)) x).cell
    have dox := fun x => (ox.later (v := v) (T := []) (by first | (simp; done) | (simp; omega)) x).cell
    repeat (go_big_quiet_step ((first | (go_at_call 30; with_reducible exact lateB (callv (ref7_Dot f0 f1 f2 A.x A.y A.z _) HS.out)) | (go_at_call 30; with_reducible exact lateB (callv (ref7_Dot f0 f1 f2 B.x B.y B.z _) HT.out)) | (go_at_call 81; with_reducible exact lateS (callv (ref25_absolute s bs.1 bs.2 _) HS1.out)) | (go_at_call 81; with_reducible exact lateS (callv (ref25_absolute t bt.1 bt.2 _) HT1.out)))))
    refine wpQuiet_nil ?_
    exact rfl
  · simp only [List.drop_succ_cons, List.drop_zero]
    refine late_mem (fun K hK => ?_)
    go_simp
    refine hK _ _ (Keeps.of_below hu) (fun u2 hu2 => ?_)
    clear hK K
    replace oc := (oc.below hu).below hu2
    replace of := (of.below hu).below hu2
    replace ox := (ox.below hu).below hu2
    replace hw := Below.hop (Below.hop hw hu) hu2
    replace hz := hw.size
    clear hu hu2
    refine late_nil ?_
    (try simp only [Act.put, List.setIfInBounds_toArray, List.set_cons_zero, List.set_cons_succ])
    have occ := oc.cell
    have ocf := oc.thaw
    have ocz := oc.lt
    have ofc := of.cell
    have off := of.thaw
    have ofz := of.lt
    have oxc := ox.cell
    have oxf := ox.thaw
    have oxz := ox.lt
    go_wp2
    all_goals go_ret
    all_goals exact ⟨ret_bool (by rw [HF.out]; simp; try omega), hw⟩
theorem ref25_Has (a0 a1 a2 n0 n1 n2 mn md f0 f1 f2 : Int) (w : World) :
    Calls Try.prog 60 #[vC a0 a1 a2 n0 n1 n2 mn md, vV f0 f1 f2] w fun r w' => r = .returned (.bool (cHas ⟨⟨a0, a1, a2⟩, ⟨n0, n1, n2⟩, mn, md⟩ ⟨f0, f1, f2⟩)) ∧ Below w.heap.size w w' := by
  by_cases h : cCheck ⟨⟨a0, a1, a2⟩, ⟨n0, n1, n2⟩, mn, md⟩ = 0
  · cases h0 : ng f0
    · exact ref25_Has_g0 a0 a1 a2 n0 n1 n2 mn md f0 f1 f2 h h0 w
    · cases h1 : ng f1
      · exact ref25_Has_g1 a0 a1 a2 n0 n1 n2 mn md f0 f1 f2 h h0 h1 w
      · cases h2 : ng f2
        · exact ref25_Has_g2 a0 a1 a2 n0 n1 n2 mn md f0 f1 f2 h h0 h1 h2 w
        · exact ref25_Has_ok a0 a1 a2 n0 n1 n2 mn md f0 f1 f2 h h0 h1 h2 w
  · exact ref25_Has_no a0 a1 a2 n0 n1 n2 mn md f0 f1 f2 h w
end Go.Proofs.Ythijnggeoinlfaa
