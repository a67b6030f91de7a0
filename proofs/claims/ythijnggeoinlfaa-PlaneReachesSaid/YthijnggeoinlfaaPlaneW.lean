/- What Push in package plane returns. The components are int64. -/
import Derived.Test.YthijnggeoinlfaaPlaneV
namespace Go.Proofs.Ythijnggeoinlfaa
open Go.RowKit

theorem push_no {p : Pl} {b : Int} (h : okPush p b = false) : pPush p b = ⟨⟨0, 0, 0⟩, 0⟩ := by unfold pPush; rw [h]; rfl
theorem push_yes {p : Pl} {b : Int} (h : okPush p b = true) : pPush p b = ⟨p.n, wrap64 (p.b + b)⟩ := by unfold pPush; rw [h]; rfl
theorem push_valid {x y z b c : Int} (h : pValid ⟨⟨x, y, z⟩, b⟩ = true) : pValid ⟨⟨x, y, z⟩, c⟩ = inB 2097152 c := by
  simp only [pValid, Bool.and_eq_true] at h ⊢
  simp [h.1, h.2.1]

set_option maxRecDepth 100000 in
set_option maxHeartbeats 2000000 in
theorem plane_Push (x y z b by_ : Int) (hx : I64 x) (hy : I64 y) (hz : I64 z) (w : World) :
    Calls Try.prog 44 #[vP x y z b, .int .i64 by_] w fun r w' => r = .returned (.tuple #[(pPush ⟨⟨x, y, z⟩, b⟩ by_).v, .bool (okPush ⟨⟨x, y, z⟩, b⟩ by_)]) ∧ Below w.heap.size w w' := by
  cases hp : pValid ⟨⟨x, y, z⟩, b⟩
  · have HP := Lib.hid hp
    clear hp
    have hok := Lib.hid (show okPush ⟨⟨x, y, z⟩, b⟩ by_ = false by unfold okPush; rw [HP.out]; rfl)
    go_enter Try.func44, Try.ntmps44
    go_wp2_with fail
    refine Calls.mono (callv (plane_Valid x y z b hx hy hz _) (congrArg Value.bool HP.out)) ?_
    rintro e w1 ⟨rfl, hb1⟩
    have o2 : Own w1 (w.heap.size + 1) #[.int .i64 0, .int .i64 0, .int .i64 0, .int .i64 0] := Own.below (by repeat' (first | ((refine Own.new ?_); (focus (first | rfl | omega | (simp; done) | (simp; omega)))) | assumption | refine Own.alloc ?_ _ | refine Own.drew ?_ | (refine Own.far ?_ ?_ _; rotate_left; (focus (first | rfl | omega | (simp; done) | (simp; omega)))))) hb1
    have o2c := o2.cell
    have o2f := o2.thaw
    have o2z := o2.lt
    have hs1 := hb1.size
    (try simp at hs1)
    have hw1 : Below w.heap.size w w1 := Below.hop (by repeat' (first | exact Below.refl _ _ | assumption | (refine Below.alloc ?_ ?_ _; rotate_left; (focus (first | rfl | omega | (simp; done) | (simp; omega)))) | (refine Below.setCell ?_ ?_ _; rotate_left; (focus (first | rfl | omega | (simp; done) | (simp; omega)))) | refine Below.drew ?_)) hb1
    have hz1 := hw1.size
    clear hb1
    go_wp2
    refine retC (b := w.heap.size + 1) (v := .tuple #[(pPush ⟨⟨x, y, z⟩, b⟩ by_).v, .bool (okPush ⟨⟨x, y, z⟩, b⟩ by_)]) (by repeat' (first | (with_reducible assumption) | ((with_reducible apply Own.new); (focus (first | rfl | omega | (simp; done) | (simp; omega)))) | (with_reducible apply Own.set) | (with_reducible apply Own.alloc) | (with_reducible apply Own.drew) | ((with_reducible apply Own.far); case hp => (focus (first | rfl | omega | (simp; done) | (simp; omega)))))) (fun w' hw' => by simp [results, Try.results44, go_sem, hw', hok.out, (push_no hok.out)]) rfl ⟨rfl, (by repeat' (first | exact Below.refl _ _ | assumption | (refine Below.alloc ?_ ?_ _; rotate_left; (focus (first | rfl | omega | (simp; done) | (simp; omega)))) | (refine Below.setCell ?_ ?_ _; rotate_left; (focus (first | rfl | omega | (simp; done) | (simp; omega)))) | refine Below.drew ?_))⟩
  · have HP := Lib.hid hp
    clear hp
    cases hq : inB 4194304 by_
    · have HQ := Lib.hid hq
      have hq2 := inB_not hq
      clear hq
      have hok := Lib.hid (show okPush ⟨⟨x, y, z⟩, b⟩ by_ = false by unfold okPush; rw [HP.out, HQ.out]; rfl)
      go_enter Try.func44, Try.ntmps44
      go_wp2_with fail
      refine Calls.mono (callv (plane_Valid x y z b hx hy hz _) (congrArg Value.bool HP.out)) ?_
      rintro e w1 ⟨rfl, hb1⟩
      have o2 : Own w1 (w.heap.size + 1) #[.int .i64 0, .int .i64 0, .int .i64 0, .int .i64 0] := Own.below (by repeat' (first | ((refine Own.new ?_); (focus (first | rfl | omega | (simp; done) | (simp; omega)))) | assumption | refine Own.alloc ?_ _ | refine Own.drew ?_ | (refine Own.far ?_ ?_ _; rotate_left; (focus (first | rfl | omega | (simp; done) | (simp; omega)))))) hb1
      have o2c := o2.cell
      have o2f := o2.thaw
      have o2z := o2.lt
      have hs1 := hb1.size
      (try simp at hs1)
      have hw1 : Below w.heap.size w w1 := Below.hop (by repeat' (first | exact Below.refl _ _ | assumption | (refine Below.alloc ?_ ?_ _; rotate_left; (focus (first | rfl | omega | (simp; done) | (simp; omega)))) | (refine Below.setCell ?_ ?_ _; rotate_left; (focus (first | rfl | omega | (simp; done) | (simp; omega)))) | refine Below.drew ?_)) hb1
      have hz1 := hw1.size
      clear hb1
      go_wp2_with fail
      refine Calls.mono (callv (plane_within1 4194304 by_ _ _ (by decide) (by decide) ?_) (congrArg Value.bool HQ.out)) ?_
      · simp [go_sem]
      rintro e w' ⟨rfl, rfl⟩
      go_wp2
      refine retC (b := w.heap.size + 1) (v := .tuple #[(pPush ⟨⟨x, y, z⟩, b⟩ by_).v, .bool (okPush ⟨⟨x, y, z⟩, b⟩ by_)]) (by repeat' (first | (with_reducible assumption) | ((with_reducible apply Own.new); (focus (first | rfl | omega | (simp; done) | (simp; omega)))) | (with_reducible apply Own.set) | (with_reducible apply Own.alloc) | (with_reducible apply Own.drew) | ((with_reducible apply Own.far); case hp => (focus (first | rfl | omega | (simp; done) | (simp; omega)))))) (fun w' hw' => by simp [results, Try.results44, go_sem, hw', hok.out, (push_no hok.out)]) rfl ⟨rfl, (by repeat' (first | exact Below.refl _ _ | assumption | (refine Below.alloc ?_ ?_ _; rotate_left; (focus (first | rfl | omega | (simp; done) | (simp; omega)))) | (refine Below.setCell ?_ ?_ _; rotate_left; (focus (first | rfl | omega | (simp; done) | (simp; omega)))) | refine Below.drew ?_))⟩
    · have HQ := Lib.hid hq
      have hq2 := inB_of hq
      clear hq
      cases hr : inB 2097152 (wrap64 (b + by_))
      · have HR := Lib.hid hr
        clear hr
        have hok := Lib.hid (show okPush ⟨⟨x, y, z⟩, b⟩ by_ = false by unfold okPush; rw [HP.out, HQ.out, HR.out]; rfl)
        go_enter Try.func44, Try.ntmps44
        go_wp2_with fail
        refine Calls.mono (callv (plane_Valid x y z b hx hy hz _) (congrArg Value.bool HP.out)) ?_
        rintro e w1 ⟨rfl, hb1⟩
        have o2 : Own w1 (w.heap.size + 1) #[.int .i64 0, .int .i64 0, .int .i64 0, .int .i64 0] := Own.below (by repeat' (first | ((refine Own.new ?_); (focus (first | rfl | omega | (simp; done) | (simp; omega)))) | assumption | refine Own.alloc ?_ _ | refine Own.drew ?_ | (refine Own.far ?_ ?_ _; rotate_left; (focus (first | rfl | omega | (simp; done) | (simp; omega)))))) hb1
        have o2c := o2.cell
        have o2f := o2.thaw
        have o2z := o2.lt
        have o1 : Own w1 (w.heap.size) #[.int .i64 x, .int .i64 y, .int .i64 z, .int .i64 b] := Own.below (by repeat' (first | ((refine Own.new ?_); (focus (first | rfl | omega | (simp; done) | (simp; omega)))) | assumption | refine Own.alloc ?_ _ | refine Own.drew ?_ | (refine Own.far ?_ ?_ _; rotate_left; (focus (first | rfl | omega | (simp; done) | (simp; omega)))))) hb1
        have o1c := o1.cell
        have o1f := o1.thaw
        have o1z := o1.lt
        have hs1 := hb1.size
        (try simp at hs1)
        have hw1 : Below w.heap.size w w1 := Below.hop (by repeat' (first | exact Below.refl _ _ | assumption | (refine Below.alloc ?_ ?_ _; rotate_left; (focus (first | rfl | omega | (simp; done) | (simp; omega)))) | (refine Below.setCell ?_ ?_ _; rotate_left; (focus (first | rfl | omega | (simp; done) | (simp; omega)))) | refine Below.drew ?_)) hb1
        have hz1 := hw1.size
        clear hb1
        go_wp2_with fail
        refine Calls.mono (callv (plane_within1 4194304 by_ _ _ (by decide) (by decide) ?_) (congrArg Value.bool HQ.out)) ?_
        · simp [go_sem]
        rintro e w' ⟨rfl, rfl⟩
        go_wp2_with fail
        refine Calls.mono (callv (plane_within1 2097152 (wrap64 (b + by_)) _ _ (by decide) (by decide) ?_) (congrArg Value.bool HR.out)) ?_
        · simp [go_sem]
        rintro e w' ⟨rfl, rfl⟩
        go_wp2
        refine retC (b := w.heap.size + 1) (v := .tuple #[(pPush ⟨⟨x, y, z⟩, b⟩ by_).v, .bool (okPush ⟨⟨x, y, z⟩, b⟩ by_)]) (by repeat' (first | (with_reducible assumption) | ((with_reducible apply Own.new); (focus (first | rfl | omega | (simp; done) | (simp; omega)))) | (with_reducible apply Own.set) | (with_reducible apply Own.alloc) | (with_reducible apply Own.drew) | ((with_reducible apply Own.far); case hp => (focus (first | rfl | omega | (simp; done) | (simp; omega)))))) (fun w' hw' => by simp [results, Try.results44, go_sem, hw', hok.out, (push_no hok.out)]) rfl ⟨rfl, (by repeat' (first | exact Below.refl _ _ | assumption | (refine Below.alloc ?_ ?_ _; rotate_left; (focus (first | rfl | omega | (simp; done) | (simp; omega)))) | (refine Below.setCell ?_ ?_ _; rotate_left; (focus (first | rfl | omega | (simp; done) | (simp; omega)))) | refine Below.drew ?_))⟩
      · have HR := Lib.hid hr
        clear hr
        have hok := Lib.hid (show okPush ⟨⟨x, y, z⟩, b⟩ by_ = true by unfold okPush; rw [HP.out, HQ.out, HR.out]; rfl)
        go_enter Try.func44, Try.ntmps44
        go_wp2_with fail
        refine Calls.mono (callv (plane_Valid x y z b hx hy hz _) (congrArg Value.bool HP.out)) ?_
        rintro e w1 ⟨rfl, hb1⟩
        have o2 : Own w1 (w.heap.size + 1) #[.int .i64 0, .int .i64 0, .int .i64 0, .int .i64 0] := Own.below (by repeat' (first | ((refine Own.new ?_); (focus (first | rfl | omega | (simp; done) | (simp; omega)))) | assumption | refine Own.alloc ?_ _ | refine Own.drew ?_ | (refine Own.far ?_ ?_ _; rotate_left; (focus (first | rfl | omega | (simp; done) | (simp; omega)))))) hb1
        have o2c := o2.cell
        have o2f := o2.thaw
        have o2z := o2.lt
        have o1 : Own w1 (w.heap.size) #[.int .i64 x, .int .i64 y, .int .i64 z, .int .i64 b] := Own.below (by repeat' (first | ((refine Own.new ?_); (focus (first | rfl | omega | (simp; done) | (simp; omega)))) | assumption | refine Own.alloc ?_ _ | refine Own.drew ?_ | (refine Own.far ?_ ?_ _; rotate_left; (focus (first | rfl | omega | (simp; done) | (simp; omega)))))) hb1
        have o1c := o1.cell
        have o1f := o1.thaw
        have o1z := o1.lt
        have hs1 := hb1.size
        (try simp at hs1)
        have hw1 : Below w.heap.size w w1 := Below.hop (by repeat' (first | exact Below.refl _ _ | assumption | (refine Below.alloc ?_ ?_ _; rotate_left; (focus (first | rfl | omega | (simp; done) | (simp; omega)))) | (refine Below.setCell ?_ ?_ _; rotate_left; (focus (first | rfl | omega | (simp; done) | (simp; omega)))) | refine Below.drew ?_)) hb1
        have hz1 := hw1.size
        clear hb1
        go_wp2_with fail
        refine Calls.mono (callv (plane_within1 4194304 by_ _ _ (by decide) (by decide) ?_) (congrArg Value.bool HQ.out)) ?_
        · simp [go_sem]
        rintro e w' ⟨rfl, rfl⟩
        go_wp2_with fail
        refine Calls.mono (callv (plane_within1 2097152 (wrap64 (b + by_)) _ _ (by decide) (by decide) ?_) (congrArg Value.bool HR.out)) ?_
        · simp [go_sem]
        rintro e w' ⟨rfl, rfl⟩
        go_wp2
        refine retC (b := w.heap.size + 1) (v := .tuple #[(pPush ⟨⟨x, y, z⟩, b⟩ by_).v, .bool (okPush ⟨⟨x, y, z⟩, b⟩ by_)]) (by repeat' (first | (with_reducible assumption) | ((with_reducible apply Own.new); (focus (first | rfl | omega | (simp; done) | (simp; omega)))) | (with_reducible apply Own.set) | (with_reducible apply Own.alloc) | (with_reducible apply Own.drew) | ((with_reducible apply Own.far); case hp => (focus (first | rfl | omega | (simp; done) | (simp; omega)))))) (fun w' hw' => by simp [results, Try.results44, go_sem, hw', hok.out, (push_yes hok.out)]) rfl ⟨rfl, (by repeat' (first | exact Below.refl _ _ | assumption | (refine Below.alloc ?_ ?_ _; rotate_left; (focus (first | rfl | omega | (simp; done) | (simp; omega)))) | (refine Below.setCell ?_ ?_ _; rotate_left; (focus (first | rfl | omega | (simp; done) | (simp; omega)))) | refine Below.drew ?_))⟩
end Go.Proofs.Ythijnggeoinlfaa
