/- What made of the laws of package contact returns: a valid contact. The slice holds int64. -/
import Derived.Test.YthijnggeoinlfaaCtM
namespace Go.Proofs.Ythijnggeoinlfaa
open Go.RowKit

theorem minNat (n m : Nat) : (if (m : Int) < (n : Int) then (m : Int) else (n : Int)) = ((min n m : Nat) : Int) := by
  split <;> omega

set_option maxRecDepth 100000 in
set_option maxHeartbeats 1000000 in
theorem law25_made (A : Option Addr) (n cap : Nat) (l : List Int) (w : World) (hl : SliceI w A n l) (hc : n ≤ cap) (hd : cap ≤ 9223372036854775807) :
    Calls Try.prog 50 #[.slice A n cap] w fun r w' => ∃ c : Ct, r = .returned c.v ∧ CtOk c ∧ Below w.heap.size w w' := by
  have hl2 := hl.cutTo 6
  have hm := minNat n 6
  obtain ⟨N, hN⟩ : ∃ N, min n 6 = N := ⟨_, rfl⟩
  have hk : (N : Int) ≤ (cap : Int) := by omega
  have hj : 0 ≤ (N : Int) := by omega
  rw [hN] at hl2 hm
  have HL := Lib.hid hl2
  have hcc : 0 ≤ (n : Int) := by omega
  have hca : (n : Int) ≤ (cap : Int) := by omega
  have hcb : (cap : Int) ≤ 9223372036854775807 := by omega
  clear hl hl2 hN
  simp only [Int.cast_ofNat_Int] at hm
  go_enter Try.func50, Try.ntmps50
  go_wp2_with fail
  refine Calls.mono (ref25_Made A N cap _ _ (HL.out.below ((Below.refl _ _).alloc (Nat.le_refl _) _))) ?_
  rintro e w1 ⟨c, rfl, hok, hb1⟩
  have HO := Lib.hid hok
  clear hok
  have o1 : Own w1 (w.heap.size) #[.int .i64 0, .int .i64 0, .int .i64 0, .int .i64 0, .int .i64 0, .int .i64 0, .int .i64 0, .int .i64 0] := Own.below (by repeat' (first | ((refine Own.new ?_); (focus (first | rfl | omega | (simp; done) | (simp; omega)))) | assumption | refine Own.alloc ?_ _ | refine Own.drew ?_ | (refine Own.far ?_ ?_ _; rotate_left; (focus (first | rfl | omega | (simp; done) | (simp; omega)))))) hb1
  have o1c := o1.cell
  have o1f := o1.thaw
  have o1z := o1.lt
  have hs1 := hb1.size
  (try simp at hs1)
  have hw1 : Below w.heap.size w w1 := Below.hop (by repeat' (first | exact Below.refl _ _ | assumption | (refine Below.alloc ?_ ?_ _; rotate_left; (focus (first | rfl | omega | (simp; done) | (simp; omega)))) | (refine Below.setCell ?_ ?_ _; rotate_left; (focus (first | rfl | omega | (simp; done) | (simp; omega)))) | refine Below.drew ?_)) hb1
  have hz1 := hw1.size
  clear hb1
  go_wp2
  exact retC (b := w.heap.size) (v := c.v) (cs := #[.int .i64 c.at_.x, .int .i64 c.at_.y, .int .i64 c.at_.z, .int .i64 c.n.x, .int .i64 c.n.y, .int .i64 c.n.z, .int .i64 c.mn, .int .i64 c.md]) ((((((((o1.set 0 _).set 1 _).set 2 _).set 3 _).set 4 _).set 5 _).set 6 _).set 7 _) (fun w' hw' => by simp [results, Try.results50, go_sem, hw']) rfl ⟨c, rfl, HO.out, (((((((hw1.setCell (by simp) _).setCell (by simp) _).setCell (by simp) _).setCell (by simp) _).setCell (by simp) _).setCell (by simp) _).setCell (by simp) _).setCell (by simp) _⟩
end Go.Proofs.Ythijnggeoinlfaa
