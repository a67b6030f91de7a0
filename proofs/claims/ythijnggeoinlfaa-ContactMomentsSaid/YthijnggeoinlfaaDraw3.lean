/- What Points of the reference returns: a slice that lies at the head of a block of its own. The numbers lie in a slice of ints. -/
import Derived.Test.YthijnggeoinlfaaDraw
namespace Go.Proofs.Ythijnggeoinlfaa
open Go.RowKit

theorem SliceI.cutTo {w : World} {A : Option Addr} {n : Nat} {l : List Int} (h : SliceI w A n l) (m : Nat) : SliceI w A (min n m) (l.take m) := by
  refine ⟨by rw [List.length_take, h.len]; omega, by have := h.max; omega, fun hne => ?_⟩
  have h1 : l ≠ [] := by rintro rfl; simp at hne
  obtain ⟨b, off, e, hlt, hc⟩ := h.row h1
  refine ⟨b, off, e, hlt, fun i hi => ?_⟩
  have hi2 : i < m ∧ i < l.length := by rw [List.length_take] at hi; omega
  rw [hc i hi2.2]
  simp [List.getElem?_take_of_lt hi2.1]

theorem ownsRow_own {w : World} {base : Nat} {e : TypeId} {size : Nat} {g n cap : Nat} {xs : List Value} (h : w.ownsRow base e size (.slice (some ⟨g, 0, none⟩) n cap) n xs) (hn : 0 < n) :
    base ≤ g ∧ n ≤ cap ∧ cap ≤ maxLen ∧ ∃ cs : Array Value, Own w g cs ∧ ∀ i, i < n * size → cs[i]? = xs[i]? := by
  rcases h.2 with ⟨e1, e2⟩ | ⟨g', cap', cur, e1, e2, e3, e4, e5, e6, e7⟩
  · omega
  · injection e1 with a1 a2 a3
    injection a1 with a1; injection a1 with a1
    subst a1; subst a3
    refine ⟨e2, e4, e5, cur, ⟨e, e3⟩, fun i hi => ?_⟩
    rw [← e7, List.getElem?_take_of_lt hi, Array.getElem?_toList]

theorem vecV_bd (l : List Int) (m : Int) (hm : 0 ≤ m) : -m ≤ (vecV l m).x ∧ (vecV l m).x ≤ m ∧ -m ≤ (vecV l m).y ∧ (vecV l m).y ≤ m ∧ -m ≤ (vecV l m).z ∧ (vecV l m).z ≤ m := by
  unfold vecV
  have n1 := nextV_bd l (2 * m + 1) (by omega)
  have n2 := nextV_bd l.tail (2 * m + 1) (by omega)
  have n3 := nextV_bd l.tail.tail (2 * m + 1) (by omega)
  simp only []
  omega
theorem mostV_bd (n : Int) : 0 ≤ mostV n ∧ mostV n ≤ 24 := by
  unfold mostV; repeat' split <;> omega
theorem ptAt_bd (l : List Int) (k : Nat) : -24 ≤ (ptAt l k).x ∧ (ptAt l k).x ≤ 24 ∧ -24 ≤ (ptAt l k).y ∧ (ptAt l k).y ≤ 24 ∧ -24 ≤ (ptAt l k).z ∧ (ptAt l k).z ≤ 24 := by
  have h1 := mostV_bd (nextV (l.drop (4 * k)) 4)
  have h2 := vecV_bd (l.drop (4 * k + 1)) (mostV (nextV (l.drop (4 * k)) 4)) h1.1
  unfold ptAt
  omega
/-- The cells of point k. -/
theorem ptCells_at (l : List Int) (many k : Nat) (h : k < many) : (ptCells l many)[k * 3]? = some (.int .i64 (ptAt l k).x) ∧ (ptCells l many)[k * 3 + 1]? = some (.int .i64 (ptAt l k).y) ∧ (ptCells l many)[k * 3 + 2]? = some (.int .i64 (ptAt l k).z) := by
  induction many with
  | zero => omega
  | succ n ih =>
    have e : ptCells l (n + 1) = ptCells l n ++ [Value.int .i64 (ptAt l n).x, .int .i64 (ptAt l n).y, .int .i64 (ptAt l n).z] := by
      unfold ptCells; rw [List.range_succ, List.flatMap_append]; simp
    have hlen : (ptCells l n).length = n * 3 := by
      clear ih h e
      unfold ptCells
      rw [List.length_flatMap]
      induction n with
      | zero => rfl
      | succ k ih => rw [List.range_succ, List.map_append, List.sum_append, ih]; simp; omega
    rw [e]
    by_cases hk : k < n
    · rw [List.getElem?_append_left (by omega), List.getElem?_append_left (by omega), List.getElem?_append_left (by omega)]
      exact ih hk
    · obtain rfl : k = n := by omega
      rw [List.getElem?_append_right (by omega), List.getElem?_append_right (by omega), List.getElem?_append_right (by omega), hlen]
      rw [show k * 3 - k * 3 = 0 by omega, show k * 3 + 1 - k * 3 = 1 by omega, show k * 3 + 2 - k * 3 = 2 by omega]
      exact ⟨rfl, rfl, rfl⟩

set_option maxRecDepth 100000 in
set_option maxHeartbeats 1000000 in
theorem ref7_PointsOwn (A : Option Addr) (n cap : Nat) (l : List Int) (many : Nat) (h1 : 1 ≤ many) (h2 : many ≤ 1000) (w : World) (hl : SliceI w A n l) :
    Calls Try.prog 17 #[.slice A n cap, .int .i64 many] w fun r w' => ∃ g c cs, r = .returned (.slice (some ⟨g, 0, none⟩) many c) ∧ Below w.heap.size w w' ∧ w.heap.size ≤ g ∧ many ≤ c ∧ c ≤ maxLen ∧ Own w' g cs ∧ ∀ i, i < many * 3 → cs[i]? = (ptCells l many)[i]? := by
  obtain ⟨i0, hi, hz0, hz1, hz2⟩ := info_parts infoVec
  have HL := Lib.hid hl
  clear hl
  go_enter Try.func17, Try.ntmps17
  go_wp2
  have hd0 := Lib.hid (DrawAt.start (cap := cap) (T := 85) HL.out)
  go_loopw [6, 7] (fun v i wr => ∃ k : Nat, k ≤ many ∧ i = .int .i64 k ∧ Below w.heap.size w wr ∧ w.heap.size + 1 ≤ wr.heap.size ∧ DrawAt wr w.heap.size (l.drop (4 * k)) ∧ wr.ownsRow (w.heap.size + 1) 24 3 v k (ptCells l k)) (fun _ i _ => many - (intOf i).toNat)
  case atStart => exact ⟨0, by omega, rfl, (by repeat' (first | exact Below.refl _ _ | assumption | (refine Below.alloc ?_ ?_ _; rotate_left; (focus (first | rfl | omega | (simp; done) | (simp; omega)))) | (refine Below.setCell ?_ ?_ _; rotate_left; (focus (first | rfl | omega | (simp; done) | (simp; omega)))) | refine Below.drew ?_)), by simp, hd0.out, rfl, .inl ⟨rfl, rfl⟩⟩
  case round =>
    obtain ⟨k, hk, rfl, hbel, hsz, hdr, hown⟩ := hrel
    have HO := Lib.hid hown
    clear hown
    have HD := Lib.hid hdr
    clear hdr
    by_cases hlt : k < many
    · have hlt2 : (k : Int) < (many : Int) := by omega
      go_wp2_with fail
      refine Calls.mono (ref1_Next w.heap.size _ 4 (by omega) (by omega) _ (HD.out.alloc _)) ?_
      rintro e w1 ⟨rfl, hu1, hd1⟩
      have D1 := Lib.hid hd1
      clear hd1
      have hlz : w.heap.size < w.heap.size + 1 := by omega
      have O1 := Lib.hid (ownsRow_upd (HO.out.alloc _) hu1 hlz)
      have nb := nextV_bd (l.drop (4 * k)) 4 (by omega)
      have B1 := Lib.hid (Upd.below (hbel.alloc (by omega) _) hu1 (by simp))
      have ot : Own w1 wr.heap.size #[.int .i64 8, .int .i64 8, .int .i64 3, .int .i64 24] := Own.upd (Own.new rfl) hu1 (by simp; omega)
      have s1 := hu1.size
      simp at s1
      have otz := ot.lt
      have hcell : w1.cell? ⟨wr.heap.size, (nextV (l.drop (4 * k)) 4).toNat, none⟩ = some (.int .i64 (mostV (nextV (l.drop (4 * k)) 4))) := by
        rw [ot.cell]
        generalize nextV (l.drop (4 * k)) 4 = q at nb
        have : q = 0 ∨ q = 1 ∨ q = 2 ∨ q = 3 := by omega
        rcases this with rfl | rfl | rfl | rfl <;> rfl
      have mb : 0 ≤ mostV (nextV (l.drop (4 * k)) 4) ∧ mostV (nextV (l.drop (4 * k)) 4) ≤ 24 := by
        unfold mostV; repeat' split <;> omega
      clear hu1 ot hbel
      go_wp2_with fail
      have D1' : DrawAt w1 w.heap.size (l.drop (4 * k + 1)) := by have := D1.out; simpa [List.tail_drop] using this
      refine Calls.mono (ref7_Vec w.heap.size _ _ mb.1 (by omega) _ D1') ?_
      rintro e w2 ⟨rfl, hu2, hd2⟩
      have D2 := Lib.hid hd2
      have O2 := Lib.hid (ownsRow_upd O1.out hu2 hlz)
      have B2 := Lib.hid (Upd.below B1.out hu2 (by simp))
      have s2 := hu2.size
      clear hd2 hu2 hcell
      go_wp2_with (at_builtin; refine wpList_append_lies _ rfl _ _ _ (by rfl) (w.heap.size + 1) 24 i0 (.agg #[.int .i64 0, .int .i64 0, .int .i64 0]) 3 24 Try.underlying27 hi hz0 hz1 hz2 rfl (by omega) _ k (ptCells l k) (by rfl) (O2.out.alloc _) ⟨w2.heap.size, 0, none⟩ 1 1 [.int .i64 (ptAt l k).x, .int .i64 (ptAt l k).y, .int .i64 (ptAt l k).z] (by rfl) rfl ?c1 ?c2 (by omega) ?c3 ?c4 ?c5 (w2.heap.size + 1) (by simp) ?_)
      case c1 => exact World.news_of_block (heap_alloc_new w2 _)
      case c2 => intro u hu; simp at hu; rcases hu with rfl | rfl | rfl <;> rfl
      case c3 => unfold maxLen; omega
      case c4 => omega
      case c5 => simp; omega
      intro g c w3 ho3 hg3 hat hlt3
      have e3 : ptCells l k ++ [Value.int .i64 (ptAt l k).x, .int .i64 (ptAt l k).y, .int .i64 (ptAt l k).z] = ptCells l (k + 1) := by
        unfold ptCells; rw [List.range_succ, List.flatMap_append]; simp
      rw [e3] at ho3
      have O3 := Lib.hid ho3
      have hob : ∀ b, _ = some b → w.heap.size + 1 ≤ b := fun b hb => ownBlock_ge (O2.out) hb
      have D3 := Lib.hid ((D2.out.alloc (.cells #[.int .i64 (ptAt l k).x, .int .i64 (ptAt l k).y, .int .i64 (ptAt l k).z] 24)).of_blocks fun i hi => hg3.block i (by simp; omega) (fun e => by have := hob i e.symm; omega))
      have B3 := Lib.hid (Below.grown (B2.out.alloc (by omega) _) hg3 (by simp; omega) (fun b hb => by have := hob b hb; omega))
      have s3 := hg3.size
      simp at s3
      clear ho3 hg3 hat hob
      go_wp2
      go_roundw
      case rel => exact ⟨k + 1, by omega, by go_num, B3.out, by omega, by have := D3.out; rw [show 4 * (k + 1) = 4 * k + 1 + 1 + 1 + 1 by omega]; simpa [List.tail_drop] using this, O3.out⟩
      case measure => simp [intOf]; omega
    · have hk2 : k = many := by omega
      subst hk2
      obtain ⟨gc, hv⟩ : ∃ gc : Nat × Nat, u6 = .slice (some ⟨gc.1, 0, none⟩) k gc.2 := by
        rcases HO.out.2 with ⟨_, h⟩ | ⟨g, c, _, e, _⟩
        · omega
        · exact ⟨(g, c), e⟩
      have HV := Lib.hid hv
      clear hv
      go_wp2
      go_ret
      have ho := HO.out
      rw [HV.out] at ho
      obtain ⟨a1, a2, a3, cs, a4, a5⟩ := ownsRow_own ho (by omega)
      exact ⟨gc.1, gc.2, cs, by rw [← HV.out]; rfl, hbel, by omega, a2, a3, a4, a5⟩
end Go.Proofs.Ythijnggeoinlfaa
