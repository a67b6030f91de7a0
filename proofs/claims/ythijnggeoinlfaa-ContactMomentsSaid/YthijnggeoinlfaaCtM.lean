/- What Made of the reference of package contact returns: a valid contact. The slice holds int64. -/
import Derived.Test.YthijnggeoinlfaaGenW
import Derived.Test.YthijnggeoinlfaaCtC
import Derived.Test.YthijnggeoinlfaaDraw3
namespace Go.Proofs.Ythijnggeoinlfaa
open Go.RowKit

/-- A maker of one block. -/
def blockB (T : List Nat) (o : Obj) (val : Nat → Value) : EBS T where
  val p := val p.1
  R p u := p.1 ∉ T ∧ u.heap[p.1]? = some o
  st a u u' h k := ⟨h.1, by
    have hlt : a.1 < u.heap.size := by
      rcases Nat.lt_or_ge a.1 u.heap.size with h1 | h1
      · exact h1
      · rw [Array.getElem?_eq_none h1] at h; exact absurd h.2 (by simp)
    exact (k.block a.1 hlt h.1).trans h.2⟩
theorem blockB_val {T : List Nat} {o : Obj} {val : Nat → Value} {p : Nat × Nat} : (blockB T o val).val p = val p.1 := rfl
theorem make_block {P : Program} {T : List Nat} {o : Oper} {A : Act} {u : World} {obj : Obj} {val : Nat → Value} (hrun : (execOp A.eval o).run P u = .ok (.value (val u.heap.size)) (u.alloc obj)) (hT : u.heap.size ∉ T) :
    lateOp P o A u (fun v' u' => ∃ p : Nat × Nat, v' = (blockB T obj val).val p ∧ u.heap.size ≤ p.1 ∧ p.1 < u'.heap.size ∧ Below u.heap.size u u' ∧ (blockB T obj val).R p u') := by
  unfold lateOp
  rw [hrun]
  exact ⟨(u.heap.size, 0), rfl, Nat.le_refl _, by simp, (Below.refl _ _).alloc (Nat.le_refl _) _, hT, heap_alloc_new _ _⟩
theorem unitRow {J : Int} (h0 : 0 ≤ J) (h1 : J < 6) : ∃ U : V3, (#[.int .i64 0, .int .i64 0, .int .i64 1, .int .i64 1, .int .i64 0, .int .i64 0, .int .i64 0, .int .i64 1, .int .i64 0, .int .i64 0, .int .i64 0, .int .i64 (-1), .int .i64 (-1), .int .i64 0, .int .i64 0, .int .i64 0, .int .i64 (-1), .int .i64 0] : Array Value)[J.toNat * 3]? = some (.int .i64 U.x) ∧ (#[.int .i64 0, .int .i64 0, .int .i64 1, .int .i64 1, .int .i64 0, .int .i64 0, .int .i64 0, .int .i64 1, .int .i64 0, .int .i64 0, .int .i64 0, .int .i64 (-1), .int .i64 (-1), .int .i64 0, .int .i64 0, .int .i64 0, .int .i64 (-1), .int .i64 0] : Array Value)[J.toNat * 3 + 1]? = some (.int .i64 U.y) ∧ (#[.int .i64 0, .int .i64 0, .int .i64 1, .int .i64 1, .int .i64 0, .int .i64 0, .int .i64 0, .int .i64 1, .int .i64 0, .int .i64 0, .int .i64 0, .int .i64 (-1), .int .i64 (-1), .int .i64 0, .int .i64 0, .int .i64 0, .int .i64 (-1), .int .i64 0] : Array Value)[J.toNat * 3 + 2]? = some (.int .i64 U.z) ∧ cUnit U = true := by
  have : J = 0 ∨ J = 1 ∨ J = 2 ∨ J = 3 ∨ J = 4 ∨ J = 5 := by omega
  rcases this with rfl | rfl | rfl | rfl | rfl | rfl
  · exact ⟨⟨0, 0, 1⟩, rfl, rfl, rfl, by decide⟩
  · exact ⟨⟨1, 0, 0⟩, rfl, rfl, rfl, by decide⟩
  · exact ⟨⟨0, 1, 0⟩, rfl, rfl, rfl, by decide⟩
  · exact ⟨⟨0, 0, -1⟩, rfl, rfl, rfl, by decide⟩
  · exact ⟨⟨-1, 0, 0⟩, rfl, rfl, rfl, by decide⟩
  · exact ⟨⟨0, -1, 0⟩, rfl, rfl, rfl, by decide⟩
theorem muRow {J : Int} (h0 : 0 ≤ J) (h1 : J < 6) : ∃ m d : Int, (#[.int .i64 1, .int .i64 2, .int .i64 1, .int .i64 1, .int .i64 0, .int .i64 1, .int .i64 3, .int .i64 10, .int .i64 2, .int .i64 4, .int .i64 9, .int .i64 10] : Array Value)[J.toNat * 2]? = some (.int .i64 m) ∧ (#[.int .i64 1, .int .i64 2, .int .i64 1, .int .i64 1, .int .i64 0, .int .i64 1, .int .i64 3, .int .i64 10, .int .i64 2, .int .i64 4, .int .i64 9, .int .i64 10] : Array Value)[J.toNat * 2 + 1]? = some (.int .i64 d) ∧ 0 ≤ m ∧ m ≤ d ∧ 1 ≤ d ∧ d ≤ 10 := by
  have : J = 0 ∨ J = 1 ∨ J = 2 ∨ J = 3 ∨ J = 4 ∨ J = 5 := by omega
  rcases this with rfl | rfl | rfl | rfl | rfl | rfl
  · exact ⟨1, 2, rfl, rfl, by omega, by omega, by omega, by omega⟩
  · exact ⟨1, 1, rfl, rfl, by omega, by omega, by omega, by omega⟩
  · exact ⟨0, 1, rfl, rfl, by omega, by omega, by omega, by omega⟩
  · exact ⟨3, 10, rfl, rfl, by omega, by omega, by omega, by omega⟩
  · exact ⟨2, 4, rfl, rfl, by omega, by omega, by omega, by omega⟩
  · exact ⟨9, 10, rfl, rfl, by omega, by omega, by omega, by omega⟩
theorem drawDrop {u : World} {bd : Nat} {l : List Int} {k : Nat} (h : DrawAt u bd (l.drop k).tail) : DrawAt u bd (l.drop (k + 1)) := by
  rwa [List.tail_drop] at h

set_option maxRecDepth 100000 in
set_option maxHeartbeats 2000000 in
theorem ref25_Made (A : Option Addr) (n cap : Nat) (l : List Int) (w : World) (hl : SliceI w A n l) :
    Calls Try.prog 75 #[.slice A n cap] w fun r w' => ∃ c : Ct, r = .returned c.v ∧ CtOk c ∧ Below w.heap.size w w' := by
  have HL := Lib.hid hl
  clear hl
  obtain ⟨J1, hJ1⟩ : ∃ J, nextV l 6 = J := ⟨_, rfl⟩
  obtain ⟨J2, hJ2⟩ : ∃ J, nextV l.tail 6 = J := ⟨_, rfl⟩
  have b1 := nextV_bd l 6 (by omega)
  have b2 := nextV_bd l.tail 6 (by omega)
  rw [hJ1] at b1
  rw [hJ2] at b2
  obtain ⟨b10, b11⟩ := b1
  obtain ⟨b20, b21⟩ := b2
  obtain ⟨U, hU0, hU1, hU2, hUu⟩ := unitRow b10 b11
  obtain ⟨m0, d0, hM0, hM1, hm1, hm2, hm3, hm4⟩ := muRow b20 b21
  go_enter Try.func75, Try.ntmps75
  go_wp2
  have hd0 : DrawAt ((w.alloc (.cells #[.int .i64 0, .int .i64 0, .int .i64 0, .int .i64 0, .int .i64 0, .int .i64 0, .int .i64 0, .int .i64 0] 66)).alloc (.cells #[.slice A n cap, .int .i64 0] 85)) (w.heap.size + 1) l := by
    have := DrawAt.start (cap := cap) (T := 85) (HL.out.below ((Below.refl _ _).alloc (Nat.le_refl _) (.cells #[.int .i64 0, .int .i64 0, .int .i64 0, .int .i64 0, .int .i64 0, .int .i64 0, .int .i64 0, .int .i64 0] 66)))
    simpa using this
  have ho0 : Own ((w.alloc (.cells #[.int .i64 0, .int .i64 0, .int .i64 0, .int .i64 0, .int .i64 0, .int .i64 0, .int .i64 0, .int .i64 0] 66)).alloc (.cells #[.slice A n cap, .int .i64 0] 85)) w.heap.size #[.int .i64 0, .int .i64 0, .int .i64 0, .int .i64 0, .int .i64 0, .int .i64 0, .int .i64 0, .int .i64 0] := (by repeat' (first | ((refine Own.new ?_); (focus (first | rfl | omega | (simp; done) | (simp; omega)))) | assumption | refine Own.alloc ?_ _ | refine Own.drew ?_ | (refine Own.far ?_ ?_ _; rotate_left; (focus (first | rfl | omega | (simp; done) | (simp; omega))))))
  have hw0 : Below w.heap.size w ((w.alloc (.cells #[.int .i64 0, .int .i64 0, .int .i64 0, .int .i64 0, .int .i64 0, .int .i64 0, .int .i64 0, .int .i64 0] 66)).alloc (.cells #[.slice A n cap, .int .i64 0] 85)) := (by repeat' (first | exact Below.refl _ _ | assumption | (refine Below.alloc ?_ ?_ _; rotate_left; (focus (first | rfl | omega | (simp; done) | (simp; omega)))) | (refine Below.setCell ?_ ?_ _; rotate_left; (focus (first | rfl | omega | (simp; done) | (simp; omega)))) | refine Below.drew ?_))
  have hs0 : ((w.alloc (.cells #[.int .i64 0, .int .i64 0, .int .i64 0, .int .i64 0, .int .i64 0, .int .i64 0, .int .i64 0, .int .i64 0] 66)).alloc (.cells #[.slice A n cap, .int .i64 0] 85)).heap.size = w.heap.size + 1 + 1 := by simp
  generalize ((w.alloc (.cells #[.int .i64 0, .int .i64 0, .int .i64 0, .int .i64 0, .int .i64 0, .int .i64 0, .int .i64 0, .int .i64 0] 66)).alloc (.cells #[.slice A n cap, .int .i64 0] 85)) = W at *
  refine region_gen (T := [w.heap.size + 1]) [.make 6 [] (blockB [w.heap.size + 1] (.cells #[.int .i64 0, .int .i64 0, .int .i64 1, .int .i64 1, .int .i64 0, .int .i64 0, .int .i64 0, .int .i64 1, .int .i64 0, .int .i64 0, .int .i64 0, .int .i64 (-1), .int .i64 (-1), .int .i64 0, .int .i64 0, .int .i64 0, .int .i64 (-1), .int .i64 0] 24) (fun p => .slice (some ⟨p, 0, none⟩) 6 6)), .step 8 (.int .i64 J1), .need 9 [6], .need 11 [], .make 17 [] (blockB [w.heap.size + 1] (.cells #[.int .i64 1, .int .i64 2, .int .i64 1, .int .i64 1, .int .i64 0, .int .i64 1, .int .i64 3, .int .i64 10, .int .i64 2, .int .i64 4, .int .i64 9, .int .i64 10] 64) (fun p => .slice (some ⟨p, 0, none⟩) 6 6)), .step 19 (.int .i64 J2), .need 20 [17], .need 22 [], .make 23 [] (blockB [w.heap.size + 1] (.cells #[.int .i64 0, .int .i64 0, .int .i64 0, .int .i64 0, .int .i64 0, .int .i64 0, .int .i64 0, .int .i64 0] 66) (fun p => .pointer (some ⟨p, 0, none⟩)))] 24 2 30
    (fun k u => DrawAt u (w.heap.size + 1) (l.drop k)) (fun k u u' h hb => h.below hb) hd0 (by kernel_rfl) (by kernel_rfl) (by rfl) ?_
  unfold genWalk
  apply Exists.intro
  apply And.intro
  · apply Piece.mk
    · intro f v hv hr hne
      simp only [List.take_succ_cons, List.take_zero, List.drop_zero, Nat.reduceSub]
      repeat (go_big_quiet_step (fail))
      refine wpQuiet_nil ?_
      exact rfl
    · intro f; rfl
    · intro f f' hf; rfl
  simp only [List.take_succ_cons, List.take_zero, List.drop_succ_cons, List.drop_zero, Nat.reduceAdd, oneOp]
  refine ⟨fun f => ⟨rfl, fun u hu _ => make_block (by (try simp only [Act.put, List.setIfInBounds_toArray, List.set_cons_zero, List.set_cons_succ]); (try simp only [blockB_val]); go_simp) (by have := hu.1; simp; omega)⟩, ?_⟩
  unfold genWalk
  apply Exists.intro
  apply And.intro
  · apply Piece.mk
    · intro f v hv hr hne
      simp only [List.take_succ_cons, List.take_zero, List.drop_succ_cons, List.drop_zero, Nat.reduceSub]
      (try simp only [Act.put, List.setIfInBounds_toArray, List.set_cons_zero, List.set_cons_succ])
      (try simp only [blockB_val])
      repeat (go_big_quiet_step (fail))
      refine wpQuiet_nil ?_
      exact rfl
    · intro f; rfl
    · intro f f' hf; simp [List.getElem?_toArray]
  simp only [List.take_succ_cons, List.take_zero, List.drop_succ_cons, List.drop_zero, Nat.reduceAdd, oneOp]
  refine ⟨fun f => ⟨rfl, fun u hu hp => ?_⟩, ?_⟩
  · (try simp only)
    (try simp only [blockB_val])
    go_simp
    refine (ref1_Next (w.heap.size + 1) _ 6 (by omega) (by omega) _ hp).mono ?_
    rintro e w' ⟨rfl, hup, hd⟩
    exact ⟨_, rfl, congrArg (Value.int IntKind.i64) (by simpa using hJ1), hup, by have h := drawDrop hd; simpa using h⟩
  unfold genWalk
  apply Exists.intro
  apply And.intro
  · apply Piece.mk
    · intro f v hv hr hne
      simp only [List.take_zero, List.drop_succ_cons, List.drop_zero, Nat.reduceSub]
      (try simp only [Act.put, List.setIfInBounds_toArray, List.set_cons_zero, List.set_cons_succ])
      (try simp only [blockB_val])
      refine wpQuiet_nil ?_
      exact rfl
    · intro f; rfl
    · intro f f' hf; simp
  unfold genWalk
  apply Exists.intro
  apply And.intro
  · apply Piece.mk
    · intro f v hv hr hne
      simp only [List.take_succ_cons, List.take_zero, List.drop_succ_cons, List.drop_zero, Nat.reduceSub]
      (try simp only [Act.put, List.setIfInBounds_toArray, List.set_cons_zero, List.set_cons_succ])
      (try simp only [blockB_val])
      have h6 : Own v (f 6).1 #[.int .i64 0, .int .i64 0, .int .i64 1, .int .i64 1, .int .i64 0, .int .i64 0, .int .i64 0, .int .i64 1, .int .i64 0, .int .i64 0, .int .i64 0, .int .i64 (-1), .int .i64 (-1), .int .i64 0, .int .i64 0, .int .i64 0, .int .i64 (-1), .int .i64 0] := ⟨_, (hr 6 (by simp)).2⟩
      have ht6 : (f 6).1 ∉ [w.heap.size + 1] := (hr 6 (by simp)).1
      have e0 := fun x : Later [w.heap.size + 1] W v => (((h6.below x.g).cell (J1.toNat * 3)).trans hU0)
      have e1 := fun x : Later [w.heap.size + 1] W v => (((h6.below x.g).cell (J1.toNat * 3 + 1)).trans hU1)
      have e2 := fun x : Later [w.heap.size + 1] W v => (((h6.below x.g).cell (J1.toNat * 3 + 2)).trans hU2)
      repeat (go_big_quiet_step (fail))
      refine wpQuiet_nil ?_
      exact rfl
    · intro f; rfl
    · intro f f' hf; simp [List.getElem?_toArray]; rw [hf 6 (by simp)]
  unfold genWalk
  apply Exists.intro
  apply And.intro
  · apply Piece.mk
    · intro f v hv hr hne
      simp only [List.take_succ_cons, List.take_zero, List.drop_succ_cons, List.drop_zero, Nat.reduceSub]
      (try simp only [Act.put, List.setIfInBounds_toArray, List.set_cons_zero, List.set_cons_succ])
      (try simp only [blockB_val])
      repeat (go_big_quiet_step (fail))
      refine wpQuiet_nil ?_
      exact rfl
    · intro f; rfl
    · intro f f' hf; simp [List.getElem?_toArray]
  simp only [List.take_succ_cons, List.take_zero, List.drop_succ_cons, List.drop_zero, Nat.reduceAdd, oneOp]
  refine ⟨fun f => ⟨rfl, fun u hu _ => make_block (by (try simp only [Act.put, List.setIfInBounds_toArray, List.set_cons_zero, List.set_cons_succ]); (try simp only [blockB_val]); go_simp) (by have := hu.1; simp; omega)⟩, ?_⟩
  unfold genWalk
  apply Exists.intro
  apply And.intro
  · apply Piece.mk
    · intro f v hv hr hne
      simp only [List.take_succ_cons, List.take_zero, List.drop_succ_cons, List.drop_zero, Nat.reduceSub]
      (try simp only [Act.put, List.setIfInBounds_toArray, List.set_cons_zero, List.set_cons_succ])
      (try simp only [blockB_val])
      repeat (go_big_quiet_step (fail))
      refine wpQuiet_nil ?_
      exact rfl
    · intro f; rfl
    · intro f f' hf; simp [List.getElem?_toArray]
  simp only [List.take_succ_cons, List.take_zero, List.drop_succ_cons, List.drop_zero, Nat.reduceAdd, oneOp]
  refine ⟨fun f => ⟨rfl, fun u hu hp => ?_⟩, ?_⟩
  · (try simp only)
    (try simp only [blockB_val])
    go_simp
    refine (ref1_Next (w.heap.size + 1) _ 6 (by omega) (by omega) _ hp).mono ?_
    rintro e w' ⟨rfl, hup, hd⟩
    exact ⟨_, rfl, congrArg (Value.int IntKind.i64) (by simpa using hJ2), hup, by have h := drawDrop hd; simpa using h⟩
  unfold genWalk
  apply Exists.intro
  apply And.intro
  · apply Piece.mk
    · intro f v hv hr hne
      simp only [List.take_zero, List.drop_succ_cons, List.drop_zero, Nat.reduceSub]
      (try simp only [Act.put, List.setIfInBounds_toArray, List.set_cons_zero, List.set_cons_succ])
      (try simp only [blockB_val])
      refine wpQuiet_nil ?_
      exact rfl
    · intro f; rfl
    · intro f f' hf; simp
  unfold genWalk
  apply Exists.intro
  apply And.intro
  · apply Piece.mk
    · intro f v hv hr hne
      simp only [List.take_succ_cons, List.take_zero, List.drop_succ_cons, List.drop_zero, Nat.reduceSub]
      (try simp only [Act.put, List.setIfInBounds_toArray, List.set_cons_zero, List.set_cons_succ])
      (try simp only [blockB_val])
      have h17 : Own v (f 17).1 #[.int .i64 1, .int .i64 2, .int .i64 1, .int .i64 1, .int .i64 0, .int .i64 1, .int .i64 3, .int .i64 10, .int .i64 2, .int .i64 4, .int .i64 9, .int .i64 10] := ⟨_, (hr 17 (by simp)).2⟩
      have ht17 : (f 17).1 ∉ [w.heap.size + 1] := (hr 17 (by simp)).1
      have e0 := fun x : Later [w.heap.size + 1] W v => (((h17.below x.g).cell (J2.toNat * 2)).trans hM0)
      have e1 := fun x : Later [w.heap.size + 1] W v => (((h17.below x.g).cell (J2.toNat * 2 + 1)).trans hM1)
      repeat (go_big_quiet_step (fail))
      refine wpQuiet_nil ?_
      exact rfl
    · intro f; rfl
    · intro f f' hf; simp [List.getElem?_toArray]; rw [hf 17 (by simp)]
  unfold genWalk
  apply Exists.intro
  apply And.intro
  · apply Piece.mk
    · intro f v hv hr hne
      simp only [List.take_succ_cons, List.take_zero, List.drop_succ_cons, List.drop_zero, Nat.reduceSub]
      (try simp only [Act.put, List.setIfInBounds_toArray, List.set_cons_zero, List.set_cons_succ])
      (try simp only [blockB_val])
      repeat (go_big_quiet_step (fail))
      refine wpQuiet_nil ?_
      exact rfl
    · intro f; rfl
    · intro f f' hf; simp [List.getElem?_toArray]
  simp only [List.take_succ_cons, List.take_zero, List.drop_succ_cons, List.drop_zero, Nat.reduceAdd, oneOp]
  refine ⟨fun f => ⟨rfl, fun u hu _ => make_block (by (try simp only [Act.put, List.setIfInBounds_toArray, List.set_cons_zero, List.set_cons_succ]); (try simp only [blockB_val]); go_simp) (by have := hu.1; simp; omega)⟩, ?_⟩
  unfold genWalk
  apply Exists.intro
  apply And.intro
  · apply Piece.mk
    · intro f v hv hr hne
      simp only [List.take_zero, List.drop_succ_cons, List.drop_zero, Nat.reduceSub]
      (try simp only [Act.put, List.setIfInBounds_toArray, List.set_cons_zero, List.set_cons_succ])
      (try simp only [blockB_val])
      refine wpQuiet_nil ?_
      exact rfl
    · intro f; rfl
    · intro f f' hf; simp
  intro f u' hup hp hmade hdist
  have hp : DrawAt u' (w.heap.size + 1) (l.drop 2) := hp
  have m23 := hmade 23 (by omega) rfl
  obtain ⟨⟨hT23, hc23⟩, hlo, hhi⟩ := m23
  simp only
  have oc : Own u' (f 23).1 #[.int .i64 0, .int .i64 0, .int .i64 0, .int .i64 0, .int .i64 0, .int .i64 0, .int .i64 0, .int .i64 0] := ⟨_, hc23⟩
  have occ := oc.cell
  have ocf := oc.thaw
  refine effc_mem (by rfl) (fun K hK => ?_)
  go_simp
  refine hK _ _ (((((((((Upd.keeps (Keeps.refl _ _) hup).new (by simp; omega) _).new (by simp; omega) _).new (by simp; omega) _).new (by simp; omega) _).new (by simp; omega) _).new (by simp; omega) _).new (by simp; omega) _).new (by simp; omega) _) (fun u2 hu2 => ?_)
  clear hK K
  have o2 : Own u2 (f 23).1 #[.int .i64 0, .int .i64 0, .int .i64 0, .int .i64 U.x, .int .i64 U.y, .int .i64 U.z, .int .i64 m0, .int .i64 d0] := ((((((((oc.set 0 _).set 1 _).set 2 _).set 3 _).set 4 _).set 5 _).set 6 _).set 7 _).below hu2
  have hU : Upd [w.heap.size + 1] W u2 := ((((((((hup.setNew (by simp; omega) _).setNew (by simp; omega) _).setNew (by simp; omega) _).setNew (by simp; omega) _).setNew (by simp; omega) _).setNew (by simp; omega) _).setNew (by simp; omega) _).setNew (by simp; omega) _).hop hu2
  have hD : DrawAt u2 (w.heap.size + 1) (l.drop 2) := hp.of_blocks (fun i hi => by
    rw [hu2.block i (by simp; omega)]
    rw [Below.heap_setCell _ _ _ _ (by simp; omega)]; rw [Below.heap_setCell _ _ _ _ (by simp; omega)]; rw [Below.heap_setCell _ _ _ _ (by simp; omega)]; rw [Below.heap_setCell _ _ _ _ (by simp; omega)]; rw [Below.heap_setCell _ _ _ _ (by simp; omega)]; rw [Below.heap_setCell _ _ _ _ (by simp; omega)]; rw [Below.heap_setCell _ _ _ _ (by simp; omega)]; rw [Below.heap_setCell _ _ _ _ (by simp; omega)])
  have hr0 : Own u2 w.heap.size #[.int .i64 0, .int .i64 0, .int .i64 0, .int .i64 0, .int .i64 0, .int .i64 0, .int .i64 0, .int .i64 0] := ho0.upd hU (by simp)
  have hwB : Below w.heap.size w u2 := Upd.below hw0 hU (by simp)
  have hlo2 : w.heap.size + 2 ≤ (f 23).1 := by omega
  have HD := Lib.hid hD
  clear hD hp hmade hdist oc occ ocf hup hc23 hu2 hd0 ho0 hw0 hT23
  generalize (f 23).1 = B at *
  refine effc_nil ?_
  (try simp only [Act.put])
  (try simp only [blockB_val])
  go_wp2_with fail
  refine Calls.mono (ref7_Vec (w.heap.size + 1) _ 8 (by omega) (by omega) _ HD.out) ?_
  rintro e w3 ⟨rfl, hu3, hd3⟩
  have o3 : Own w3 B #[.int .i64 0, .int .i64 0, .int .i64 0, .int .i64 U.x, .int .i64 U.y, .int .i64 U.z, .int .i64 m0, .int .i64 d0] := o2.upd hu3 (by simp; omega)
  have r3 : Own w3 w.heap.size #[.int .i64 0, .int .i64 0, .int .i64 0, .int .i64 0, .int .i64 0, .int .i64 0, .int .i64 0, .int .i64 0] := hr0.upd hu3 (by simp)
  have hwB3 : Below w.heap.size w w3 := Upd.below hwB hu3 (by simp)
  have vb := vecV_bd (l.drop 2) 8 (by omega)
  generalize vecV (l.drop 2) 8 = X at *
  clear hd3 hu3 o2 hr0 hwB HD
  have o3c := o3.cell
  have o3f := o3.thaw
  have r3c := r3.cell
  have r3f := r3.thaw
  go_wp2
  have vat : vIn X = true := by unfold vIn inB; simp; omega
  exact retC (b := w.heap.size) (v := Ct.v ⟨X, U, m0, d0⟩) (cs := #[.int .i64 X.x, .int .i64 X.y, .int .i64 X.z, .int .i64 U.x, .int .i64 U.y, .int .i64 U.z, .int .i64 m0, .int .i64 d0]) (((((((((((r3.far (p := ⟨B, 0, none⟩) (by simp; omega) _).far (p := ⟨B, 1, none⟩) (by simp; omega) _).far (p := ⟨B, 2, none⟩) (by simp; omega) _).set 0 _).set 1 _).set 2 _).set 3 _).set 4 _).set 5 _).set 6 _).set 7 _) (fun w' hw' => by simp [results, Try.results75, go_sem, hw']) rfl ⟨⟨X, U, m0, d0⟩, rfl, ⟨vat, hUu, hm1, hm2, hm3, hm4⟩, (((((((((((hwB3.setCell (by simp; omega) _).setCell (by simp; omega) _).setCell (by simp; omega) _).setCell (by simp) _).setCell (by simp) _).setCell (by simp) _).setCell (by simp) _).setCell (by simp) _).setCell (by simp) _).setCell (by simp) _).setCell (by simp) _)⟩
end Go.Proofs.Ythijnggeoinlfaa
