/- What Made of the reference of package contact returns, said outright, and made of the laws. The slice holds int64. -/
import Derived.Test.YthijnggeoinlfaaCtN
namespace Go.Proofs.Ythijnggeoinlfaa
open Go.RowKit

def unitAt (J : Int) : V3 := ([⟨0, 0, 1⟩, ⟨1, 0, 0⟩, ⟨0, 1, 0⟩, ⟨0, 0, -1⟩, ⟨-1, 0, 0⟩, ⟨0, -1, 0⟩] : List V3).getD J.toNat ⟨0, 0, 0⟩
def muAt (J : Int) : Int × Int := ([(1, 2), (1, 1), (0, 1), (3, 10), (2, 4), (9, 10)] : List (Int × Int)).getD J.toNat (0, 0)
def madeC (l : List Int) : Ct := ⟨vecV (l.drop 2) 8, unitAt (nextV l 6), (muAt (nextV l.tail 6)).1, (muAt (nextV l.tail 6)).2⟩
theorem unitRow2 {J : Int} (h0 : 0 ≤ J) (h1 : J < 6) : ∃ U : V3, unitAt J = U ∧ (#[.int .i64 0, .int .i64 0, .int .i64 1, .int .i64 1, .int .i64 0, .int .i64 0, .int .i64 0, .int .i64 1, .int .i64 0, .int .i64 0, .int .i64 0, .int .i64 (-1), .int .i64 (-1), .int .i64 0, .int .i64 0, .int .i64 0, .int .i64 (-1), .int .i64 0] : Array Value)[J.toNat * 3]? = some (.int .i64 U.x) ∧ (#[.int .i64 0, .int .i64 0, .int .i64 1, .int .i64 1, .int .i64 0, .int .i64 0, .int .i64 0, .int .i64 1, .int .i64 0, .int .i64 0, .int .i64 0, .int .i64 (-1), .int .i64 (-1), .int .i64 0, .int .i64 0, .int .i64 0, .int .i64 (-1), .int .i64 0] : Array Value)[J.toNat * 3 + 1]? = some (.int .i64 U.y) ∧ (#[.int .i64 0, .int .i64 0, .int .i64 1, .int .i64 1, .int .i64 0, .int .i64 0, .int .i64 0, .int .i64 1, .int .i64 0, .int .i64 0, .int .i64 0, .int .i64 (-1), .int .i64 (-1), .int .i64 0, .int .i64 0, .int .i64 0, .int .i64 (-1), .int .i64 0] : Array Value)[J.toNat * 3 + 2]? = some (.int .i64 U.z) ∧ cUnit U = true := by
  have : J = 0 ∨ J = 1 ∨ J = 2 ∨ J = 3 ∨ J = 4 ∨ J = 5 := by omega
  rcases this with rfl | rfl | rfl | rfl | rfl | rfl <;> exact ⟨_, rfl, rfl, rfl, rfl, by decide⟩
theorem muRow2 {J : Int} (h0 : 0 ≤ J) (h1 : J < 6) : ∃ m d : Int, muAt J = (m, d) ∧ (#[.int .i64 1, .int .i64 2, .int .i64 1, .int .i64 1, .int .i64 0, .int .i64 1, .int .i64 3, .int .i64 10, .int .i64 2, .int .i64 4, .int .i64 9, .int .i64 10] : Array Value)[J.toNat * 2]? = some (.int .i64 m) ∧ (#[.int .i64 1, .int .i64 2, .int .i64 1, .int .i64 1, .int .i64 0, .int .i64 1, .int .i64 3, .int .i64 10, .int .i64 2, .int .i64 4, .int .i64 9, .int .i64 10] : Array Value)[J.toNat * 2 + 1]? = some (.int .i64 d) ∧ 0 ≤ m ∧ m ≤ d ∧ 1 ≤ d ∧ d ≤ 10 := by
  have : J = 0 ∨ J = 1 ∨ J = 2 ∨ J = 3 ∨ J = 4 ∨ J = 5 := by omega
  rcases this with rfl | rfl | rfl | rfl | rfl | rfl <;> exact ⟨_, _, rfl, rfl, rfl, by decide, by decide, by decide, by decide⟩
theorem madeC_ok (l : List Int) : CtOk (madeC l) := by
  have b1 := nextV_bd l 6 (by omega)
  have b2 := nextV_bd l.tail 6 (by omega)
  obtain ⟨U, e1, _, _, _, hU⟩ := unitRow2 b1.1 b1.2
  obtain ⟨m, d, e2, _, _, h1, h2, h3, h4⟩ := muRow2 b2.1 b2.2
  have vb := vecV_bd (l.drop 2) 8 (by omega)
  unfold madeC
  rw [e1, e2]
  exact ⟨by simp only []; unfold vIn inB; simp; omega, hU, h1, h2, h3, h4⟩

set_option maxRecDepth 100000 in
set_option maxHeartbeats 2000000 in
theorem ref25_Made2 (A : Option Addr) (n cap : Nat) (l : List Int) (w : World) (hl : SliceI w A n l) :
    Calls Try.prog 75 #[.slice A n cap] w fun r w' => r = .returned (madeC l).v ∧ Below w.heap.size w w' := by
  have HL := Lib.hid hl
  clear hl
  obtain ⟨J1, hJ1⟩ : ∃ J, nextV l 6 = J := ⟨_, rfl⟩
  obtain ⟨J2, hJ2⟩ : ∃ J, nextV l.tail 6 = J := ⟨_, rfl⟩
  have b1 := nextV_bd l 6 (by omega)
  have b2 := nextV_bd l.tail 6 (by omega)
  rw [hJ1] at b1
  rw [hJ2] at b2
  obtain ⟨b10, b11⟩ := b1
  obtain ⟨b20, b21⟩ := b2
  obtain ⟨U, hUe, hU0, hU1, hU2, _⟩ := unitRow2 b10 b11
  obtain ⟨m0, d0, hMe, hM0, hM1, _⟩ := muRow2 b20 b21
  have HMC : Hid (madeC l = ⟨vecV (l.drop 2) 8, U, m0, d0⟩) := Lib.hid (by unfold madeC; rw [hJ1, hJ2, hUe, hMe])
  clear hUe hMe
  go_enter Try.func75, Try.ntmps75
  go_wp2
  have hd0 : DrawAt ((w.alloc (.cells #[.int .i64 0, .int .i64 0, .int .i64 0, .int .i64 0, .int .i64 0, .int .i64 0, .int .i64 0, .int .i64 0] 66)).alloc (.cells #[.slice A n cap, .int .i64 0] 85)) (w.heap.size + 1) l := by
    have := DrawAt.start (cap := cap) (T := 85) (HL.out.below ((Below.refl _ _).alloc (Nat.le_refl _) (.cells #[.int .i64 0, .int .i64 0, .int .i64 0, .int .i64 0, .int .i64 0, .int .i64 0, .int .i64 0, .int .i64 0] 66)))
    simpa using this
  have ho0 : Own ((w.alloc (.cells #[.int .i64 0, .int .i64 0, .int .i64 0, .int .i64 0, .int .i64 0, .int .i64 0, .int .i64 0, .int .i64 0] 66)).alloc (.cells #[.slice A n cap, .int .i64 0] 85)) w.heap.size #[.int .i64 0, .int .i64 0, .int .i64 0, .int .i64 0, .int .i64 0, .int .i64 0, .int .i64 0, .int .i64 0] := (by repeat' (first | ((refine Own.new ?_); (focus (first | rfl | omega | (simp; done) | (simp; omega)))) | assumption | refine Own.alloc ?_ _ | refine Own.drew ?_ | (refine Own.far ?_ ?_ _; rotate_left; (focus (first | rfl | omega | (simp; done) | (simp; omega))))))
  have hw0 : Below w.heap.size w ((w.alloc (.cells #[.int .i64 0, .int .i64 0, .int .i64 0, .int .i64 0, .int .i64 0, .int .i64 0, .int .i64 0, .int .i64 0] 66)).alloc (.cells #[.slice A n cap, .int .i64 0] 85)) := (by repeat' (first | exact Below.refl _ _ | assumption | (refine Below.alloc ?_ ?_ _; rotate_left; (focus (first | rfl | omega | (simp; done) | (simp; omega)))) | (refine Below.setCell ?_ ?_ _; rotate_left; (focus (first | rfl | omega | (simp; done) | (simp; omega)))) | refine Below.drew ?_))
  have hs0 : ((w.alloc (.cells #[.int .i64 0, .int .i64 0, .int .i64 0, .int .i64 0, .int .i64 0, .int .i64 0, .int .i64 0, .int .i64 0] 66)).alloc (.cells #[.slice A n cap, .int .i64 0] 85)).heap.size = w.heap.size + 1 + 1 := by simp
  generalize ((w.alloc (.cells #[.int .i64 0, .int .i64 0, .int .i64 0, .int .i64 0, .int .i64 0, .int .i64 0, .int .i64 0, .int .i64 0] 66)).alloc (.cells #[.slice A n cap, .int .i64 0] 85)) = W at *
  refine region_gen (T := [w.heap.size + 1]) [.make 6 [] (blockB [w.heap.size + 1] (.cells #[.int .i64 0, .int .i64 0, .int .i64 1, .int .i64 1, .int .i64 0, .int .i64 0, .int .i64 0, .int .i64 1, .int .i64 0, .int .i64 0, .int .i64 0, .int .i64 (-1), .int .i64 (-1), .int .i64 0, .int .i64 0, .int .i64 0, .int .i64 (-1), .int .i64 0] 24) (fun p => .slice (some ⟨p, 0, none⟩) 6 6)), .step 8 (.int .i64 J1), .need 9 [6], .need 11 [], .make 17 [] (blockB [w.heap.size + 1] (.cells #[.int .i64 1, .int .i64 2, .int .i64 1, .int .i64 1, .int .i64 0, .int .i64 1, .int .i64 3, .int .i64 10, .int .i64 2, .int .i64 4, .int .i64 9, .int .i64 10] 64) (fun p => .slice (some ⟨p, 0, none⟩) 6 6)), .step 19 (.int .i64 J2), .need 20 [17], .need 22 [], .make 23 [] (blockB [w.heap.size + 1] (.cells #[.int .i64 0, .int .i64 0, .int .i64 0, .int .i64 0, .int .i64 0, .int .i64 0, .int .i64 0, .int .i64 0] 66) (fun p => .pointer (some ⟨p, 0, none⟩)))] 24 2 30
    (fun k u => DrawAt u (w.heap.size + 1) (l.drop k)) (fun k u u' h hb => h.below hb) hd0 (by kernel_rfl) (by kernel_rfl) (by rfl) ?_
  unfold genWalk
  apply Exists.intro
  apply And.intro
  · apply Piece.mk
    · intro f v hv hr hne
      simp only [List.take_succ_cons, List.take_zero, List.drop_zero, Nat.reduceSub]
      repeat (go_big_quiet_step (fail))
      refine wpQuiet_nil ?_
      exact rfl
    · intro f; rfl
    · intro f f' hf; rfl
  simp only [List.take_succ_cons, List.take_zero, List.drop_succ_cons, List.drop_zero, Nat.reduceAdd, oneOp]
  refine ⟨fun f => ⟨rfl, fun u hu _ => make_block (by (try simp only [Act.put, List.setIfInBounds_toArray, List.set_cons_zero, List.set_cons_succ]); (try simp only [blockB_val]); go_simp) (by have := hu.1; simp; omega)⟩, ?_⟩
  unfold genWalk
  apply Exists.intro
  apply And.intro
  · apply Piece.mk
    · intro f v hv hr hne
      simp only [List.take_succ_cons, List.take_zero, List.drop_succ_cons, List.drop_zero, Nat.reduceSub]
      (try simp only [Act.put, List.setIfInBounds_toArray, List.set_cons_zero, List.set_cons_succ])
      (try simp only [blockB_val])
      repeat (go_big_quiet_step (fail))
      refine wpQuiet_nil ?_
      exact rfl
    · intro f; rfl
    · intro f f' hf; simp [List.getElem?_toArray]
  simp only [List.take_succ_cons, List.take_zero, List.drop_succ_cons, List.drop_zero, Nat.reduceAdd, oneOp]
  refine ⟨fun f => ⟨rfl, fun u hu hp => ?_⟩, ?_⟩
  · (try simp only)
    (try simp only [blockB_val])
    go_simp
    refine (ref1_Next (w.heap.size + 1) _ 6 (by omega) (by omega) _ hp).mono ?_
    rintro e w' ⟨rfl, hup, hd⟩
    exact ⟨_, rfl, congrArg (Value.int IntKind.i64) (by simpa using hJ1), hup, by have h := drawDrop hd; simpa using h⟩
  unfold genWalk
  apply Exists.intro
  apply And.intro
  · apply Piece.mk
    · intro f v hv hr hne
      simp only [List.take_zero, List.drop_succ_cons, List.drop_zero, Nat.reduceSub]
      (try simp only [Act.put, List.setIfInBounds_toArray, List.set_cons_zero, List.set_cons_succ])
      (try simp only [blockB_val])
      refine wpQuiet_nil ?_
      exact rfl
    · intro f; rfl
    · intro f f' hf; simp
  unfold genWalk
  apply Exists.intro
  apply And.intro
  · apply Piece.mk
    · intro f v hv hr hne
      simp only [List.take_succ_cons, List.take_zero, List.drop_succ_cons, List.drop_zero, Nat.reduceSub]
      (try simp only [Act.put, List.setIfInBounds_toArray, List.set_cons_zero, List.set_cons_succ])
      (try simp only [blockB_val])
      have h6 : Own v (f 6).1 #[.int .i64 0, .int .i64 0, .int .i64 1, .int .i64 1, .int .i64 0, .int .i64 0, .int .i64 0, .int .i64 1, .int .i64 0, .int .i64 0, .int .i64 0, .int .i64 (-1), .int .i64 (-1), .int .i64 0, .int .i64 0, .int .i64 0, .int .i64 (-1), .int .i64 0] := ⟨_, (hr 6 (by simp)).2⟩
      have ht6 : (f 6).1 ∉ [w.heap.size + 1] := (hr 6 (by simp)).1
      have e0 := fun x : Later [w.heap.size + 1] W v => (((h6.below x.g).cell (J1.toNat * 3)).trans hU0)
      have e1 := fun x : Later [w.heap.size + 1] W v => (((h6.below x.g).cell (J1.toNat * 3 + 1)).trans hU1)
      have e2 := fun x : Later [w.heap.size + 1] W v => (((h6.below x.g).cell (J1.toNat * 3 + 2)).trans hU2)
      repeat (go_big_quiet_step (fail))
      refine wpQuiet_nil ?_
      exact rfl
    · intro f; rfl
    · intro f f' hf; simp [List.getElem?_toArray]; rw [hf 6 (by simp)]
  unfold genWalk
  apply Exists.intro
  apply And.intro
  · apply Piece.mk
    · intro f v hv hr hne
      simp only [List.take_succ_cons, List.take_zero, List.drop_succ_cons, List.drop_zero, Nat.reduceSub]
      (try simp only [Act.put, List.setIfInBounds_toArray, List.set_cons_zero, List.set_cons_succ])
      (try simp only [blockB_val])
      repeat (go_big_quiet_step (fail))
      refine wpQuiet_nil ?_
      exact rfl
    · intro f; rfl
    · intro f f' hf; simp [List.getElem?_toArray]
  simp only [List.take_succ_cons, List.take_zero, List.drop_succ_cons, List.drop_zero, Nat.reduceAdd, oneOp]
  refine ⟨fun f => ⟨rfl, fun u hu _ => make_block (by (try simp only [Act.put, List.setIfInBounds_toArray, List.set_cons_zero, List.set_cons_succ]); (try simp only [blockB_val]); go_simp) (by have := hu.1; simp; omega)⟩, ?_⟩
  unfold genWalk
  apply Exists.intro
  apply And.intro
  · apply Piece.mk
    · intro f v hv hr hne
      simp only [List.take_succ_cons, List.take_zero, List.drop_succ_cons, List.drop_zero, Nat.reduceSub]
      (try simp only [Act.put, List.setIfInBounds_toArray, List.set_cons_zero, List.set_cons_succ])
      (try simp only [blockB_val])
      repeat (go_big_quiet_step (fail))
      refine wpQuiet_nil ?_
      exact rfl
    · intro f; rfl
    · intro f f' hf; simp [List.getElem?_toArray]
  simp only [List.take_succ_cons, List.take_zero, List.drop_succ_cons, List.drop_zero, Nat.reduceAdd, oneOp]
  refine ⟨fun f => ⟨rfl, fun u hu hp => ?_⟩, ?_⟩
  · (try simp only)
    (try simp only [blockB_val])
    go_simp
    refine (ref1_Next (w.heap.size + 1) _ 6 (by omega) (by omega) _ hp).mono ?_
    rintro e w' ⟨rfl, hup, hd⟩
    exact ⟨_, rfl, congrArg (Value.int IntKind.i64) (by simpa using hJ2), hup, by have h := drawDrop hd; simpa using h⟩
  unfold genWalk
  apply Exists.intro
  apply And.intro
  · apply Piece.mk
    · intro f v hv hr hne
      simp only [List.take_zero, List.drop_succ_cons, List.drop_zero, Nat.reduceSub]
      (try simp only [Act.put, List.setIfInBounds_toArray, List.set_cons_zero, List.set_cons_succ])
      (try simp only [blockB_val])
      refine wpQuiet_nil ?_
      exact rfl
    · intro f; rfl
    · intro f f' hf; simp
  unfold genWalk
  apply Exists.intro
  apply And.intro
  · apply Piece.mk
    · intro f v hv hr hne
      simp only [List.take_succ_cons, List.take_zero, List.drop_succ_cons, List.drop_zero, Nat.reduceSub]
      (try simp only [Act.put, List.setIfInBounds_toArray, List.set_cons_zero, List.set_cons_succ])
      (try simp only [blockB_val])
      have h17 : Own v (f 17).1 #[.int .i64 1, .int .i64 2, .int .i64 1, .int .i64 1, .int .i64 0, .int .i64 1, .int .i64 3, .int .i64 10, .int .i64 2, .int .i64 4, .int .i64 9, .int .i64 10] := ⟨_, (hr 17 (by simp)).2⟩
      have ht17 : (f 17).1 ∉ [w.heap.size + 1] := (hr 17 (by simp)).1
      have e0 := fun x : Later [w.heap.size + 1] W v => (((h17.below x.g).cell (J2.toNat * 2)).trans hM0)
      have e1 := fun x : Later [w.heap.size + 1] W v => (((h17.below x.g).cell (J2.toNat * 2 + 1)).trans hM1)
      repeat (go_big_quiet_step (fail))
      refine wpQuiet_nil ?_
      exact rfl
    · intro f; rfl
    · intro f f' hf; simp [List.getElem?_toArray]; rw [hf 17 (by simp)]
  unfold genWalk
  apply Exists.intro
  apply And.intro
  · apply Piece.mk
    · intro f v hv hr hne
      simp only [List.take_succ_cons, List.take_zero, List.drop_succ_cons, List.drop_zero, Nat.reduceSub]
      (try simp only [Act.put, List.setIfInBounds_toArray, List.set_cons_zero, List.set_cons_succ])
      (try simp only [blockB_val])
      repeat (go_big_quiet_step (fail))
      refine wpQuiet_nil ?_
      exact rfl
    · intro f; rfl
    · intro f f' hf; simp [List.getElem?_toArray]
  simp only [List.take_succ_cons, List.take_zero, List.drop_succ_cons, List.drop_zero, Nat.reduceAdd, oneOp]
  refine ⟨fun f => ⟨rfl, fun u hu _ => make_block (by (try simp only [Act.put, List.setIfInBounds_toArray, List.set_cons_zero, List.set_cons_succ]); (try simp only [blockB_val]); go_simp) (by have := hu.1; simp; omega)⟩, ?_⟩
  unfold genWalk
  apply Exists.intro
  apply And.intro
  · apply Piece.mk
    · intro f v hv hr hne
      simp only [List.take_zero, List.drop_succ_cons, List.drop_zero, Nat.reduceSub]
      (try simp only [Act.put, List.setIfInBounds_toArray, List.set_cons_zero, List.set_cons_succ])
      (try simp only [blockB_val])
      refine wpQuiet_nil ?_
      exact rfl
    · intro f; rfl
    · intro f f' hf; simp
  intro f u' hup hp hmade hdist
  have hp : DrawAt u' (w.heap.size + 1) (l.drop 2) := hp
  have m23 := hmade 23 (by omega) rfl
  obtain ⟨⟨hT23, hc23⟩, hlo, hhi⟩ := m23
  simp only
  have oc : Own u' (f 23).1 #[.int .i64 0, .int .i64 0, .int .i64 0, .int .i64 0, .int .i64 0, .int .i64 0, .int .i64 0, .int .i64 0] := ⟨_, hc23⟩
  have occ := oc.cell
  have ocf := oc.thaw
  refine effc_mem (by rfl) (fun K hK => ?_)
  go_simp
  refine hK _ _ (((((((((Upd.keeps (Keeps.refl _ _) hup).new (by simp; omega) _).new (by simp; omega) _).new (by simp; omega) _).new (by simp; omega) _).new (by simp; omega) _).new (by simp; omega) _).new (by simp; omega) _).new (by simp; omega) _) (fun u2 hu2 => ?_)
  clear hK K
  have o2 : Own u2 (f 23).1 #[.int .i64 0, .int .i64 0, .int .i64 0, .int .i64 U.x, .int .i64 U.y, .int .i64 U.z, .int .i64 m0, .int .i64 d0] := ((((((((oc.set 0 _).set 1 _).set 2 _).set 3 _).set 4 _).set 5 _).set 6 _).set 7 _).below hu2
  have hU : Upd [w.heap.size + 1] W u2 := ((((((((hup.setNew (by simp; omega) _).setNew (by simp; omega) _).setNew (by simp; omega) _).setNew (by simp; omega) _).setNew (by simp; omega) _).setNew (by simp; omega) _).setNew (by simp; omega) _).setNew (by simp; omega) _).hop hu2
  have hD : DrawAt u2 (w.heap.size + 1) (l.drop 2) := hp.of_blocks (fun i hi => by
    rw [hu2.block i (by simp; omega)]
    rw [Below.heap_setCell _ _ _ _ (by simp; omega)]; rw [Below.heap_setCell _ _ _ _ (by simp; omega)]; rw [Below.heap_setCell _ _ _ _ (by simp; omega)]; rw [Below.heap_setCell _ _ _ _ (by simp; omega)]; rw [Below.heap_setCell _ _ _ _ (by simp; omega)]; rw [Below.heap_setCell _ _ _ _ (by simp; omega)]; rw [Below.heap_setCell _ _ _ _ (by simp; omega)]; rw [Below.heap_setCell _ _ _ _ (by simp; omega)])
  have hr0 : Own u2 w.heap.size #[.int .i64 0, .int .i64 0, .int .i64 0, .int .i64 0, .int .i64 0, .int .i64 0, .int .i64 0, .int .i64 0] := ho0.upd hU (by simp)
  have hwB : Below w.heap.size w u2 := Upd.below hw0 hU (by simp)
  have hlo2 : w.heap.size + 2 ≤ (f 23).1 := by omega
  have HD := Lib.hid hD
  clear hD hp hmade hdist oc occ ocf hup hc23 hu2 hd0 ho0 hw0 hT23
  generalize (f 23).1 = B at *
  refine effc_nil ?_
  (try simp only [Act.put])
  (try simp only [blockB_val])
  go_wp2_with fail
  refine Calls.mono (ref7_Vec (w.heap.size + 1) _ 8 (by omega) (by omega) _ HD.out) ?_
  rintro e w3 ⟨rfl, hu3, hd3⟩
  have o3 : Own w3 B #[.int .i64 0, .int .i64 0, .int .i64 0, .int .i64 U.x, .int .i64 U.y, .int .i64 U.z, .int .i64 m0, .int .i64 d0] := o2.upd hu3 (by simp; omega)
  have r3 : Own w3 w.heap.size #[.int .i64 0, .int .i64 0, .int .i64 0, .int .i64 0, .int .i64 0, .int .i64 0, .int .i64 0, .int .i64 0] := hr0.upd hu3 (by simp)
  have hwB3 : Below w.heap.size w w3 := Upd.below hwB hu3 (by simp)
  have vb := vecV_bd (l.drop 2) 8 (by omega)
  generalize vecV (l.drop 2) 8 = X at *
  clear hd3 hu3 o2 hr0 hwB HD
  have o3c := o3.cell
  have o3f := o3.thaw
  have r3c := r3.cell
  have r3f := r3.thaw
  go_wp2
  exact retC (b := w.heap.size) (v := Ct.v ⟨X, U, m0, d0⟩) (cs := #[.int .i64 X.x, .int .i64 X.y, .int .i64 X.z, .int .i64 U.x, .int .i64 U.y, .int .i64 U.z, .int .i64 m0, .int .i64 d0]) (((((((((((r3.far (p := ⟨B, 0, none⟩) (by simp; omega) _).far (p := ⟨B, 1, none⟩) (by simp; omega) _).far (p := ⟨B, 2, none⟩) (by simp; omega) _).set 0 _).set 1 _).set 2 _).set 3 _).set 4 _).set 5 _).set 6 _).set 7 _) (fun w' hw' => by simp [results, Try.results75, go_sem, hw']) rfl ⟨by rw [HMC.out], (((((((((((hwB3.setCell (by simp; omega) _).setCell (by simp; omega) _).setCell (by simp; omega) _).setCell (by simp) _).setCell (by simp) _).setCell (by simp) _).setCell (by simp) _).setCell (by simp) _).setCell (by simp) _).setCell (by simp) _).setCell (by simp) _)⟩
set_option maxRecDepth 100000 in
set_option maxHeartbeats 1000000 in
theorem law25_made2 (A : Option Addr) (n cap : Nat) (l : List Int) (w : World) (hl : SliceI w A n l) (hc : n ≤ cap) (hd : cap ≤ 9223372036854775807) :
    Calls Try.prog 50 #[.slice A n cap] w fun r w' => r = .returned (madeC (l.take 6)).v ∧ Below w.heap.size w w' := by
  obtain ⟨c, hc⟩ : ∃ c, madeC (l.take 6) = c := ⟨_, rfl⟩
  rw [hc]
  have HC := Lib.hid (congrArg Ct.v hc)
  clear hc
  have hl2 := hl.cutTo 6
  have hm := minNat n 6
  obtain ⟨N, hN⟩ : ∃ N, min n 6 = N := ⟨_, rfl⟩
  have hk : (N : Int) ≤ (cap : Int) := by omega
  have hj : 0 ≤ (N : Int) := by omega
  rw [hN] at hl2 hm
  have HL := Lib.hid hl2
  have hcc : 0 ≤ (n : Int) := by omega
  have hca : (n : Int) ≤ (cap : Int) := by omega
  have hcb : (cap : Int) ≤ 9223372036854775807 := by omega
  clear hl hl2 hN
  simp only [Int.cast_ofNat_Int] at hm
  go_enter Try.func50, Try.ntmps50
  go_wp2_with fail
  refine Calls.mono (callv (ref25_Made2 A N cap _ _ (HL.out.below ((Below.refl _ _).alloc (Nat.le_refl _) _))) HC.out) ?_
  rintro e w1 ⟨rfl, hb1⟩
  have o1 : Own w1 (w.heap.size) #[.int .i64 0, .int .i64 0, .int .i64 0, .int .i64 0, .int .i64 0, .int .i64 0, .int .i64 0, .int .i64 0] := Own.below (by repeat' (first | ((refine Own.new ?_); (focus (first | rfl | omega | (simp; done) | (simp; omega)))) | assumption | refine Own.alloc ?_ _ | refine Own.drew ?_ | (refine Own.far ?_ ?_ _; rotate_left; (focus (first | rfl | omega | (simp; done) | (simp; omega)))))) hb1
  have o1c := o1.cell
  have o1f := o1.thaw
  have o1z := o1.lt
  have hs1 := hb1.size
  (try simp at hs1)
  have hw1 : Below w.heap.size w w1 := Below.hop (by repeat' (first | exact Below.refl _ _ | assumption | (refine Below.alloc ?_ ?_ _; rotate_left; (focus (first | rfl | omega | (simp; done) | (simp; omega)))) | (refine Below.setCell ?_ ?_ _; rotate_left; (focus (first | rfl | omega | (simp; done) | (simp; omega)))) | refine Below.drew ?_)) hb1
  have hz1 := hw1.size
  clear hb1
  go_wp2
  exact retC (b := w.heap.size) (v := c.v) (cs := #[.int .i64 c.at_.x, .int .i64 c.at_.y, .int .i64 c.at_.z, .int .i64 c.n.x, .int .i64 c.n.y, .int .i64 c.n.z, .int .i64 c.mn, .int .i64 c.md]) ((((((((o1.set 0 _).set 1 _).set 2 _).set 3 _).set 4 _).set 5 _).set 6 _).set 7 _) (fun w' hw' => by simp [results, Try.results50, go_sem, hw']) rfl ⟨rfl, (((((((hw1.setCell (by simp) _).setCell (by simp) _).setCell (by simp) _).setCell (by simp) _).setCell (by simp) _).setCell (by simp) _).setCell (by simp) _).setCell (by simp) _⟩
end Go.Proofs.Ythijnggeoinlfaa
