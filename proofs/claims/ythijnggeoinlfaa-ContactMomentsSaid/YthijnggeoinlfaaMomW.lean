/- The law ContactMoments returns true. The numbers are int64, and the slices read as int64 numbers. -/
import Derived.Test.YthijnggeoinlfaaSan25
import Derived.Test.YthijnggeoinlfaaCtM2
import Derived.Test.YthijnggeoinlfaaMomM
import Derived.Test.YthijnggeoinlfaaConeW
namespace Go.Proofs.Ythijnggeoinlfaa
open Go.RowKit

theorem SliceI.late {w W v : World} {A : Option Addr} {n : Nat} {l : List Int} (h : SliceI w A n l) (hw : Below w.heap.size w W) (x : Later [] W v) : SliceI x.u A n l :=
  ⟨h.len, h.max, fun h1 => by
    obtain ⟨b, off, e, hlt, hc⟩ := (h.below hw).row h1
    exact ⟨b, off, e, Nat.lt_of_lt_of_le hlt x.h.1, fun i hi => (World.cell?_of_block (w := W) (a := ⟨b, _, none⟩) (x.h.2 b hlt (by simp))).trans (hc i hi)⟩⟩
/-- A maker of a list of n vectors, of which the first one is known. -/
def coneB (n : Nat) (h0 h1 h2 : Int) : EBS [] where
  val p := .slice (some ⟨p.1, 0, none⟩) n p.2
  R p u := p.1 ∉ ([] : List Nat) ∧ ∃ cs, Own u p.1 cs ∧ cs[0]? = some (.int .i64 h0) ∧ cs[1]? = some (.int .i64 h1) ∧ cs[2]? = some (.int .i64 h2)
  st _ _ _ h k := ⟨h.1, h.2.choose, h.2.choose_spec.1.upd k h.1, h.2.choose_spec.2⟩
theorem coneB_val {n : Nat} {h0 h1 h2 : Int} {p : Nat × Nat} : (coneB n h0 h1 h2).val p = .slice (some ⟨p.1, 0, none⟩) n p.2 := rfl
theorem cone_head {c : Ct} (h : CtOk c) : ∃ X L, coneL c = X :: L := by
  have e := (cone_elems h).1
  cases hc : coneL c with
  | nil => rw [hc] at e; simp at e
  | cons X L => exact ⟨X, L, rfl⟩
theorem cone_head_make {c : Ct} {x0 x1 x2 : Int} {L : List V3} {n : Nat} (hc : coneL c = ⟨x0, x1, x2⟩ :: L) (hl : (⟨x0, x1, x2⟩ :: L : List V3).length = n) (w : World) :
    Calls Try.prog 55 #[c.v] w fun e w' => ∃ p : Nat × Nat, e = .returned ((coneB n x0 x1 x2).val p) ∧ w.heap.size ≤ p.1 ∧ p.1 < w'.heap.size ∧ Below w.heap.size w w' ∧ (coneB n x0 x1 x2).R p w' :=
  (contact_Cone c w).mono fun e w' ⟨v, h1, h2, h3⟩ => by
    rw [hc] at h2
    have hr0 := h2.1
    rw [hl] at hr0
    have hn : 0 < n := by rw [← hl]; simp
    obtain ⟨g, cap, rfl⟩ := ownsRow_pos hr0 hn
    obtain ⟨hg1, hg2, hg3, cs, hgo, hgc⟩ := ownsRow_own hr0 hn
    exact ⟨(g, cap), h1, hg1, hgo.lt, h3, by simp, cs, hgo, (hgc 0 (by omega)).trans (by simp [flatV]), (hgc 1 (by omega)).trans (by simp [flatV]), (hgc 2 (by omega)).trans (by simp [flatV])⟩

set_option maxRecDepth 100000 in
set_option maxHeartbeats 20000000 in
theorem law25_Moments_walk (A0 A1 : Option Addr) (n0 k0 n1 k1 : Nat) (l0 l1 : List Int) (f0 f1 f2 g0 g1 g2 p0 p1 p2 by_ : Int) (w : World) (hl0 : SliceI w A0 n0 l0) (hc0 : n0 ≤ k0) (hd0 : k0 ≤ 9223372036854775807) (hl1 : SliceI w A1 n1 l1) (hc1 : n1 ≤ k1) (hd1 : k1 ≤ 9223372036854775807) :
    Calls Try.prog 15 #[.agg #[.slice A0 n0 k0, .slice A1 n1 k1], vV f0 f1 f2, vV g0 g1 g2, vV p0 p1 p2, .int .i64 by_] w fun r w' => r = .returned (.bool true) ∧ Below w.heap.size w w' := by
  have HL0 := Lib.hid hl0
  have HL1 := Lib.hid hl1
  clear hl0 hl1
  obtain ⟨⟨a0, a1, a2⟩, hA⟩ : ∃ U : V3, vCross ⟨p0, p1, p2⟩ ⟨f0, f1, f2⟩ = U := ⟨_, rfl⟩
  obtain ⟨⟨b0, b1, b2⟩, hB⟩ : ∃ U : V3, vCross ⟨p0, p1, p2⟩ ⟨g0, g1, g2⟩ = U := ⟨_, rfl⟩
  obtain ⟨⟨s0, s1, s2⟩, hS⟩ : ∃ U : V3, vAdd ⟨f0, f1, f2⟩ ⟨g0, g1, g2⟩ = U := ⟨_, rfl⟩
  obtain ⟨⟨c0, c1, c2⟩, hC⟩ : ∃ U : V3, vCross ⟨p0, p1, p2⟩ ⟨s0, s1, s2⟩ = U := ⟨_, rfl⟩
  obtain ⟨⟨q0, q1, q2⟩, hM⟩ : ∃ U : V3, vSum ⟨p0, p1, p2⟩ by_ ⟨f0, f1, f2⟩ = U := ⟨_, rfl⟩
  have hD : vCross ⟨q0, q1, q2⟩ ⟨f0, f1, f2⟩ = ⟨a0, a1, a2⟩ := by rw [← hM, cross_moved, hA]
  have hE : wrap64 (f0 + g0) = s0 ∧ wrap64 (f1 + g1) = s1 ∧ wrap64 (f2 + g2) = s2 ∧ wrap64 (a0 + b0) = c0 ∧ wrap64 (a1 + b1) = c1 ∧ wrap64 (a2 + b2) = c2 := by
    have e := cross_add ⟨p0, p1, p2⟩ ⟨f0, f1, f2⟩ ⟨g0, g1, g2⟩
    rw [hA, hB, hS, hC] at e
    unfold vAdd at e hS
    injection e with e1 e2 e3
    injection hS with e4 e5 e6
    exact ⟨e4, e5, e6, e1, e2, e3⟩
  have hdf := dot_cross ⟨p0, p1, p2⟩ ⟨f0, f1, f2⟩
  rw [hA] at hdf
  have HDF := Lib.hid (congrArg (Value.int IntKind.i64) hdf.1)
  have HDP := Lib.hid (congrArg (Value.int IntKind.i64) hdf.2)
  have hez : True := trivial
  obtain ⟨⟨⟨e0, e1, e2⟩, ⟨en0, en1, en2⟩, em, ed⟩, hEC⟩ : ∃ c, madeC (l0.take 6) = c := ⟨_, rfl⟩
  obtain ⟨⟨⟨j0, j1, j2⟩, ⟨jn0, jn1, jn2⟩, jm, jd⟩, hJC⟩ : ∃ c, madeC (l1.take 6) = c := ⟨_, rfl⟩
  obtain ⟨⟨x0, x1, x2⟩, LX, hX⟩ := cone_head (hEC ▸ madeC_ok (l0.take 6))
  obtain ⟨⟨y0, y1, y2⟩, LY, hY⟩ := cone_head (hJC ▸ madeC_ok (l1.take 6))
  obtain ⟨nx, hNX⟩ : ∃ n, (⟨x0, x1, x2⟩ :: LX : List V3).length = n := ⟨_, rfl⟩
  obtain ⟨ny, hNY⟩ : ∃ n, (⟨y0, y1, y2⟩ :: LY : List V3).length = n := ⟨_, rfl⟩
  obtain ⟨⟨m0, m1, m2⟩, hMM⟩ : ∃ U : V3, vCross ⟨e0, e1, e2⟩ ⟨x0, x1, x2⟩ = U := ⟨_, rfl⟩
  obtain ⟨⟨r0, r1, r2⟩, hRR⟩ : ∃ U : V3, vCross ⟨j0, j1, j2⟩ ⟨y0, y1, y2⟩ = U := ⟨_, rfl⟩
  obtain ⟨⟨t0, t1, t2⟩, hPU⟩ : ∃ U : V3, vAdd ⟨x0, x1, x2⟩ ⟨y0, y1, y2⟩ = U := ⟨_, rfl⟩
  obtain ⟨⟨z0, z1, z2⟩, hTU⟩ : ∃ U : V3, vAdd ⟨m0, m1, m2⟩ ⟨r0, r1, r2⟩ = U := ⟨_, rfl⟩
  have hF : wrap64 (x0 + y0) = t0 ∧ wrap64 (x1 + y1) = t1 ∧ wrap64 (x2 + y2) = t2 ∧ wrap64 (m0 + r0) = z0 ∧ wrap64 (m1 + r1) = z1 ∧ wrap64 (m2 + r2) = z2 := by
    unfold vAdd at hPU hTU
    injection hPU with e1 e2 e3
    injection hTU with e4 e5 e6
    exact ⟨e1, e2, e3, e4, e5, e6⟩
  have HEC := Lib.hid (congrArg Ct.v hEC)
  have HJC := Lib.hid (congrArg Ct.v hJC)
  have HX := Lib.hid hX
  have HY := Lib.hid hY
  have HNX := Lib.hid hNX
  have HNY := Lib.hid hNY
  have HMM := Lib.hid hMM
  have HRR := Lib.hid hRR
  have HMV := Lib.hid (congrArg V3.v hMM)
  have HRV := Lib.hid (congrArg V3.v hRR)
  have HPU := Lib.hid (congrArg V3.v hPU)
  have HTU := Lib.hid (congrArg V3.v hTU)
  have HF := Lib.hid hF
  clear hEC hJC hX hY hNX hNY hMM hRR hPU hTU hF hez
  have HA := Lib.hid hA
  have HB := Lib.hid hB
  have HC := Lib.hid hC
  have HD := Lib.hid hD
  have HE := Lib.hid hE
  have HS := Lib.hid (congrArg V3.v hS)
  have HM := Lib.hid (congrArg V3.v hM)
  clear hA hB hC hD hE hS hM hdf
  go_enter Try.func15, Try.ntmps15
  go_wp2_with fail
  refine Calls.mono (law25_sanity _) ?_
  rintro e w1 ⟨rfl, hbx⟩
  have ol : Own w1 (w.heap.size) #[.slice A0 n0 k0, .slice A1 n1 k1] := Own.below (by repeat' (first | ((refine Own.new ?_); (focus (first | rfl | omega | (simp; done) | (simp; omega)))) | assumption | refine Own.alloc ?_ _ | refine Own.drew ?_ | (refine Own.far ?_ ?_ _; rotate_left; (focus (first | rfl | omega | (simp; done) | (simp; omega)))))) hbx
  have olc := ol.cell
  have olf := ol.thaw
  have olz := ol.lt
  have of : Own w1 (w.heap.size + 1) #[.int .i64 f0, .int .i64 f1, .int .i64 f2] := Own.below (by repeat' (first | ((refine Own.new ?_); (focus (first | rfl | omega | (simp; done) | (simp; omega)))) | assumption | refine Own.alloc ?_ _ | refine Own.drew ?_ | (refine Own.far ?_ ?_ _; rotate_left; (focus (first | rfl | omega | (simp; done) | (simp; omega)))))) hbx
  have ofc := of.cell
  have off := of.thaw
  have ofz := of.lt
  have og : Own w1 (w.heap.size + 1 + 1) #[.int .i64 g0, .int .i64 g1, .int .i64 g2] := Own.below (by repeat' (first | ((refine Own.new ?_); (focus (first | rfl | omega | (simp; done) | (simp; omega)))) | assumption | refine Own.alloc ?_ _ | refine Own.drew ?_ | (refine Own.far ?_ ?_ _; rotate_left; (focus (first | rfl | omega | (simp; done) | (simp; omega)))))) hbx
  have ogc := og.cell
  have ogf := og.thaw
  have ogz := og.lt
  have oat : Own w1 (w.heap.size + 1 + 1 + 1) #[.int .i64 p0, .int .i64 p1, .int .i64 p2] := Own.below (by repeat' (first | ((refine Own.new ?_); (focus (first | rfl | omega | (simp; done) | (simp; omega)))) | assumption | refine Own.alloc ?_ _ | refine Own.drew ?_ | (refine Own.far ?_ ?_ _; rotate_left; (focus (first | rfl | omega | (simp; done) | (simp; omega)))))) hbx
  have oatc := oat.cell
  have oatf := oat.thaw
  have oatz := oat.lt
  have hw : Below w.heap.size w w1 := Below.hop (by repeat' (first | exact Below.refl _ _ | assumption | (refine Below.alloc ?_ ?_ _; rotate_left; (focus (first | rfl | omega | (simp; done) | (simp; omega)))) | (refine Below.setCell ?_ ?_ _; rotate_left; (focus (first | rfl | omega | (simp; done) | (simp; omega)))) | refine Below.drew ?_)) hbx
  have hz := hw.size
  clear hbx
  go_wp2
  refine region_gen (T := []) [.make 2 [] (ownB [] #[.int .i64 f0, .int .i64 f1, .int .i64 f2, .int .i64 a0, .int .i64 a1, .int .i64 a2] (fun p => .slice (some ⟨p, 0, none⟩) 6 6)), .make 5 [] (ownB [] #[.int .i64 g0, .int .i64 g1, .int .i64 g2, .int .i64 b0, .int .i64 b1, .int .i64 b2] (fun p => .slice (some ⟨p, 0, none⟩) 6 6)), .make 10 [] (ownB [] #[.int .i64 s0, .int .i64 s1, .int .i64 s2, .int .i64 c0, .int .i64 c1, .int .i64 c2] (fun p => .slice (some ⟨p, 0, none⟩) 6 6))] 11 0 30 (fun _ _ => True) (fun _ _ _ _ _ => trivial) trivial (by kernel_rfl) (by kernel_rfl) (by rfl) ?_
  unfold genWalk
  apply Exists.intro
  apply And.intro
  · apply Piece.mk
    · intro f v hv hr hne
      simp only [List.take_succ_cons, List.take_zero, List.drop_zero, Nat.reduceSub]
      have dof := fun x => (of.later (v := v) (T := []) (by first | (simp; done) | (simp; omega)) x).cell
      have dog := fun x => (og.later (v := v) (T := []) (by first | (simp; done) | (simp; omega)) x).cell
      have doat := fun x => (oat.later (v := v) (T := []) (by first | (simp; done) | (simp; omega)) x).cell
      repeat (go_big_quiet_step (fail))
      refine wpQuiet_nil ?_
      exact rfl
    · intro f; kernel_rfl
    · intro f f' hf; kernel_rfl
  simp only [List.take_succ_cons, List.take_zero, List.drop_succ_cons, List.drop_zero, Nat.reduceAdd, oneOp]
  refine ⟨fun f => ⟨rfl, fun u hu _ => ?_⟩, ?_⟩
  · refine make_call (f := 62) (args := #[vV p0 p1 p2, vV f0 f1 f2]) (by (try simp only [Act.put, List.setIfInBounds_toArray, List.set_cons_zero, List.set_cons_succ]); (try simp only [ownB_val]); go_simp) ?_
    refine (contact_Wrench p0 p1 p2 f0 f1 f2 _).mono ?_
    rintro e wx ⟨g, rfl, hg1, hbx, hgo⟩
    exact ⟨(g, 0), rfl, hg1, hgo.lt, hbx, by simp, by rw [HA.out] at hgo; exact hgo⟩
  unfold genWalk
  apply Exists.intro
  apply And.intro
  · apply Piece.mk
    · intro f v hv hr hne
      simp only [List.take_succ_cons, List.take_zero, List.drop_succ_cons, List.drop_zero, Nat.reduceSub]
      (try simp only [Act.put, List.setIfInBounds_toArray, List.set_cons_zero, List.set_cons_succ])
      (try simp only [ownB_val])
      have dof := fun x => (of.later (v := v) (T := []) (by first | (simp; done) | (simp; omega)) x).cell
      have dog := fun x => (og.later (v := v) (T := []) (by first | (simp; done) | (simp; omega)) x).cell
      have doat := fun x => (oat.later (v := v) (T := []) (by first | (simp; done) | (simp; omega)) x).cell
      repeat (go_big_quiet_step (fail))
      refine wpQuiet_nil ?_
      exact rfl
    · intro f; kernel_rfl
    · intro f f' hf; simp
  simp only [List.take_succ_cons, List.take_zero, List.drop_succ_cons, List.drop_zero, Nat.reduceAdd, oneOp]
  refine ⟨fun f => ⟨rfl, fun u hu _ => ?_⟩, ?_⟩
  · refine make_call (f := 62) (args := #[vV p0 p1 p2, vV g0 g1 g2]) (by (try simp only [Act.put, List.setIfInBounds_toArray, List.set_cons_zero, List.set_cons_succ]); (try simp only [ownB_val]); go_simp) ?_
    refine (contact_Wrench p0 p1 p2 g0 g1 g2 _).mono ?_
    rintro e wx ⟨g, rfl, hg1, hbx, hgo⟩
    exact ⟨(g, 0), rfl, hg1, hgo.lt, hbx, by simp, by rw [HB.out] at hgo; exact hgo⟩
  unfold genWalk
  apply Exists.intro
  apply And.intro
  · apply Piece.mk
    · intro f v hv hr hne
      simp only [List.take_succ_cons, List.take_zero, List.drop_succ_cons, List.drop_zero, Nat.reduceSub]
      (try simp only [Act.put, List.setIfInBounds_toArray, List.set_cons_zero, List.set_cons_succ])
      (try simp only [ownB_val])
      have dof := fun x => (of.later (v := v) (T := []) (by first | (simp; done) | (simp; omega)) x).cell
      have dog := fun x => (og.later (v := v) (T := []) (by first | (simp; done) | (simp; omega)) x).cell
      have doat := fun x => (oat.later (v := v) (T := []) (by first | (simp; done) | (simp; omega)) x).cell
      repeat (go_big_quiet_step ((first | (go_at_call 27; with_reducible exact lateB (callv (plane_Add _ _ _ _ _ _ _) HS.out)))))
      refine wpQuiet_nil ?_
      exact rfl
    · intro f; kernel_rfl
    · intro f f' hf; simp
  simp only [List.take_succ_cons, List.take_zero, List.drop_succ_cons, List.drop_zero, Nat.reduceAdd, oneOp]
  refine ⟨fun f => ⟨rfl, fun u hu _ => ?_⟩, ?_⟩
  · refine make_call (f := 62) (args := #[vV p0 p1 p2, vV s0 s1 s2]) (by (try simp only [Act.put, List.setIfInBounds_toArray, List.set_cons_zero, List.set_cons_succ]); (try simp only [ownB_val]); go_simp) ?_
    refine (contact_Wrench p0 p1 p2 s0 s1 s2 _).mono ?_
    rintro e wx ⟨g, rfl, hg1, hbx, hgo⟩
    exact ⟨(g, 0), rfl, hg1, hgo.lt, hbx, by simp, by rw [HC.out] at hgo; exact hgo⟩
  unfold genWalk
  apply Exists.intro
  apply And.intro
  · apply Piece.mk
    · intro f v hv hr hne
      simp only [List.take_zero, List.drop_succ_cons, List.drop_zero, Nat.reduceSub]
      (try simp only [Act.put, List.setIfInBounds_toArray, List.set_cons_zero, List.set_cons_succ])
      (try simp only [ownB_val])
      refine wpQuiet_nil ?_
      exact rfl
    · intro f; kernel_rfl
    · intro f f' hf; simp
  intro f u' hup hp hmade hdist
  obtain ⟨⟨hTwa, wa⟩, walo, wahi⟩ := hmade 2 (by omega) rfl
  have wa : Own u' (f 2).1 #[.int .i64 f0, .int .i64 f1, .int .i64 f2, .int .i64 a0, .int .i64 a1, .int .i64 a2] := wa
  obtain ⟨⟨hTwb, wb⟩, wblo, wbhi⟩ := hmade 5 (by omega) rfl
  have wb : Own u' (f 5).1 #[.int .i64 g0, .int .i64 g1, .int .i64 g2, .int .i64 b0, .int .i64 b1, .int .i64 b2] := wb
  obtain ⟨⟨hTwc, wc⟩, wclo, wchi⟩ := hmade 10 (by omega) rfl
  have wc : Own u' (f 10).1 #[.int .i64 s0, .int .i64 s1, .int .i64 s2, .int .i64 c0, .int .i64 c1, .int .i64 c2] := wc
  simp only
  (try simp only [Act.put, List.setIfInBounds_toArray, List.set_cons_zero, List.set_cons_succ])
  (try simp only [ownB_val])
  clear hmade hdist hp hTwa hTwb hTwc
  replace ol := ol.upd hup (by simp)
  replace of := of.upd hup (by simp)
  replace og := og.upd hup (by simp)
  replace oat := oat.upd hup (by simp)
  replace hw : Below w.heap.size w u' := Upd.below hw hup (by simp)
  have hk : Keeps [] w1 u' := Upd.keeps (Keeps.refl _ _) hup
  clear hup
  refine effc_mem (by rfl) (fun K hK => ?_)
  go_simp
  refine hK _ _ hk (fun ua0 hu => ?_)
  clear hK K
  replace hw := Below.hop hw hu
  replace hk := hk.later hu
  replace ol := ol.below hu
  replace of := of.below hu
  replace og := og.below hu
  replace oat := oat.below hu
  replace wa := wa.below hu
  replace wb := wb.below hu
  replace wc := wc.below hu
  clear hu
  refine effc_mem (by rfl) (fun K hK => ?_)
  go_simp
  refine hK _ _ hk (fun ua1 hu => ?_)
  clear hK K
  replace hw := Below.hop hw hu
  replace hk := hk.later hu
  replace ol := ol.below hu
  replace of := of.below hu
  replace og := og.below hu
  replace oat := oat.below hu
  replace wa := wa.below hu
  replace wb := wb.below hu
  replace wc := wc.below hu
  clear hu
  refine effc_mem (by rfl) (fun K hK => ?_)
  go_simp
  refine hK _ _ hk (fun ua2 hu => ?_)
  clear hK K
  replace hw := Below.hop hw hu
  replace hk := hk.later hu
  replace ol := ol.below hu
  replace of := of.below hu
  replace og := og.below hu
  replace oat := oat.below hu
  replace wa := wa.below hu
  replace wb := wb.below hu
  replace wc := wc.below hu
  clear hu
  clear hk
  refine effc_nil ?_
  (try simp only [Act.put, List.setIfInBounds_toArray, List.set_cons_zero, List.set_cons_succ])
  (try simp only [ownB_val])
  generalize (f 2).1 = wab at *
  generalize (f 5).1 = wbb at *
  generalize (f 10).1 = wcb at *
  clear f
  (try clear olc olf olz)
  (try clear ofc off ofz)
  (try clear ogc ogf ogz)
  (try clear oatc oatf oatz)
  (try clear wac waf waz)
  (try clear wbc wbf wbz)
  (try clear wcc wcf wcz)
  have olc := ol.cell
  have olf := ol.thaw
  have olz := ol.lt
  have ofc := of.cell
  have off := of.thaw
  have ofz := of.lt
  have ogc := og.cell
  have ogf := og.thaw
  have ogz := og.lt
  have oatc := oat.cell
  have oatf := oat.thaw
  have oatz := oat.lt
  have wac := wa.cell
  have waf := wa.thaw
  have waz := wa.lt
  have wbc := wb.cell
  have wbf := wb.thaw
  have wbz := wb.lt
  have wcc := wc.cell
  have wcf := wc.thaw
  have wcz := wc.lt
  replace hz := hw.size
  go_wp2
  refine region_gen (T := []) [.make 5 [] (ownB [] #[.int .i64 f0, .int .i64 f1, .int .i64 f2, .int .i64 a0, .int .i64 a1, .int .i64 a2] (fun p => .slice (some ⟨p, 0, none⟩) 6 6))] 6 0 30 (fun _ _ => True) (fun _ _ _ _ _ => trivial) trivial (by kernel_rfl) (by kernel_rfl) (by rfl) ?_
  unfold genWalk
  apply Exists.intro
  apply And.intro
  · apply Piece.mk
    · intro f v hv hr hne
      simp only [List.take_succ_cons, List.take_zero, List.drop_zero, Nat.reduceSub]
      have dof := fun x => (of.later (v := v) (T := []) (by first | (simp; done) | (simp; omega)) x).cell
      have dog := fun x => (og.later (v := v) (T := []) (by first | (simp; done) | (simp; omega)) x).cell
      have doat := fun x => (oat.later (v := v) (T := []) (by first | (simp; done) | (simp; omega)) x).cell
      repeat (go_big_quiet_step ((first | (go_at_call 64; with_reducible exact lateB (callv (law25_sum _ _ _ _ _ _ _ _) HM.out)))))
      refine wpQuiet_nil ?_
      exact rfl
    · intro f; kernel_rfl
    · intro f f' hf; kernel_rfl
  simp only [List.take_succ_cons, List.take_zero, List.drop_succ_cons, List.drop_zero, Nat.reduceAdd, oneOp]
  refine ⟨fun f => ⟨rfl, fun u hu _ => ?_⟩, ?_⟩
  · refine make_call (f := 62) (args := #[vV q0 q1 q2, vV f0 f1 f2]) (by (try simp only [Act.put, List.setIfInBounds_toArray, List.set_cons_zero, List.set_cons_succ]); (try simp only [ownB_val]); go_simp) ?_
    refine (contact_Wrench q0 q1 q2 f0 f1 f2 _).mono ?_
    rintro e wx ⟨g, rfl, hg1, hbx, hgo⟩
    exact ⟨(g, 0), rfl, hg1, hgo.lt, hbx, by simp, by rw [HD.out] at hgo; exact hgo⟩
  unfold genWalk
  apply Exists.intro
  apply And.intro
  · apply Piece.mk
    · intro f v hv hr hne
      simp only [List.take_zero, List.drop_succ_cons, List.drop_zero, Nat.reduceSub]
      (try simp only [Act.put, List.setIfInBounds_toArray, List.set_cons_zero, List.set_cons_succ])
      (try simp only [ownB_val])
      refine wpQuiet_nil ?_
      exact rfl
    · intro f; kernel_rfl
    · intro f f' hf; simp
  intro f u' hup hp hmade hdist
  obtain ⟨⟨hTwd, wd⟩, wdlo, wdhi⟩ := hmade 5 (by omega) rfl
  have wd : Own u' (f 5).1 #[.int .i64 f0, .int .i64 f1, .int .i64 f2, .int .i64 a0, .int .i64 a1, .int .i64 a2] := wd
  simp only
  (try simp only [Act.put, List.setIfInBounds_toArray, List.set_cons_zero, List.set_cons_succ])
  (try simp only [ownB_val])
  clear hmade hdist hp hTwd
  replace ol := ol.upd hup (by simp)
  replace of := of.upd hup (by simp)
  replace og := og.upd hup (by simp)
  replace oat := oat.upd hup (by simp)
  replace wa := wa.upd hup (by simp)
  replace wb := wb.upd hup (by simp)
  replace wc := wc.upd hup (by simp)
  replace hw : Below w.heap.size w u' := Upd.below hw hup (by simp)
  have hk : Keeps [] ua2 u' := Upd.keeps (Keeps.refl _ _) hup
  clear hup
  refine effc_mem (by rfl) (fun K hK => ?_)
  go_simp
  refine hK _ _ hk (fun ub0 hu => ?_)
  clear hK K
  replace hw := Below.hop hw hu
  replace hk := hk.later hu
  replace ol := ol.below hu
  replace of := of.below hu
  replace og := og.below hu
  replace oat := oat.below hu
  replace wa := wa.below hu
  replace wb := wb.below hu
  replace wc := wc.below hu
  replace wd := wd.below hu
  clear hu
  clear hk
  refine effc_nil ?_
  (try simp only [Act.put, List.setIfInBounds_toArray, List.set_cons_zero, List.set_cons_succ])
  (try simp only [ownB_val])
  generalize (f 5).1 = wdb at *
  clear f
  (try clear olc olf olz)
  (try clear ofc off ofz)
  (try clear ogc ogf ogz)
  (try clear oatc oatf oatz)
  (try clear wac waf waz)
  (try clear wbc wbf wbz)
  (try clear wcc wcf wcz)
  (try clear wdc wdf wdz)
  have olc := ol.cell
  have olf := ol.thaw
  have olz := ol.lt
  have ofc := of.cell
  have off := of.thaw
  have ofz := of.lt
  have ogc := og.cell
  have ogf := og.thaw
  have ogz := og.lt
  have oatc := oat.cell
  have oatf := oat.thaw
  have oatz := oat.lt
  have wac := wa.cell
  have waf := wa.thaw
  have waz := wa.lt
  have wbc := wb.cell
  have wbf := wb.thaw
  have wbz := wb.lt
  have wcc := wc.cell
  have wcf := wc.thaw
  have wcz := wc.lt
  have wdc := wd.cell
  have wdf := wd.thaw
  have wdz := wd.lt
  replace hz := hw.size
  go_wp2
  obtain ⟨cA, hcA⟩ : ∃ c : Array Value, c = #[.int .i64 f0, .int .i64 f1, .int .i64 f2, .int .i64 a0, .int .i64 a1, .int .i64 a2] := ⟨_, rfl⟩
  rw [← hcA] at wa wac wd wdc
  obtain ⟨cB, hcB⟩ : ∃ c : Array Value, c = #[.int .i64 g0, .int .i64 g1, .int .i64 g2, .int .i64 b0, .int .i64 b1, .int .i64 b2] := ⟨_, rfl⟩
  rw [← hcB] at wb wbc
  obtain ⟨cC, hcC⟩ : ∃ c : Array Value, c = #[.int .i64 s0, .int .i64 s1, .int .i64 s2, .int .i64 c0, .int .i64 c1, .int .i64 c2] := ⟨_, rfl⟩
  rw [← hcC] at wc wcc
  have hcs : ∀ k, k < 6 → ∃ x y z, cA[k]? = some (.int .i64 x) ∧ cB[k]? = some (.int .i64 y) ∧ cC[k]? = some (.int .i64 z) ∧ wrap64 (x + y) = z := fun k hk => by
    rw [hcA, hcB, hcC]
    rcases (show k = 0 ∨ k = 1 ∨ k = 2 ∨ k = 3 ∨ k = 4 ∨ k = 5 by omega) with rfl | rfl | rfl | rfl | rfl | rfl
    · exact ⟨f0, g0, s0, rfl, rfl, rfl, HE.out.1⟩
    · exact ⟨f1, g1, s1, rfl, rfl, rfl, HE.out.2.1⟩
    · exact ⟨f2, g2, s2, rfl, rfl, rfl, HE.out.2.2.1⟩
    · exact ⟨a0, b0, c0, rfl, rfl, rfl, HE.out.2.2.2.1⟩
    · exact ⟨a1, b1, c1, rfl, rfl, rfl, HE.out.2.2.2.2.1⟩
    · exact ⟨a2, b2, c2, rfl, rfl, rfl, HE.out.2.2.2.2.2⟩
  have HCS := Lib.hid hcs
  have HCA := Lib.hid hcA
  clear hcs hcA hcB hcC
  go_loopw [66] (fun i wr => ∃ k : Nat, k ≤ 6 ∧ i = .int .i64 k ∧ Below w.heap.size w wr ∧ Own wr (w.heap.size) #[.slice A0 n0 k0, .slice A1 n1 k1] ∧ Own wr (w.heap.size + 1) #[.int .i64 f0, .int .i64 f1, .int .i64 f2] ∧ Own wr (w.heap.size + 1 + 1) #[.int .i64 g0, .int .i64 g1, .int .i64 g2] ∧ Own wr (w.heap.size + 1 + 1 + 1) #[.int .i64 p0, .int .i64 p1, .int .i64 p2] ∧ Own wr (wab) cA ∧ Own wr (wbb) cB ∧ Own wr (wcb) cC ∧ Own wr (wdb) cA) (fun i _ => 6 - (intOf i).toNat)
  case atStart => exact ⟨0, by omega, rfl, hw, ol, of, og, oat, wa, wb, wc, wd⟩
  case round =>
    clear hw hz ol olc olf olz of ofc off ofz og ogc ogf ogz oat oatc oatf oatz wa wac waf waz wb wbc wbf wbz wc wcc wcf wcz wd wdc wdf wdz
    obtain ⟨k, hk, rfl, hw, ol, of, og, oat, wa, wb, wc, wd⟩ := hrel
    have hz := hw.size
    have olc := ol.cell
    have olf := ol.thaw
    have olz := ol.lt
    have ofc := of.cell
    have off := of.thaw
    have ofz := of.lt
    have ogc := og.cell
    have ogf := og.thaw
    have ogz := og.lt
    have oatc := oat.cell
    have oatf := oat.thaw
    have oatz := oat.lt
    have wac := wa.cell
    have waf := wa.thaw
    have waz := wa.lt
    have wbc := wb.cell
    have wbf := wb.thaw
    have wbz := wb.lt
    have wcc := wc.cell
    have wcf := wc.thaw
    have wcz := wc.lt
    have wdc := wd.cell
    have wdf := wd.thaw
    have wdz := wd.lt
    by_cases hlt : k < 6
    · have hlt2 : (k : Int) < 6 := by omega
      obtain ⟨x, y, z, hx, hy, hzz, hxyz⟩ := HCS.out k hlt
      go_wp2
      have hxw : IntKind.i64.wrap (x + y) = z := (IntWalk.i64_left _).trans hxyz
      clear hxyz
      refine region_late 25 [] (by kernel_rfl) (by kernel_rfl) (by rfl) ?_
      apply Exists.intro
      refine ⟨fun v hv hne => ?_, fun u1 hu => ?_⟩
      · simp only [List.take_succ_cons, List.take_zero]
        have dol := fun x => (ol.later (v := v) (T := []) (by first | (simp; done) | (simp; omega)) x).cell
        have dof := fun x => (of.later (v := v) (T := []) (by first | (simp; done) | (simp; omega)) x).cell
        have dog := fun x => (og.later (v := v) (T := []) (by first | (simp; done) | (simp; omega)) x).cell
        have doat := fun x => (oat.later (v := v) (T := []) (by first | (simp; done) | (simp; omega)) x).cell
        have dwa := fun x => (wa.later (v := v) (T := []) (by first | (simp; done) | (simp; omega)) x).cell
        have dwb := fun x => (wb.later (v := v) (T := []) (by first | (simp; done) | (simp; omega)) x).cell
        have dwc := fun x => (wc.later (v := v) (T := []) (by first | (simp; done) | (simp; omega)) x).cell
        have dwd := fun x => (wd.later (v := v) (T := []) (by first | (simp; done) | (simp; omega)) x).cell
        have da := fun x => (dwa x k).trans hx
        have db := fun x => (dwb x k).trans hy
        have dc := fun x => (dwc x k).trans hzz
        have dd := fun x => (dwd x k).trans hx
        repeat (go_big_quiet_step (fail))
        refine wpQuiet_nil ?_
        exact rfl
      · simp only [List.drop_succ_cons, List.drop_zero]
        replace ol := ol.below hu
        replace of := of.below hu
        replace og := og.below hu
        replace oat := oat.below hu
        replace wa := wa.below hu
        replace wb := wb.below hu
        replace wc := wc.below hu
        replace wd := wd.below hu
        replace hw := Below.hop hw hu
        replace hz := hw.size
        clear hu
        refine late_nil ?_
        (try simp only [Act.put, List.setIfInBounds_toArray, List.set_cons_zero, List.set_cons_succ])
        have olc := ol.cell
        have olf := ol.thaw
        have olz := ol.lt
        have ofc := of.cell
        have off := of.thaw
        have ofz := of.lt
        have ogc := og.cell
        have ogf := og.thaw
        have ogz := og.lt
        have oatc := oat.cell
        have oatf := oat.thaw
        have oatz := oat.lt
        have wac := wa.cell
        have waf := wa.thaw
        have waz := wa.lt
        have wbc := wb.cell
        have wbf := wb.thaw
        have wbz := wb.lt
        have wcc := wc.cell
        have wcf := wc.thaw
        have wcz := wc.lt
        have wdc := wd.cell
        have wdf := wd.thaw
        have wdz := wd.lt
        go_wp2
        go_roundw
        case rel => exact ⟨k + 1, by omega, by go_num, hw, ol, of, og, oat, wa, wb, wc, wd⟩
        case measure => simp [intOf]; omega
    · obtain rfl : k = 6 := by omega
      skip
      rw [HCA.out] at wa wac
      clear hlt hk
      clear wbc wbf wbz wb wcc wcf wcz wc wdc wdf wdz wd
      have hdz : True := trivial
      go_wp2
      refine region_late 10 [] (by kernel_rfl) (by kernel_rfl) (by rfl) ?_
      apply Exists.intro
      refine ⟨fun v hv hne => ?_, fun u hu => ?_⟩
      · simp only [List.take_succ_cons, List.take_zero]
        have dol := fun x => (ol.later (v := v) (T := []) (by first | (simp; done) | (simp; omega)) x).cell
        have dof := fun x => (of.later (v := v) (T := []) (by first | (simp; done) | (simp; omega)) x).cell
        have dog := fun x => (og.later (v := v) (T := []) (by first | (simp; done) | (simp; omega)) x).cell
        have doat := fun x => (oat.later (v := v) (T := []) (by first | (simp; done) | (simp; omega)) x).cell
        have dwa := fun x => (wa.later (v := v) (T := []) (by first | (simp; done) | (simp; omega)) x).cell
        repeat (go_big_quiet_step ((first | (go_at_call 58; with_reducible exact lateB (law25_vec _ _ _ _)))))
        refine wpQuiet_nil ?_
        exact rfl
      · simp only [List.drop_succ_cons, List.drop_zero]
        skip
        refine late_mem (fun K hK => ?_)
        go_simp
        refine hK _ _ ((Keeps.of_below hu).alloc _) (fun uc2 hu2 => ?_)
        clear hK K
        have hk2 : Keeps [] wr uc2 := ((Keeps.of_below (T := []) hu).alloc _).later hu2
        have om : Own uc2 u.heap.size #[.int .i64 0, .int .i64 0, .int .i64 0] := Own.below (Own.new rfl) hu2
        have omc := om.cell
        have omf := om.thaw
        have omg : wr.heap.size ≤ u.heap.size := hu.size
        replace hw := Below.hop ((Below.hop hw hu).alloc (by have := hw.size; have := hu.size; omega) _) hu2
        have hwz := hw.size
        have omy : w.heap.size ≤ u.heap.size := by omega
        refine late_mem (fun K hK => ?_)
        go_simp
        refine hK _ _ (((hk2.new omg _).new omg _).new omg _) (fun uc3 hu3 => ?_)
        clear hK K
        have hk3 : Keeps [] wr uc3 := (((hk2.new omg _).new omg _).new omg _).later hu3
        replace om : Own uc3 u.heap.size #[.int .i64 a0, .int .i64 a1, .int .i64 a2] := (((om.set 0 _).set 1 _).set 2 _).below hu3
        replace hw := Below.hop (((hw.setCell omy _).setCell omy _).setCell omy _) hu3
        clear omc omf hk2
        replace ol : Own uc3 (w.heap.size) #[.slice A0 n0 k0, .slice A1 n1 k1] := ol.keeps hk3 (by simp)
        replace of : Own uc3 (w.heap.size + 1) #[.int .i64 f0, .int .i64 f1, .int .i64 f2] := of.keeps hk3 (by simp)
        replace og : Own uc3 (w.heap.size + 1 + 1) #[.int .i64 g0, .int .i64 g1, .int .i64 g2] := og.keeps hk3 (by simp)
        replace oat : Own uc3 (w.heap.size + 1 + 1 + 1) #[.int .i64 p0, .int .i64 p1, .int .i64 p2] := oat.keeps hk3 (by simp)
        replace wa : Own uc3 (wab) #[.int .i64 f0, .int .i64 f1, .int .i64 f2, .int .i64 a0, .int .i64 a1, .int .i64 a2] := wa.keeps hk3 (by simp)
        refine late_nil ?_
        (try simp only [Act.put, List.setIfInBounds_toArray, List.set_cons_zero, List.set_cons_succ])
        clear hk3 hu hu2 hu3 hwz
        generalize u.heap.size = omb at *
        replace hz := hw.size
        clear u
        replace olc := ol.cell
        replace olf := ol.thaw
        replace olz := ol.lt
        replace ofc := of.cell
        replace off := of.thaw
        replace ofz := of.lt
        replace ogc := og.cell
        replace ogf := og.thaw
        replace ogz := og.lt
        replace oatc := oat.cell
        replace oatf := oat.thaw
        replace oatz := oat.lt
        replace wac := wa.cell
        replace waf := wa.thaw
        replace waz := wa.lt
        replace omc := om.cell
        replace omf := om.thaw
        replace omz := om.lt
        go_wp2
        refine region_late 24 [] (by kernel_rfl) (by kernel_rfl) (by rfl) ?_
        apply Exists.intro
        refine ⟨fun v hv hne => ?_, fun ud hu => ?_⟩
        · simp only [List.take_succ_cons, List.take_zero]
          have dol := fun x => (ol.later (v := v) (T := []) (by first | (simp; done) | (simp; omega)) x).cell
          have dof := fun x => (of.later (v := v) (T := []) (by first | (simp; done) | (simp; omega)) x).cell
          have dog := fun x => (og.later (v := v) (T := []) (by first | (simp; done) | (simp; omega)) x).cell
          have doat := fun x => (oat.later (v := v) (T := []) (by first | (simp; done) | (simp; omega)) x).cell
          have dwa := fun x => (wa.later (v := v) (T := []) (by first | (simp; done) | (simp; omega)) x).cell
          have dom := fun x => (om.later (v := v) (T := []) (by first | (simp; done) | (simp; omega)) x).cell
          repeat (go_big_quiet_step ((first | (go_at_call 29; with_reducible exact lateB (callv (plane_Dot _ _ _ _ _ _ _) HDF.out)) | (go_at_call 29; with_reducible exact lateB (callv (plane_Dot _ _ _ _ _ _ _) HDP.out)) | (go_at_call 58; with_reducible exact lateB (law25_vec _ _ _ _)))))
          refine wpQuiet_nil ?_
          exact rfl
        · simp only [List.drop_succ_cons, List.drop_zero]
          replace ol := ol.below hu
          replace of := of.below hu
          replace og := og.below hu
          replace oat := oat.below hu
          replace wa := wa.below hu
          replace om := om.below hu
          replace hw := Below.hop hw hu
          replace hz := hw.size
          clear hu
          refine late_nil ?_
          (try simp only [Act.put, List.setIfInBounds_toArray, List.set_cons_zero, List.set_cons_succ])
          have olc := ol.cell
          have olf := ol.thaw
          have olz := ol.lt
          have ofc := of.cell
          have off := of.thaw
          have ofz := of.lt
          have ogc := og.cell
          have ogf := og.thaw
          have ogz := og.lt
          have oatc := oat.cell
          have oatf := oat.thaw
          have oatz := oat.lt
          have wac := wa.cell
          have waf := wa.thaw
          have waz := wa.lt
          have omc := om.cell
          have omf := om.thaw
          have omz := om.lt
          go_wp2
          clear omc omf omz om wac waf waz wa ogc ogf ogz og
          refine region_mem 6 2 0 [] (by kernel_rfl) (by kernel_rfl) (by rfl) [(.cells #[.int .i64 0, .int .i64 0, .int .i64 0, .int .i64 0, .int .i64 0, .int .i64 0, .int .i64 0, .int .i64 0] 66, fun p => .pointer (some ⟨p, 0, none⟩)), (.cells #[.int .i64 0, .int .i64 0, .int .i64 0, .int .i64 0, .int .i64 0, .int .i64 0, .int .i64 0, .int .i64 0] 66, fun p => .pointer (some ⟨p, 0, none⟩))] ?_
          apply Exists.intro
          refine ⟨fun v hv hne => ?_, ⟨fun u => by go_simp, fun u => by go_simp, trivial⟩, fun ue ue1 hu hu1 => ?_⟩
          · simp only [List.take_succ_cons, List.take_zero, List.drop_succ_cons, List.drop_zero, Nat.reduceAdd, List.append_nil]
            have dol := fun x => (ol.later (v := v) (T := []) (by first | (simp; done) | (simp; omega)) x).cell
            have dof := fun x => (of.later (v := v) (T := []) (by first | (simp; done) | (simp; omega)) x).cell
            have doat := fun x => (oat.later (v := v) (T := []) (by first | (simp; done) | (simp; omega)) x).cell
            repeat (go_big_quiet_step ((first | (go_at_call 50; with_reducible exact lateB (callv (law25_made2 A0 n0 k0 _ _ (SliceI.late HL0.out hw _) hc0 hd0) HEC.out)) | (go_at_call 50; with_reducible exact lateB (callv (law25_made2 A1 n1 k1 _ _ (SliceI.late HL1.out hw _) hc1 hd1) HJC.out)))))
            refine wpQuiet_nil ?_
            exact rfl
          · simp only [List.take_succ_cons, List.take_zero, List.drop_succ_cons, List.drop_zero, Nat.reduceAdd, memK]
            intro oeb oe1 oe2 oe3 ojb oj1 oj2 oj3
            have hk : Keeps [] ud ue1 := Keeps.of_below (Below.hop hu hu1)
            replace hw := Below.hop (Below.hop hw hu) hu1
            have hwz := hw.size
            have huz := hu.size
            have oey : w.heap.size ≤ oeb := by have := w.heap.size; omega
            have oeg : ud.heap.size ≤ oeb := by omega
            have oe : Own ue1 oeb #[.int .i64 0, .int .i64 0, .int .i64 0, .int .i64 0, .int .i64 0, .int .i64 0, .int .i64 0, .int .i64 0] := ⟨_, oe3⟩
            have oec := oe.cell
            have oef := oe.thaw
            have ojy : w.heap.size ≤ ojb := by have := w.heap.size; omega
            have ojg : ud.heap.size ≤ ojb := by omega
            have oj : Own ue1 ojb #[.int .i64 0, .int .i64 0, .int .i64 0, .int .i64 0, .int .i64 0, .int .i64 0, .int .i64 0, .int .i64 0] := ⟨_, oj3⟩
            have ojc := oj.cell
            have ojf := oj.thaw
            have nojoe : ojb ≠ oeb := fun e => oj2 (by simp [e])
            have noeoj : oeb ≠ ojb := fun e => oj2 (by simp [e])
            clear oe2 oe3 oj2 oj3
            refine chain_mem (fun K hK => ?_)
            go_simp
            refine hK _ _ ((((((((hk.new oeg _).new oeg _).new oeg _).new oeg _).new oeg _).new oeg _).new oeg _).new oeg _) (fun ue2 hun => ?_)
            clear hK K
            replace hk : Keeps [] ud ue2 := ((((((((hk.new oeg _).new oeg _).new oeg _).new oeg _).new oeg _).new oeg _).new oeg _).new oeg _).later hun
            replace oe : Own ue2 oeb #[.int .i64 e0, .int .i64 e1, .int .i64 e2, .int .i64 en0, .int .i64 en1, .int .i64 en2, .int .i64 em, .int .i64 ed] := ((((((((oe.set 0 _).set 1 _).set 2 _).set 3 _).set 4 _).set 5 _).set 6 _).set 7 _).below hun
            replace oj := ((((((((oj.far nojoe _).far nojoe _).far nojoe _).far nojoe _).far nojoe _).far nojoe _).far nojoe _).far nojoe _).below hun
            replace hw := Below.hop ((((((((hw.setCell oey _).setCell oey _).setCell oey _).setCell oey _).setCell oey _).setCell oey _).setCell oey _).setCell oey _) hun
            clear hun
            replace oec := oe.cell
            replace oef := oe.thaw
            replace ojc := oj.cell
            replace ojf := oj.thaw
            refine chain_mem (fun K hK => ?_)
            go_simp
            refine hK _ _ ((((((((hk.new ojg _).new ojg _).new ojg _).new ojg _).new ojg _).new ojg _).new ojg _).new ojg _) (fun ue3 hun => ?_)
            clear hK K
            replace hk : Keeps [] ud ue3 := ((((((((hk.new ojg _).new ojg _).new ojg _).new ojg _).new ojg _).new ojg _).new ojg _).new ojg _).later hun
            replace oj : Own ue3 ojb #[.int .i64 j0, .int .i64 j1, .int .i64 j2, .int .i64 jn0, .int .i64 jn1, .int .i64 jn2, .int .i64 jm, .int .i64 jd] := ((((((((oj.set 0 _).set 1 _).set 2 _).set 3 _).set 4 _).set 5 _).set 6 _).set 7 _).below hun
            replace oe := ((((((((oe.far noeoj _).far noeoj _).far noeoj _).far noeoj _).far noeoj _).far noeoj _).far noeoj _).far noeoj _).below hun
            replace hw := Below.hop ((((((((hw.setCell ojy _).setCell ojy _).setCell ojy _).setCell ojy _).setCell ojy _).setCell ojy _).setCell ojy _).setCell ojy _) hun
            clear hun
            replace oec := oe.cell
            replace oef := oe.thaw
            replace ojc := oj.cell
            replace ojf := oj.thaw
            replace ol : Own ue3 (w.heap.size) #[.slice A0 n0 k0, .slice A1 n1 k1] := ol.keeps hk (by simp)
            replace of : Own ue3 (w.heap.size + 1) #[.int .i64 f0, .int .i64 f1, .int .i64 f2] := of.keeps hk (by simp)
            replace oat : Own ue3 (w.heap.size + 1 + 1 + 1) #[.int .i64 p0, .int .i64 p1, .int .i64 p2] := oat.keeps hk (by simp)
            refine chain_nil ?_
            (try simp only [Act.put, List.setIfInBounds_toArray, List.set_cons_zero, List.set_cons_succ])
            clear hk hu hu1 hwz huz
            replace hz := hw.size
            replace olc := ol.cell
            replace olf := ol.thaw
            replace olz := ol.lt
            replace ofc := of.cell
            replace off := of.thaw
            replace ofz := of.lt
            replace oatc := oat.cell
            replace oatf := oat.thaw
            replace oatz := oat.lt
            replace oec := oe.cell
            replace oef := oe.thaw
            replace oez := oe.lt
            replace ojc := oj.cell
            replace ojf := oj.thaw
            replace ojz := oj.lt
            go_wp2
            refine region_gen (T := []) [.make 1 [] (coneB nx x0 x1 x2), .make 3 [] (coneB ny y0 y1 y2)] 4 0 30 (fun _ _ => True) (fun _ _ _ _ _ => trivial) trivial (by kernel_rfl) (by kernel_rfl) (by rfl) ?_
            unfold genWalk
            apply Exists.intro
            apply And.intro
            · apply Piece.mk
              · intro f v hv hr hne
                simp only [List.take_succ_cons, List.take_zero, List.drop_zero, Nat.reduceSub]
                have doe := fun x => (oe.later (v := v) (T := []) (by first | (simp; done) | (simp; omega)) x).cell
                repeat (go_big_quiet_step (fail))
                refine wpQuiet_nil ?_
                exact rfl
              · intro f; kernel_rfl
              · intro f f' hf; kernel_rfl
            simp only [List.take_succ_cons, List.take_zero, List.drop_succ_cons, List.drop_zero, Nat.reduceAdd, oneOp]
            refine ⟨fun f => ⟨rfl, fun u hu _ => ?_⟩, ?_⟩
            · exact make_call (f := 55) (args := #[Ct.v ⟨⟨e0, e1, e2⟩, ⟨en0, en1, en2⟩, em, ed⟩]) (by (try simp only [Act.put, List.setIfInBounds_toArray, List.set_cons_zero, List.set_cons_succ]); (try simp only [coneB_val]); go_simp) (cone_head_make HX.out HNX.out _)
            unfold genWalk
            apply Exists.intro
            apply And.intro
            · apply Piece.mk
              · intro f v hv hr hne
                simp only [List.take_succ_cons, List.take_zero, List.drop_succ_cons, List.drop_zero, Nat.reduceSub]
                (try simp only [Act.put, List.setIfInBounds_toArray, List.set_cons_zero, List.set_cons_succ])
                (try simp only [coneB_val])
                have doj := fun x => (oj.later (v := v) (T := []) (by first | (simp; done) | (simp; omega)) x).cell
                repeat (go_big_quiet_step (fail))
                refine wpQuiet_nil ?_
                exact rfl
              · intro f; kernel_rfl
              · intro f f' hf; simp
            simp only [List.take_succ_cons, List.take_zero, List.drop_succ_cons, List.drop_zero, Nat.reduceAdd, oneOp]
            refine ⟨fun f => ⟨rfl, fun u hu _ => ?_⟩, ?_⟩
            · exact make_call (f := 55) (args := #[Ct.v ⟨⟨j0, j1, j2⟩, ⟨jn0, jn1, jn2⟩, jm, jd⟩]) (by (try simp only [Act.put, List.setIfInBounds_toArray, List.set_cons_zero, List.set_cons_succ]); (try simp only [coneB_val]); go_simp) (cone_head_make HY.out HNY.out _)
            unfold genWalk
            apply Exists.intro
            apply And.intro
            · apply Piece.mk
              · intro f v hv hr hne
                simp only [List.take_zero, List.drop_succ_cons, List.drop_zero, Nat.reduceSub]
                (try simp only [Act.put, List.setIfInBounds_toArray, List.set_cons_zero, List.set_cons_succ])
                (try simp only [coneB_val])
                refine wpQuiet_nil ?_
                exact rfl
              · intro f; kernel_rfl
              · intro f f' hf; simp
            intro f u' hup hp hmade hdist
            obtain ⟨⟨hTox, cox, ox, eox0, eox1, eox2⟩, oxlo, oxhi⟩ := hmade 1 (by omega) rfl
            have ox : Own u' (f 1).1 cox := ox
            obtain ⟨⟨hToy, coy, oy, eoy0, eoy1, eoy2⟩, oylo, oyhi⟩ := hmade 3 (by omega) rfl
            have oy : Own u' (f 3).1 coy := oy
            simp only
            (try simp only [Act.put, List.setIfInBounds_toArray, List.set_cons_zero, List.set_cons_succ])
            (try simp only [coneB_val])
            clear hmade hdist hp hTox hToy
            replace ol := ol.upd hup (by simp)
            replace of := of.upd hup (by simp)
            replace oat := oat.upd hup (by simp)
            replace oe := oe.upd hup (by simp)
            replace oj := oj.upd hup (by simp)
            replace hw : Below w.heap.size w u' := Upd.below hw hup (by simp)
            have hk : Keeps [] ue3 u' := Upd.keeps (Keeps.refl _ _) hup
            clear hup
            refine effc_mem (by rfl) (fun K hK => ?_)
            go_simp
            refine hK _ _ hk (fun uf0 hu => ?_)
            clear hK K
            replace hw := Below.hop hw hu
            replace hk := hk.later hu
            replace ol := ol.below hu
            replace of := of.below hu
            replace oat := oat.below hu
            replace oe := oe.below hu
            replace oj := oj.below hu
            replace ox := ox.below hu
            replace oy := oy.below hu
            clear hu
            refine effc_mem (by rfl) (fun K hK => ?_)
            go_simp
            refine hK _ _ hk (fun uf1 hu => ?_)
            clear hK K
            replace hw := Below.hop hw hu
            replace hk := hk.later hu
            replace ol := ol.below hu
            replace of := of.below hu
            replace oat := oat.below hu
            replace oe := oe.below hu
            replace oj := oj.below hu
            replace ox := ox.below hu
            replace oy := oy.below hu
            clear hu
            clear hk
            refine effc_nil ?_
            (try simp only [Act.put, List.setIfInBounds_toArray, List.set_cons_zero, List.set_cons_succ])
            (try simp only [coneB_val])
            generalize (f 1).1 = oxb at *
            generalize (f 3).1 = oyb at *
            generalize (f 1).2 = kx at *
            generalize (f 3).2 = ky at *
            clear f
            (try clear olc olf olz)
            (try clear ofc off ofz)
            (try clear oatc oatf oatz)
            (try clear oec oef oez)
            (try clear ojc ojf ojz)
            (try clear oxc oxf oxz)
            (try clear oyc oyf oyz)
            have olc := ol.cell
            have olf := ol.thaw
            have olz := ol.lt
            have ofc := of.cell
            have off := of.thaw
            have ofz := of.lt
            have oatc := oat.cell
            have oatf := oat.thaw
            have oatz := oat.lt
            have oec := oe.cell
            have oef := oe.thaw
            have oez := oe.lt
            have ojc := oj.cell
            have ojf := oj.thaw
            have ojz := oj.lt
            have oxc := ox.cell
            have oxf := ox.thaw
            have oxz := ox.lt
            have oyc := oy.cell
            have oyf := oy.thaw
            have oyz := oy.lt
            replace hz := hw.size
            have hnx := HNX.out
            have hny := HNY.out
            simp only [List.length_cons] at hnx hny
            have hnx1 : 1 ≤ (nx : Int) := by omega
            have hny1 : 1 ≤ (ny : Int) := by omega
            have hnx2 : ((nx : Int) == 0) = false := by simp; omega
            have hny2 : ((ny : Int) == 0) = false := by simp; omega
            have hnx3 : ¬ nx = 0 := by omega
            have hny3 : ¬ ny = 0 := by omega
            have hnx4 : (0 : Int) < (nx : Int) := by omega
            have hny4 : (0 : Int) < (ny : Int) := by omega
            clear hnx hny
            go_wp2
            refine region_gen (T := []) [.make 5 [] (ownB [] #[.int .i64 x0, .int .i64 x1, .int .i64 x2, .int .i64 m0, .int .i64 m1, .int .i64 m2] (fun p => .slice (some ⟨p, 0, none⟩) 6 6)), .make 11 [] (ownB [] #[.int .i64 y0, .int .i64 y1, .int .i64 y2, .int .i64 r0, .int .i64 r1, .int .i64 r2] (fun p => .slice (some ⟨p, 0, none⟩) 6 6))] 12 0 30 (fun _ _ => True) (fun _ _ _ _ _ => trivial) trivial (by kernel_rfl) (by kernel_rfl) (by rfl) ?_
            unfold genWalk
            apply Exists.intro
            apply And.intro
            · apply Piece.mk
              · intro f v hv hr hne
                simp only [List.take_succ_cons, List.take_zero, List.drop_zero, Nat.reduceSub]
                have doe := fun x => (oe.later (v := v) (T := []) (by first | (simp; done) | (simp; omega)) x).cell
                have dox := fun x => (ox.later (v := v) (T := []) (by first | (simp; done) | (simp; omega)) x).cell
                repeat (go_big_quiet_step (fail))
                refine wpQuiet_nil ?_
                exact rfl
              · intro f; kernel_rfl
              · intro f f' hf; kernel_rfl
            simp only [List.take_succ_cons, List.take_zero, List.drop_succ_cons, List.drop_zero, Nat.reduceAdd, oneOp]
            refine ⟨fun f => ⟨rfl, fun u hu _ => ?_⟩, ?_⟩
            · refine make_call (f := 62) (args := #[vV e0 e1 e2, vV x0 x1 x2]) (by (try simp only [Act.put, List.setIfInBounds_toArray, List.set_cons_zero, List.set_cons_succ]); (try simp only [ownB_val]); go_simp) ?_
              refine (contact_Wrench e0 e1 e2 x0 x1 x2 _).mono ?_
              rintro e wx ⟨g, rfl, hg1, hbx, hgo⟩
              exact ⟨(g, 0), rfl, hg1, hgo.lt, hbx, by simp, by rw [HMM.out] at hgo; exact hgo⟩
            unfold genWalk
            apply Exists.intro
            apply And.intro
            · apply Piece.mk
              · intro f v hv hr hne
                simp only [List.take_succ_cons, List.take_zero, List.drop_succ_cons, List.drop_zero, Nat.reduceSub]
                (try simp only [Act.put, List.setIfInBounds_toArray, List.set_cons_zero, List.set_cons_succ])
                (try simp only [ownB_val])
                have doj := fun x => (oj.later (v := v) (T := []) (by first | (simp; done) | (simp; omega)) x).cell
                have doy := fun x => (oy.later (v := v) (T := []) (by first | (simp; done) | (simp; omega)) x).cell
                repeat (go_big_quiet_step (fail))
                refine wpQuiet_nil ?_
                exact rfl
              · intro f; kernel_rfl
              · intro f f' hf; simp
            simp only [List.take_succ_cons, List.take_zero, List.drop_succ_cons, List.drop_zero, Nat.reduceAdd, oneOp]
            refine ⟨fun f => ⟨rfl, fun u hu _ => ?_⟩, ?_⟩
            · refine make_call (f := 62) (args := #[vV j0 j1 j2, vV y0 y1 y2]) (by (try simp only [Act.put, List.setIfInBounds_toArray, List.set_cons_zero, List.set_cons_succ]); (try simp only [ownB_val]); go_simp) ?_
              refine (contact_Wrench j0 j1 j2 y0 y1 y2 _).mono ?_
              rintro e wx ⟨g, rfl, hg1, hbx, hgo⟩
              exact ⟨(g, 0), rfl, hg1, hgo.lt, hbx, by simp, by rw [HRR.out] at hgo; exact hgo⟩
            unfold genWalk
            apply Exists.intro
            apply And.intro
            · apply Piece.mk
              · intro f v hv hr hne
                simp only [List.take_zero, List.drop_succ_cons, List.drop_zero, Nat.reduceSub]
                (try simp only [Act.put, List.setIfInBounds_toArray, List.set_cons_zero, List.set_cons_succ])
                (try simp only [ownB_val])
                refine wpQuiet_nil ?_
                exact rfl
              · intro f; kernel_rfl
              · intro f f' hf; simp
            intro f u' hup hp hmade hdist
            obtain ⟨⟨hTwv, wv⟩, wvlo, wvhi⟩ := hmade 5 (by omega) rfl
            have wv : Own u' (f 5).1 #[.int .i64 x0, .int .i64 x1, .int .i64 x2, .int .i64 m0, .int .i64 m1, .int .i64 m2] := wv
            obtain ⟨⟨hTww, ww⟩, wwlo, wwhi⟩ := hmade 11 (by omega) rfl
            have ww : Own u' (f 11).1 #[.int .i64 y0, .int .i64 y1, .int .i64 y2, .int .i64 r0, .int .i64 r1, .int .i64 r2] := ww
            simp only
            (try simp only [Act.put, List.setIfInBounds_toArray, List.set_cons_zero, List.set_cons_succ])
            (try simp only [ownB_val])
            clear hmade hdist hp hTwv hTww
            replace ol := ol.upd hup (by simp)
            replace of := of.upd hup (by simp)
            replace oat := oat.upd hup (by simp)
            replace oe := oe.upd hup (by simp)
            replace oj := oj.upd hup (by simp)
            replace ox := ox.upd hup (by simp)
            replace oy := oy.upd hup (by simp)
            replace hw : Below w.heap.size w u' := Upd.below hw hup (by simp)
            have hk : Keeps [] uf1 u' := Upd.keeps (Keeps.refl _ _) hup
            clear hup
            refine effc_mem (by rfl) (fun K hK => ?_)
            go_simp
            refine hK _ _ hk (fun ug0 hu => ?_)
            clear hK K
            replace hw := Below.hop hw hu
            replace hk := hk.later hu
            replace ol := ol.below hu
            replace of := of.below hu
            replace oat := oat.below hu
            replace oe := oe.below hu
            replace oj := oj.below hu
            replace ox := ox.below hu
            replace oy := oy.below hu
            replace wv := wv.below hu
            replace ww := ww.below hu
            clear hu
            refine effc_mem (by rfl) (fun K hK => ?_)
            go_simp
            refine hK _ _ hk (fun ug1 hu => ?_)
            clear hK K
            replace hw := Below.hop hw hu
            replace hk := hk.later hu
            replace ol := ol.below hu
            replace of := of.below hu
            replace oat := oat.below hu
            replace oe := oe.below hu
            replace oj := oj.below hu
            replace ox := ox.below hu
            replace oy := oy.below hu
            replace wv := wv.below hu
            replace ww := ww.below hu
            clear hu
            clear hk
            refine effc_nil ?_
            (try simp only [Act.put, List.setIfInBounds_toArray, List.set_cons_zero, List.set_cons_succ])
            (try simp only [ownB_val])
            generalize (f 5).1 = wvb at *
            generalize (f 11).1 = wwb at *
            clear f
            (try clear olc olf olz)
            (try clear ofc off ofz)
            (try clear oatc oatf oatz)
            (try clear oec oef oez)
            (try clear ojc ojf ojz)
            (try clear oxc oxf oxz)
            (try clear oyc oyf oyz)
            (try clear wvc wvf wvz)
            (try clear wwc wwf wwz)
            have olc := ol.cell
            have olf := ol.thaw
            have olz := ol.lt
            have ofc := of.cell
            have off := of.thaw
            have ofz := of.lt
            have oatc := oat.cell
            have oatf := oat.thaw
            have oatz := oat.lt
            have oec := oe.cell
            have oef := oe.thaw
            have oez := oe.lt
            have ojc := oj.cell
            have ojf := oj.thaw
            have ojz := oj.lt
            have oxc := ox.cell
            have oxf := ox.thaw
            have oxz := ox.lt
            have oyc := oy.cell
            have oyf := oy.thaw
            have oyz := oy.lt
            have wvc := wv.cell
            have wvf := wv.thaw
            have wvz := wv.lt
            have wwc := ww.cell
            have wwf := ww.thaw
            have wwz := ww.lt
            replace hz := hw.size
            go_wp2
            refine region_late 7 [] (by kernel_rfl) (by kernel_rfl) (by rfl) ?_
            apply Exists.intro
            refine ⟨fun v hv hne => ?_, fun u hu => ?_⟩
            · simp only [List.take_succ_cons, List.take_zero]
              have dol := fun x => (ol.later (v := v) (T := []) (by first | (simp; done) | (simp; omega)) x).cell
              have dof := fun x => (of.later (v := v) (T := []) (by first | (simp; done) | (simp; omega)) x).cell
              have doat := fun x => (oat.later (v := v) (T := []) (by first | (simp; done) | (simp; omega)) x).cell
              have doe := fun x => (oe.later (v := v) (T := []) (by first | (simp; done) | (simp; omega)) x).cell
              have doj := fun x => (oj.later (v := v) (T := []) (by first | (simp; done) | (simp; omega)) x).cell
              have dox := fun x => (ox.later (v := v) (T := []) (by first | (simp; done) | (simp; omega)) x).cell
              have doy := fun x => (oy.later (v := v) (T := []) (by first | (simp; done) | (simp; omega)) x).cell
              have dwv := fun x => (wv.later (v := v) (T := []) (by first | (simp; done) | (simp; omega)) x).cell
              have dww := fun x => (ww.later (v := v) (T := []) (by first | (simp; done) | (simp; omega)) x).cell
              repeat (go_big_quiet_step ((first | (go_at_call 27; with_reducible exact lateB (callv (plane_Add _ _ _ _ _ _ _) HPU.out)))))
              refine wpQuiet_nil ?_
              exact rfl
            · simp only [List.drop_succ_cons, List.drop_zero]
              skip
              refine late_mem (fun K hK => ?_)
              go_simp
              refine hK _ _ ((Keeps.of_below hu).alloc _) (fun uh2 hu2 => ?_)
              clear hK K
              have hk2 : Keeps [] ug1 uh2 := ((Keeps.of_below (T := []) hu).alloc _).later hu2
              have op : Own uh2 u.heap.size #[.int .i64 0, .int .i64 0, .int .i64 0] := Own.below (Own.new rfl) hu2
              have opc := op.cell
              have opf := op.thaw
              have opg : ug1.heap.size ≤ u.heap.size := hu.size
              replace hw := Below.hop ((Below.hop hw hu).alloc (by have := hw.size; have := hu.size; omega) _) hu2
              have hwz := hw.size
              have opy : w.heap.size ≤ u.heap.size := by omega
              refine late_mem (fun K hK => ?_)
              go_simp
              refine hK _ _ (((hk2.new opg _).new opg _).new opg _) (fun uh3 hu3 => ?_)
              clear hK K
              have hk3 : Keeps [] ug1 uh3 := (((hk2.new opg _).new opg _).new opg _).later hu3
              replace op : Own uh3 u.heap.size #[.int .i64 t0, .int .i64 t1, .int .i64 t2] := (((op.set 0 _).set 1 _).set 2 _).below hu3
              replace hw := Below.hop (((hw.setCell opy _).setCell opy _).setCell opy _) hu3
              clear opc opf hk2
              replace ol : Own uh3 (w.heap.size) #[.slice A0 n0 k0, .slice A1 n1 k1] := ol.keeps hk3 (by simp)
              replace of : Own uh3 (w.heap.size + 1) #[.int .i64 f0, .int .i64 f1, .int .i64 f2] := of.keeps hk3 (by simp)
              replace oat : Own uh3 (w.heap.size + 1 + 1 + 1) #[.int .i64 p0, .int .i64 p1, .int .i64 p2] := oat.keeps hk3 (by simp)
              replace oe : Own uh3 (oeb) #[.int .i64 e0, .int .i64 e1, .int .i64 e2, .int .i64 en0, .int .i64 en1, .int .i64 en2, .int .i64 em, .int .i64 ed] := oe.keeps hk3 (by simp)
              replace oj : Own uh3 (ojb) #[.int .i64 j0, .int .i64 j1, .int .i64 j2, .int .i64 jn0, .int .i64 jn1, .int .i64 jn2, .int .i64 jm, .int .i64 jd] := oj.keeps hk3 (by simp)
              replace ox : Own uh3 (oxb) cox := ox.keeps hk3 (by simp)
              replace oy : Own uh3 (oyb) coy := oy.keeps hk3 (by simp)
              replace wv : Own uh3 (wvb) #[.int .i64 x0, .int .i64 x1, .int .i64 x2, .int .i64 m0, .int .i64 m1, .int .i64 m2] := wv.keeps hk3 (by simp)
              replace ww : Own uh3 (wwb) #[.int .i64 y0, .int .i64 y1, .int .i64 y2, .int .i64 r0, .int .i64 r1, .int .i64 r2] := ww.keeps hk3 (by simp)
              refine late_nil ?_
              (try simp only [Act.put, List.setIfInBounds_toArray, List.set_cons_zero, List.set_cons_succ])
              clear hk3 hu hu2 hu3 hwz
              generalize u.heap.size = opb at *
              replace hz := hw.size
              clear u
              replace olc := ol.cell
              replace olf := ol.thaw
              replace olz := ol.lt
              replace ofc := of.cell
              replace off := of.thaw
              replace ofz := of.lt
              replace oatc := oat.cell
              replace oatf := oat.thaw
              replace oatz := oat.lt
              replace oec := oe.cell
              replace oef := oe.thaw
              replace oez := oe.lt
              replace ojc := oj.cell
              replace ojf := oj.thaw
              replace ojz := oj.lt
              replace oxc := ox.cell
              replace oxf := ox.thaw
              replace oxz := ox.lt
              replace oyc := oy.cell
              replace oyf := oy.thaw
              replace oyz := oy.lt
              replace wvc := wv.cell
              replace wvf := wv.thaw
              replace wvz := wv.lt
              replace wwc := ww.cell
              replace wwf := ww.thaw
              replace wwz := ww.lt
              replace opc := op.cell
              replace opf := op.thaw
              replace opz := op.lt
              go_wp2
              refine region_late 13 [] (by kernel_rfl) (by kernel_rfl) (by rfl) ?_
              apply Exists.intro
              refine ⟨fun v hv hne => ?_, fun u hu => ?_⟩
              · simp only [List.take_succ_cons, List.take_zero]
                have dol := fun x => (ol.later (v := v) (T := []) (by first | (simp; done) | (simp; omega)) x).cell
                have dof := fun x => (of.later (v := v) (T := []) (by first | (simp; done) | (simp; omega)) x).cell
                have doat := fun x => (oat.later (v := v) (T := []) (by first | (simp; done) | (simp; omega)) x).cell
                have doe := fun x => (oe.later (v := v) (T := []) (by first | (simp; done) | (simp; omega)) x).cell
                have doj := fun x => (oj.later (v := v) (T := []) (by first | (simp; done) | (simp; omega)) x).cell
                have dox := fun x => (ox.later (v := v) (T := []) (by first | (simp; done) | (simp; omega)) x).cell
                have doy := fun x => (oy.later (v := v) (T := []) (by first | (simp; done) | (simp; omega)) x).cell
                have dwv := fun x => (wv.later (v := v) (T := []) (by first | (simp; done) | (simp; omega)) x).cell
                have dww := fun x => (ww.later (v := v) (T := []) (by first | (simp; done) | (simp; omega)) x).cell
                have dop := fun x => (op.later (v := v) (T := []) (by first | (simp; done) | (simp; omega)) x).cell
                repeat (go_big_quiet_step ((first | (go_at_call 31; with_reducible exact lateB (callv (plane_Cross _ _ _ _ _ _ _) HMV.out)) | (go_at_call 31; with_reducible exact lateB (callv (plane_Cross _ _ _ _ _ _ _) HRV.out)) | (go_at_call 27; with_reducible exact lateB (callv (plane_Add _ _ _ _ _ _ _) HTU.out)))))
                refine wpQuiet_nil ?_
                exact rfl
              · simp only [List.drop_succ_cons, List.drop_zero]
                skip
                refine late_mem (fun K hK => ?_)
                go_simp
                refine hK _ _ ((Keeps.of_below hu).alloc _) (fun ui2 hu2 => ?_)
                clear hK K
                have hk2 : Keeps [] uh3 ui2 := ((Keeps.of_below (T := []) hu).alloc _).later hu2
                have ot : Own ui2 u.heap.size #[.int .i64 0, .int .i64 0, .int .i64 0] := Own.below (Own.new rfl) hu2
                have otc := ot.cell
                have otf := ot.thaw
                have otg : uh3.heap.size ≤ u.heap.size := hu.size
                replace hw := Below.hop ((Below.hop hw hu).alloc (by have := hw.size; have := hu.size; omega) _) hu2
                have hwz := hw.size
                have oty : w.heap.size ≤ u.heap.size := by omega
                refine late_mem (fun K hK => ?_)
                go_simp
                refine hK _ _ (((hk2.new otg _).new otg _).new otg _) (fun ui3 hu3 => ?_)
                clear hK K
                have hk3 : Keeps [] uh3 ui3 := (((hk2.new otg _).new otg _).new otg _).later hu3
                replace ot : Own ui3 u.heap.size #[.int .i64 z0, .int .i64 z1, .int .i64 z2] := (((ot.set 0 _).set 1 _).set 2 _).below hu3
                replace hw := Below.hop (((hw.setCell oty _).setCell oty _).setCell oty _) hu3
                clear otc otf hk2
                replace ol : Own ui3 (w.heap.size) #[.slice A0 n0 k0, .slice A1 n1 k1] := ol.keeps hk3 (by simp)
                replace of : Own ui3 (w.heap.size + 1) #[.int .i64 f0, .int .i64 f1, .int .i64 f2] := of.keeps hk3 (by simp)
                replace oat : Own ui3 (w.heap.size + 1 + 1 + 1) #[.int .i64 p0, .int .i64 p1, .int .i64 p2] := oat.keeps hk3 (by simp)
                replace oe : Own ui3 (oeb) #[.int .i64 e0, .int .i64 e1, .int .i64 e2, .int .i64 en0, .int .i64 en1, .int .i64 en2, .int .i64 em, .int .i64 ed] := oe.keeps hk3 (by simp)
                replace oj : Own ui3 (ojb) #[.int .i64 j0, .int .i64 j1, .int .i64 j2, .int .i64 jn0, .int .i64 jn1, .int .i64 jn2, .int .i64 jm, .int .i64 jd] := oj.keeps hk3 (by simp)
                replace ox : Own ui3 (oxb) cox := ox.keeps hk3 (by simp)
                replace oy : Own ui3 (oyb) coy := oy.keeps hk3 (by simp)
                replace wv : Own ui3 (wvb) #[.int .i64 x0, .int .i64 x1, .int .i64 x2, .int .i64 m0, .int .i64 m1, .int .i64 m2] := wv.keeps hk3 (by simp)
                replace ww : Own ui3 (wwb) #[.int .i64 y0, .int .i64 y1, .int .i64 y2, .int .i64 r0, .int .i64 r1, .int .i64 r2] := ww.keeps hk3 (by simp)
                replace op : Own ui3 (opb) #[.int .i64 t0, .int .i64 t1, .int .i64 t2] := op.keeps hk3 (by simp)
                refine late_nil ?_
                (try simp only [Act.put, List.setIfInBounds_toArray, List.set_cons_zero, List.set_cons_succ])
                clear hk3 hu hu2 hu3 hwz
                generalize u.heap.size = otb at *
                replace hz := hw.size
                clear u
                replace olc := ol.cell
                replace olf := ol.thaw
                replace olz := ol.lt
                replace ofc := of.cell
                replace off := of.thaw
                replace ofz := of.lt
                replace oatc := oat.cell
                replace oatf := oat.thaw
                replace oatz := oat.lt
                replace oec := oe.cell
                replace oef := oe.thaw
                replace oez := oe.lt
                replace ojc := oj.cell
                replace ojf := oj.thaw
                replace ojz := oj.lt
                replace oxc := ox.cell
                replace oxf := ox.thaw
                replace oxz := ox.lt
                replace oyc := oy.cell
                replace oyf := oy.thaw
                replace oyz := oy.lt
                replace wvc := wv.cell
                replace wvf := wv.thaw
                replace wvz := wv.lt
                replace wwc := ww.cell
                replace wwf := ww.thaw
                replace wwz := ww.lt
                replace opc := op.cell
                replace opf := op.thaw
                replace opz := op.lt
                replace otc := ot.cell
                replace otf := ot.thaw
                replace otz := ot.lt
                clear oec oef oez oe ojc ojf ojz oj oxc oxf oxz ox oyc oyf oyz oy oatc oatf oatz oat ofc off ofz of olc olf olz ol
                clear eox0 eox1 eox2 eoy0 eoy1 eoy2
                go_wp2
                have qwnwv : wvb < ui3.heap.size := wvz
                have qwnww : wwb < ui3.heap.size := wwz
                have qwnop : opb < ui3.heap.size := opz
                have qwnot : otb < ui3.heap.size := otz
                have ujs : (ui3.alloc (.cells #[.int .i64 t0, .int .i64 t1, .int .i64 t2, .int .i64 z0, .int .i64 z1, .int .i64 z2] 3)).heap.size = ui3.heap.size + 1 := by simp
                have uje := Lib.hid ujs
                clear ujs
                have wn : Own ((ui3.alloc (.cells #[.int .i64 t0, .int .i64 t1, .int .i64 t2, .int .i64 z0, .int .i64 z1, .int .i64 z2] 3))) (ui3.heap.size) #[.int .i64 t0, .int .i64 t1, .int .i64 t2, .int .i64 z0, .int .i64 z1, .int .i64 z2] := Own.new rfl
                replace wv : Own ((ui3.alloc (.cells #[.int .i64 t0, .int .i64 t1, .int .i64 t2, .int .i64 z0, .int .i64 z1, .int .i64 z2] 3))) (wvb) #[.int .i64 x0, .int .i64 x1, .int .i64 x2, .int .i64 m0, .int .i64 m1, .int .i64 m2] := (by repeat' (first | ((refine Own.new ?_); (focus (first | rfl | omega | (simp; done) | (simp; omega)))) | assumption | refine Own.alloc ?_ _ | refine Own.drew ?_ | (refine Own.far ?_ ?_ _; rotate_left; (focus (first | rfl | omega | (simp; done) | (simp; omega))))))
                clear wvc wvf wvz
                replace ww : Own ((ui3.alloc (.cells #[.int .i64 t0, .int .i64 t1, .int .i64 t2, .int .i64 z0, .int .i64 z1, .int .i64 z2] 3))) (wwb) #[.int .i64 y0, .int .i64 y1, .int .i64 y2, .int .i64 r0, .int .i64 r1, .int .i64 r2] := (by repeat' (first | ((refine Own.new ?_); (focus (first | rfl | omega | (simp; done) | (simp; omega)))) | assumption | refine Own.alloc ?_ _ | refine Own.drew ?_ | (refine Own.far ?_ ?_ _; rotate_left; (focus (first | rfl | omega | (simp; done) | (simp; omega))))))
                clear wwc wwf wwz
                replace op : Own ((ui3.alloc (.cells #[.int .i64 t0, .int .i64 t1, .int .i64 t2, .int .i64 z0, .int .i64 z1, .int .i64 z2] 3))) (opb) #[.int .i64 t0, .int .i64 t1, .int .i64 t2] := (by repeat' (first | ((refine Own.new ?_); (focus (first | rfl | omega | (simp; done) | (simp; omega)))) | assumption | refine Own.alloc ?_ _ | refine Own.drew ?_ | (refine Own.far ?_ ?_ _; rotate_left; (focus (first | rfl | omega | (simp; done) | (simp; omega))))))
                clear opc opf opz
                replace ot : Own ((ui3.alloc (.cells #[.int .i64 t0, .int .i64 t1, .int .i64 t2, .int .i64 z0, .int .i64 z1, .int .i64 z2] 3))) (otb) #[.int .i64 z0, .int .i64 z1, .int .i64 z2] := (by repeat' (first | ((refine Own.new ?_); (focus (first | rfl | omega | (simp; done) | (simp; omega)))) | assumption | refine Own.alloc ?_ _ | refine Own.drew ?_ | (refine Own.far ?_ ?_ _; rotate_left; (focus (first | rfl | omega | (simp; done) | (simp; omega))))))
                clear otc otf otz
                replace hw : Below w.heap.size w ((ui3.alloc (.cells #[.int .i64 t0, .int .i64 t1, .int .i64 t2, .int .i64 z0, .int .i64 z1, .int .i64 z2] 3))) := (by repeat' (first | exact Below.refl _ _ | assumption | (refine Below.alloc ?_ ?_ _; rotate_left; (focus (first | rfl | omega | (simp; done) | (simp; omega)))) | (refine Below.setCell ?_ ?_ _; rotate_left; (focus (first | rfl | omega | (simp; done) | (simp; omega)))) | refine Below.drew ?_))
                generalize (ui3.alloc (.cells #[.int .i64 t0, .int .i64 t1, .int .i64 t2, .int .i64 z0, .int .i64 z1, .int .i64 z2] 3)) = uj at *
                have wvc := wv.cell
                have wvf := wv.thaw
                have wvz := wv.lt
                have wwc := ww.cell
                have wwf := ww.thaw
                have wwz := ww.lt
                have opc := op.cell
                have opf := op.thaw
                have opz := op.lt
                have otc := ot.cell
                have otf := ot.thaw
                have otz := ot.lt
                have wnc := wn.cell
                have wnf := wn.thaw
                have wnz := wn.lt
                replace hz := hw.size
                generalize ui3.heap.size = wnb at *
                obtain ⟨cV, hcV⟩ : ∃ c : Array Value, c = #[.int .i64 x0, .int .i64 x1, .int .i64 x2, .int .i64 m0, .int .i64 m1, .int .i64 m2] := ⟨_, rfl⟩
                rw [← hcV] at wv wvc
                obtain ⟨cW, hcW⟩ : ∃ c : Array Value, c = #[.int .i64 y0, .int .i64 y1, .int .i64 y2, .int .i64 r0, .int .i64 r1, .int .i64 r2] := ⟨_, rfl⟩
                rw [← hcW] at ww wwc
                obtain ⟨cN, hcN⟩ : ∃ c : Array Value, c = #[.int .i64 t0, .int .i64 t1, .int .i64 t2, .int .i64 z0, .int .i64 z1, .int .i64 z2] := ⟨_, rfl⟩
                rw [← hcN] at wn wnc
                have hcs2 : ∀ k, k < 6 → ∃ x y z, cV[k]? = some (.int .i64 x) ∧ cW[k]? = some (.int .i64 y) ∧ cN[k]? = some (.int .i64 z) ∧ wrap64 (x + y) = z := fun k hk => by
                  rw [hcV, hcW, hcN]
                  rcases (show k = 0 ∨ k = 1 ∨ k = 2 ∨ k = 3 ∨ k = 4 ∨ k = 5 by omega) with rfl | rfl | rfl | rfl | rfl | rfl
                  · exact ⟨x0, y0, t0, rfl, rfl, rfl, HF.out.1⟩
                  · exact ⟨x1, y1, t1, rfl, rfl, rfl, HF.out.2.1⟩
                  · exact ⟨x2, y2, t2, rfl, rfl, rfl, HF.out.2.2.1⟩
                  · exact ⟨m0, r0, z0, rfl, rfl, rfl, HF.out.2.2.2.1⟩
                  · exact ⟨m1, r1, z1, rfl, rfl, rfl, HF.out.2.2.2.2.1⟩
                  · exact ⟨m2, r2, z2, rfl, rfl, rfl, HF.out.2.2.2.2.2⟩
                have HCS2 := Lib.hid hcs2
                clear hcs2 hcV hcW hcN
                go_loopw [202] (fun i wr => ∃ k : Nat, k ≤ 6 ∧ i = .int .i64 k ∧ Below w.heap.size w wr ∧ Own wr (wvb) cV ∧ Own wr (wwb) cW ∧ Own wr (opb) #[.int .i64 t0, .int .i64 t1, .int .i64 t2] ∧ Own wr (otb) #[.int .i64 z0, .int .i64 z1, .int .i64 z2] ∧ Own wr (wnb) cN) (fun i _ => 6 - (intOf i).toNat)
                case atStart => exact ⟨0, by omega, rfl, hw, wv, ww, op, ot, wn⟩
                case round =>
                  clear hw hz wv wvc wvf wvz ww wwc wwf wwz op opc opf opz ot otc otf otz wn wnc wnf wnz
                  obtain ⟨k, hk, rfl, hw, wv, ww, op, ot, wn⟩ := hrel
                  have hz := hw.size
                  have wvc := wv.cell
                  have wvf := wv.thaw
                  have wvz := wv.lt
                  have wwc := ww.cell
                  have wwf := ww.thaw
                  have wwz := ww.lt
                  have opc := op.cell
                  have opf := op.thaw
                  have opz := op.lt
                  have otc := ot.cell
                  have otf := ot.thaw
                  have otz := ot.lt
                  have wnc := wn.cell
                  have wnf := wn.thaw
                  have wnz := wn.lt
                  by_cases hlt : k < 6
                  · have hlt2 : (k : Int) < 6 := by omega
                    obtain ⟨x, y, z, hx, hy, hzz, hxyz⟩ := HCS2.out k hlt
                    go_wp2
                    have hxw : IntKind.i64.wrap (x + y) = z := (IntWalk.i64_left _).trans hxyz
                    clear hxyz
                    refine region_late 14 [] (by kernel_rfl) (by kernel_rfl) (by rfl) ?_
                    apply Exists.intro
                    refine ⟨fun v hv hne => ?_, fun u1 hu => ?_⟩
                    · simp only [List.take_succ_cons, List.take_zero]
                      have dwv := fun x => (wv.later (v := v) (T := []) (by first | (simp; done) | (simp; omega)) x).cell
                      have dww := fun x => (ww.later (v := v) (T := []) (by first | (simp; done) | (simp; omega)) x).cell
                      have dop := fun x => (op.later (v := v) (T := []) (by first | (simp; done) | (simp; omega)) x).cell
                      have dot := fun x => (ot.later (v := v) (T := []) (by first | (simp; done) | (simp; omega)) x).cell
                      have dwn := fun x => (wn.later (v := v) (T := []) (by first | (simp; done) | (simp; omega)) x).cell
                      have da := fun x => (dwv x k).trans hx
                      have db := fun x => (dww x k).trans hy
                      have dc := fun x => (dwn x k).trans hzz
                      repeat (go_big_quiet_step (fail))
                      refine wpQuiet_nil ?_
                      exact rfl
                    · simp only [List.drop_succ_cons, List.drop_zero]
                      replace wv := wv.below hu
                      replace ww := ww.below hu
                      replace op := op.below hu
                      replace ot := ot.below hu
                      replace wn := wn.below hu
                      replace hw := Below.hop hw hu
                      replace hz := hw.size
                      clear hu
                      refine late_nil ?_
                      (try simp only [Act.put, List.setIfInBounds_toArray, List.set_cons_zero, List.set_cons_succ])
                      have wvc := wv.cell
                      have wvf := wv.thaw
                      have wvz := wv.lt
                      have wwc := ww.cell
                      have wwf := ww.thaw
                      have wwz := ww.lt
                      have opc := op.cell
                      have opf := op.thaw
                      have opz := op.lt
                      have otc := ot.cell
                      have otf := ot.thaw
                      have otz := ot.lt
                      have wnc := wn.cell
                      have wnf := wn.thaw
                      have wnz := wn.lt
                      go_wp2
                      go_roundw
                      case rel => exact ⟨k + 1, by omega, by go_num, hw, wv, ww, op, ot, wn⟩
                      case measure => simp [intOf]; omega
                  · obtain rfl : k = 6 := by omega
                    go_wp2
                    go_ret
                    exact ⟨rfl, hw⟩
end Go.Proofs.Ythijnggeoinlfaa
