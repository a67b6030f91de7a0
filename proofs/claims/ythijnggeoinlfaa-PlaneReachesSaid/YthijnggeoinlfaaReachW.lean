/- The law PlaneReaches returns true. The slices read as int64 numbers. -/
import Derived.Test.YthijnggeoinlfaaSan7
import Derived.Test.YthijnggeoinlfaaReachM
import Derived.Test.YthijnggeoinlfaaMem
import Derived.Test.YthijnggeoinlfaaPlaneX
import Derived.Test.YthijnggeoinlfaaPlaneZ
import Derived.Test.YthijnggeoinlfaaPlaneC
namespace Go.Proofs.Ythijnggeoinlfaa
open Go.RowKit

theorem SliceI.later {w v : World} {A : Option Addr} {n : Nat} {l : List Int} (h : SliceI w A n l) (x : Later [] w v) : SliceI x.u A n l :=
  ⟨h.len, h.max, fun h1 => by
    obtain ⟨b, off, e, hlt, hc⟩ := h.row h1
    exact ⟨b, off, e, Nat.lt_of_lt_of_le hlt x.h.1, fun i hi => (x.cell b _ hlt (by simp)).trans (hc i hi)⟩⟩
theorem pl_ext {p q : Pl} (h1 : p.n.x = q.n.x) (h2 : p.n.y = q.n.y) (h3 : p.n.z = q.n.z) (h4 : p.b = q.b) : p = q := by
  obtain ⟨n, b⟩ := p
  obtain ⟨n', b'⟩ := q
  have : n = n' := V3.ext h1 h2 h3
  simp only [] at h4
  rw [this, h4]
theorem minN (n m : Nat) : (if (m : Int) < (n : Int) then (m : Int) else (n : Int)) = ((min n m : Nat) : Int) := by
  split <;> omega

set_option maxRecDepth 100000 in
set_option maxHeartbeats 4000000 in
theorem law7_Reaches_walk (A0 A1 A : Option Addr) (n0 cap0 n1 cap1 n cap : Nat) (l0 l1 l : List Int) (e0 e1 e2 b0 b1 b2 : Int) (w : World)
    (hl0 : SliceI w A0 n0 l0) (hc0 : n0 ≤ cap0) (hd0 : cap0 ≤ 9223372036854775807) (hl1 : SliceI w A1 n1 l1) (hc1 : n1 ≤ cap1) (hd1 : cap1 ≤ 9223372036854775807)
    (hl : SliceI w A n l) (hc : n ≤ cap) (hd : cap ≤ 9223372036854775807)
    (he0 : 0 ≤ e0 ∧ e0 ≤ 255) (he1 : 0 ≤ e1 ∧ e1 ≤ 255) (he2 : 0 ≤ e2 ∧ e2 ≤ 255) (hb0 : 0 ≤ b0 ∧ b0 ≤ 255) (hb1 : 0 ≤ b1 ∧ b1 ≤ 255) (hb2 : 0 ≤ b2 ∧ b2 ≤ 255) :
    Calls Try.prog 8 #[.agg #[.slice A0 n0 cap0, .slice A1 n1 cap1], .slice A n cap, .agg #[.int .u8 e0, .int .u8 e1, .int .u8 e2], .agg #[.int .u8 b0, .int .u8 b1, .int .u8 b2]] w fun r w' => r = .returned (.bool true) ∧ Below w.heap.size w w' := by
  have hl20 := hl0.cutTo 12
  have hm0 := minN n0 12
  obtain ⟨N0, hN0⟩ : ∃ N, min n0 12 = N := ⟨_, rfl⟩
  have hk0 : (N0 : Int) ≤ (cap0 : Int) := by omega
  have hj0 : 0 ≤ (N0 : Int) := by omega
  rw [hN0] at hl20 hm0
  have HL0 := Lib.hid hl20
  have hcc0 : 0 ≤ (n0 : Int) := by omega
  have hca0 : (n0 : Int) ≤ (cap0 : Int) := by omega
  have hcb0 : (cap0 : Int) ≤ 9223372036854775807 := by omega
  clear hl0 hl20 hN0
  have hl21 := hl1.cutTo 12
  have hm1 := minN n1 12
  obtain ⟨N1, hN1⟩ : ∃ N, min n1 12 = N := ⟨_, rfl⟩
  have hk1 : (N1 : Int) ≤ (cap1 : Int) := by omega
  have hj1 : 0 ≤ (N1 : Int) := by omega
  rw [hN1] at hl21 hm1
  have HL1 := Lib.hid hl21
  have hcc1 : 0 ≤ (n1 : Int) := by omega
  have hca1 : (n1 : Int) ≤ (cap1 : Int) := by omega
  have hcb1 : (cap1 : Int) ≤ 9223372036854775807 := by omega
  clear hl1 hl21 hN1
  have hl2 := hl.cutTo 16
  have hm := minN n 16
  obtain ⟨N, hN⟩ : ∃ N, min n 16 = N := ⟨_, rfl⟩
  have hk : (N : Int) ≤ (cap : Int) := by omega
  have hj : 0 ≤ (N : Int) := by omega
  rw [hN] at hl2 hm
  have HL := Lib.hid hl2
  have hcc : 0 ≤ (n : Int) := by omega
  have hca : (n : Int) ≤ (cap : Int) := by omega
  have hcb : (cap : Int) ≤ 9223372036854775807 := by omega
  clear hl hl2 hN
  simp only [Int.cast_ofNat_Int] at hm0 hm1 hm
  obtain ⟨P0, hP⟩ : ∃ P, madeV (l0.take 12) = P := ⟨_, rfl⟩
  obtain ⟨Q, hQ⟩ : ∃ P, madeV (l1.take 12) = P := ⟨_, rfl⟩
  have hPO := made_ok (l0.take 12)
  have hQO := made_ok (l1.take 12)
  rw [hP] at hPO
  rw [hQ] at hQO
  have HP := Lib.hid (show (madeV (l0.take 12)).v = P0.v from congrArg Pl.v hP)
  have HQ := Lib.hid (show (madeV (l1.take 12)).v = Q.v from congrArg Pl.v hQ)
  clear hP hQ
  obtain ⟨h, hh⟩ : ∃ h : V3, ⟨e0 % 13, e1 % 13, e2 % 13⟩ = h := ⟨_, rfl⟩
  have hH : Half h := by rw [← hh]; exact ⟨by simp only []; omega, by simp only []; omega, by simp only []; omega, by simp only []; omega, by simp only []; omega, by simp only []; omega⟩
  have HH := Lib.hid (show vV (e0 % 13) (e1 % 13) (e2 % 13) = h.v from congrArg V3.v hh)
  clear hh
  obtain ⟨d, hd⟩ : ∃ d : V3, ⟨b0 % (2 * h.x + 1) - h.x, b1 % (2 * h.y + 1) - h.y, b2 % (2 * h.z + 1) - h.z⟩ = d := ⟨_, rfl⟩
  have hD : Inside h d := by
    have k1 := hH.x1; have k2 := hH.y1; have k3 := hH.z1
    have m1 := Int.emod_nonneg b0 (b := 2 * h.x + 1) (by omega)
    have m2 := Int.emod_lt_of_pos b0 (b := 2 * h.x + 1) (by omega)
    have m3 := Int.emod_nonneg b1 (b := 2 * h.y + 1) (by omega)
    have m4 := Int.emod_lt_of_pos b1 (b := 2 * h.y + 1) (by omega)
    have m5 := Int.emod_nonneg b2 (b := 2 * h.z + 1) (by omega)
    have m6 := Int.emod_lt_of_pos b2 (b := 2 * h.z + 1) (by omega)
    rw [← hd]; exact ⟨by simp only []; omega, by simp only []; omega, by simp only []; omega, by simp only []; omega, by simp only []; omega, by simp only []; omega⟩
  have HD := Lib.hid (show vV (wrap64 (b0 % (2 * h.x + 1) - h.x)) (wrap64 (b1 % (2 * h.y + 1) - h.y)) (wrap64 (b2 % (2 * h.z + 1) - h.z)) = d.v by
    have k1 := hH.x2; have k2 := hH.y2; have k3 := hH.z2
    have q1 := hD.x1; have q2 := hD.x2; have q3 := hD.y1; have q4 := hD.y2; have q5 := hD.z1; have q6 := hD.z2
    rw [← hd] at q1 q2 q3 q4 q5 q6 ⊢
    simp only [] at q1 q2 q3 q4 q5 q6
    rw [wr_id (n := b0 % (2 * h.x + 1) - h.x) ⟨by omega, by omega⟩, wr_id (n := b1 % (2 * h.y + 1) - h.y) ⟨by omega, by omega⟩, wr_id (n := b2 % (2 * h.z + 1) - h.z) ⟨by omega, by omega⟩])
  clear hd
  obtain ⟨r, LW⟩ := reachLaw (q := Q) hPO hH hD
  have HLaw := Lib.hid LW
  obtain ⟨pb, hpb⟩ : ∃ pb, P0.b + r = pb := ⟨_, rfl⟩
  have HPB := Lib.hid hpb
  have HN := Lib.hid (hPO.n.i64 (by omega))
  have HRR := Lib.hid (show Value.int .i64 (vReach ⟨P0.n.x, P0.n.y, P0.n.z⟩ ⟨h.x, h.y, h.z⟩) = .int .i64 r from congrArg (Value.int .i64) LW.e)
  have HPU := Lib.hid (show Value.tuple #[(pPush ⟨⟨P0.n.x, P0.n.y, P0.n.z⟩, P0.b⟩ r).v, .bool (okPush ⟨⟨P0.n.x, P0.n.y, P0.n.z⟩, P0.b⟩ r)] = .tuple #[vP P0.n.x P0.n.y P0.n.z pb, .bool true] by
    show Value.tuple #[(pPush P0 r).v, .bool (okPush P0 r)] = _
    rw [LW.pu, LW.ok, hpb])
  have hr0 : ¬ r < 0 := by have := LW.r0; omega
  obtain ⟨C, hC⟩ : ∃ C, cornerV P0.n h = C := ⟨_, rfl⟩
  have HCC := Lib.hid hC
  have HC := Lib.hid (show vV (wrap64 (sgn P0.n.x * h.x)) (wrap64 (sgn P0.n.y * h.y)) (wrap64 (sgn P0.n.z * h.z)) = C.v from congrArg V3.v hC)
  have HDC := Lib.hid (show Value.int .i64 (vDot ⟨P0.n.x, P0.n.y, P0.n.z⟩ ⟨C.x, C.y, C.z⟩) = .int .i64 r from congrArg (Value.int .i64) (by rw [← hC]; exact LW.dc))
  have HPB2 := Lib.hid (show Value.tuple #[(pPush ⟨⟨P0.n.x, P0.n.y, P0.n.z⟩, pb⟩ (wrap64 (-r))).v, .bool (okPush ⟨⟨P0.n.x, P0.n.y, P0.n.z⟩, pb⟩ (wrap64 (-r)))] = .tuple #[P0.v, .bool true] by
    show Value.tuple #[(pPush ⟨P0.n, pb⟩ (wrap64 (-r))).v, .bool (okPush ⟨P0.n, pb⟩ (wrap64 (-r)))] = _
    rw [← hpb, LW.back, LW.ok2])
  clear LW hpb hC hPO hQO hD
  go_enter Try.func8, Try.ntmps8
  go_wp2_with fail
  refine Calls.mono (law7_sanity _) ?_
  rintro e w1 ⟨rfl, hbx⟩
  have o4 : Own w1 (w.heap.size) #[.slice A0 n0 cap0, .slice A1 n1 cap1] := Own.below (by repeat' (first | ((refine Own.new ?_); (focus (first | rfl | omega | (simp; done) | (simp; omega)))) | assumption | refine Own.alloc ?_ _ | refine Own.drew ?_ | (refine Own.far ?_ ?_ _; rotate_left; (focus (first | rfl | omega | (simp; done) | (simp; omega)))))) hbx
  have o4c := o4.cell
  have o4f := o4.thaw
  have o4z := o4.lt
  have o6 : Own w1 (w.heap.size + 1) #[.int .u8 e0, .int .u8 e1, .int .u8 e2] := Own.below (by repeat' (first | ((refine Own.new ?_); (focus (first | rfl | omega | (simp; done) | (simp; omega)))) | assumption | refine Own.alloc ?_ _ | refine Own.drew ?_ | (refine Own.far ?_ ?_ _; rotate_left; (focus (first | rfl | omega | (simp; done) | (simp; omega)))))) hbx
  have o6c := o6.cell
  have o6f := o6.thaw
  have o6z := o6.lt
  have o7 : Own w1 (w.heap.size + 1 + 1) #[.int .u8 b0, .int .u8 b1, .int .u8 b2] := Own.below (by repeat' (first | ((refine Own.new ?_); (focus (first | rfl | omega | (simp; done) | (simp; omega)))) | assumption | refine Own.alloc ?_ _ | refine Own.drew ?_ | (refine Own.far ?_ ?_ _; rotate_left; (focus (first | rfl | omega | (simp; done) | (simp; omega)))))) hbx
  have o7c := o7.cell
  have o7f := o7.thaw
  have o7z := o7.lt
  have hw : Below w.heap.size w w1 := Below.hop (by repeat' (first | exact Below.refl _ _ | assumption | (refine Below.alloc ?_ ?_ _; rotate_left; (focus (first | rfl | omega | (simp; done) | (simp; omega)))) | (refine Below.setCell ?_ ?_ _; rotate_left; (focus (first | rfl | omega | (simp; done) | (simp; omega)))) | refine Below.drew ?_)) hbx
  have hz := hw.size
  clear hbx
  go_wp2
  have HS0 := Lib.hid (HL0.out.below hw)
  have HS1 := Lib.hid (HL1.out.below hw)
  refine region_mem 16 2 0 [] (by kernel_rfl) (by kernel_rfl) (by rfl) [(.cells #[.int .i64 0, .int .i64 0, .int .i64 0, .int .i64 0] 32, fun p => .pointer (some ⟨p, 0, none⟩)), (.cells #[.int .i64 0, .int .i64 0, .int .i64 0, .int .i64 0] 32, fun p => .pointer (some ⟨p, 0, none⟩))] ?_
  apply Exists.intro
  refine ⟨fun v hv hne => ?_, ⟨fun u => by go_simp, fun u => by go_simp, trivial⟩, fun u u1 hu hu1 => ?_⟩
  · simp only [List.take_succ_cons, List.take_zero, List.drop_succ_cons, List.drop_zero, Nat.reduceAdd, List.append_nil]
    have do4 := fun x => (o4.later (v := v) (T := []) (by first | (simp; done) | (simp; omega)) x).cell
    have do6 := fun x => (o6.later (v := v) (T := []) (by first | (simp; done) | (simp; omega)) x).cell
    have do7 := fun x => (o7.later (v := v) (T := []) (by first | (simp; done) | (simp; omega)) x).cell
    repeat (go_big_quiet_step ((first | (go_at_call 36; with_reducible exact lateB (callv (ref7_Made A0 _ cap0 _ _ (HS0.out.later _)) HP.out)) | (go_at_call 36; with_reducible exact lateB (callv (ref7_Made A1 _ cap1 _ _ (HS1.out.later _)) HQ.out)))))
    refine wpQuiet_nil ?_
    exact rfl
  · simp only [List.take_succ_cons, List.take_zero, List.drop_succ_cons, List.drop_zero, Nat.reduceAdd, memK]
    intro opb op1 op2 op3 oqb oq1 oq2 oq3
    have hk : Keeps [] w1 u1 := Keeps.of_below (Below.hop hu hu1)
    replace hw := Below.hop (Below.hop hw hu) hu1
    have hwz := hw.size
    have huz := hu.size
    have opy : w.heap.size ≤ opb := by have := w.heap.size; omega
    have opg : w1.heap.size ≤ opb := by omega
    have op : Own u1 opb #[.int .i64 0, .int .i64 0, .int .i64 0, .int .i64 0] := ⟨_, op3⟩
    have opc := op.cell
    have opf := op.thaw
    have oqy : w.heap.size ≤ oqb := by have := w.heap.size; omega
    have oqg : w1.heap.size ≤ oqb := by omega
    have oq : Own u1 oqb #[.int .i64 0, .int .i64 0, .int .i64 0, .int .i64 0] := ⟨_, oq3⟩
    have oqc := oq.cell
    have oqf := oq.thaw
    have noqop : oqb ≠ opb := fun e => oq2 (by simp [e])
    have nopoq : opb ≠ oqb := fun e => oq2 (by simp [e])
    clear op2 op3 oq2 oq3
    refine chain_mem (fun K hK => ?_)
    go_simp
    refine hK _ _ ((((hk.new (by simp; omega) _).new (by simp; omega) _).new (by simp; omega) _).new (by simp; omega) _) (fun u2 hun => ?_)
    clear hK K
    replace hk : Keeps [] w1 u2 := ((((hk.new (by simp; omega) _).new (by simp; omega) _).new (by simp; omega) _).new (by simp; omega) _).later hun
    replace op : Own u2 opb #[.int .i64 P0.n.x, .int .i64 P0.n.y, .int .i64 P0.n.z, .int .i64 P0.b] := ((((op.set 0 _).set 1 _).set 2 _).set 3 _).below hun
    replace oq := ((((oq.far (by simp; omega) _).far (by simp; omega) _).far (by simp; omega) _).far (by simp; omega) _).below hun
    replace hw := Below.hop ((((hw.setCell (by simp; omega) _).setCell (by simp; omega) _).setCell (by simp; omega) _).setCell (by simp; omega) _) hun
    clear hun
    replace opc := op.cell
    replace opf := op.thaw
    replace oqc := oq.cell
    replace oqf := oq.thaw
    refine chain_mem (fun K hK => ?_)
    go_simp
    refine hK _ _ ((((hk.new (by simp; omega) _).new (by simp; omega) _).new (by simp; omega) _).new (by simp; omega) _) (fun u3 hun => ?_)
    clear hK K
    replace hk : Keeps [] w1 u3 := ((((hk.new (by simp; omega) _).new (by simp; omega) _).new (by simp; omega) _).new (by simp; omega) _).later hun
    replace oq : Own u3 oqb #[.int .i64 Q.n.x, .int .i64 Q.n.y, .int .i64 Q.n.z, .int .i64 Q.b] := ((((oq.set 0 _).set 1 _).set 2 _).set 3 _).below hun
    replace op := ((((op.far (by simp; omega) _).far (by simp; omega) _).far (by simp; omega) _).far (by simp; omega) _).below hun
    replace hw := Below.hop ((((hw.setCell (by simp; omega) _).setCell (by simp; omega) _).setCell (by simp; omega) _).setCell (by simp; omega) _) hun
    clear hun
    replace opc := op.cell
    replace opf := op.thaw
    replace oqc := oq.cell
    replace oqf := oq.thaw
    replace o4 : Own u3 (w.heap.size) #[.slice A0 n0 cap0, .slice A1 n1 cap1] := o4.keeps hk (by simp)
    replace o6 : Own u3 (w.heap.size + 1) #[.int .u8 e0, .int .u8 e1, .int .u8 e2] := o6.keeps hk (by simp)
    replace o7 : Own u3 (w.heap.size + 1 + 1) #[.int .u8 b0, .int .u8 b1, .int .u8 b2] := o7.keeps hk (by simp)
    refine chain_nil ?_
    (try simp only [Act.put, List.setIfInBounds_toArray, List.set_cons_zero, List.set_cons_succ])
    clear hk hu hu1 hwz huz
    replace hz := hw.size
    replace o4c := o4.cell
    replace o4f := o4.thaw
    replace o4z := o4.lt
    replace o6c := o6.cell
    replace o6f := o6.thaw
    replace o6z := o6.lt
    replace o7c := o7.cell
    replace o7f := o7.thaw
    replace o7z := o7.lt
    replace opc := op.cell
    replace opf := op.thaw
    replace opz := op.lt
    replace oqc := oq.cell
    replace oqf := oq.thaw
    replace oqz := oq.lt
    clear o4c o4f o4z o4
    clear HS0 HS1
    go_wp2_with fail
    refine Calls.mono (callv (law7_vec _ _ _ _) HH.out) ?_
    rintro e w2 ⟨rfl, hbx⟩
    replace o6 : Own w2 (w.heap.size + 1) #[.int .u8 e0, .int .u8 e1, .int .u8 e2] := Own.below (by repeat' (first | ((refine Own.new ?_); (focus (first | rfl | omega | (simp; done) | (simp; omega)))) | assumption | refine Own.alloc ?_ _ | refine Own.drew ?_ | (refine Own.far ?_ ?_ _; rotate_left; (focus (first | rfl | omega | (simp; done) | (simp; omega)))))) hbx
    replace o6c := o6.cell
    replace o6f := o6.thaw
    replace o6z := o6.lt
    replace o7 : Own w2 (w.heap.size + 1 + 1) #[.int .u8 b0, .int .u8 b1, .int .u8 b2] := Own.below (by repeat' (first | ((refine Own.new ?_); (focus (first | rfl | omega | (simp; done) | (simp; omega)))) | assumption | refine Own.alloc ?_ _ | refine Own.drew ?_ | (refine Own.far ?_ ?_ _; rotate_left; (focus (first | rfl | omega | (simp; done) | (simp; omega)))))) hbx
    replace o7c := o7.cell
    replace o7f := o7.thaw
    replace o7z := o7.lt
    replace op : Own w2 (opb) #[.int .i64 P0.n.x, .int .i64 P0.n.y, .int .i64 P0.n.z, .int .i64 P0.b] := Own.below (by repeat' (first | ((refine Own.new ?_); (focus (first | rfl | omega | (simp; done) | (simp; omega)))) | assumption | refine Own.alloc ?_ _ | refine Own.drew ?_ | (refine Own.far ?_ ?_ _; rotate_left; (focus (first | rfl | omega | (simp; done) | (simp; omega)))))) hbx
    replace opc := op.cell
    replace opf := op.thaw
    replace opz := op.lt
    replace oq : Own w2 (oqb) #[.int .i64 Q.n.x, .int .i64 Q.n.y, .int .i64 Q.n.z, .int .i64 Q.b] := Own.below (by repeat' (first | ((refine Own.new ?_); (focus (first | rfl | omega | (simp; done) | (simp; omega)))) | assumption | refine Own.alloc ?_ _ | refine Own.drew ?_ | (refine Own.far ?_ ?_ _; rotate_left; (focus (first | rfl | omega | (simp; done) | (simp; omega)))))) hbx
    replace oqc := oq.cell
    replace oqf := oq.thaw
    replace oqz := oq.lt
    replace hw : Below w.heap.size w w2 := Below.hop (by repeat' (first | exact Below.refl _ _ | assumption | (refine Below.alloc ?_ ?_ _; rotate_left; (focus (first | rfl | omega | (simp; done) | (simp; omega)))) | (refine Below.setCell ?_ ?_ _; rotate_left; (focus (first | rfl | omega | (simp; done) | (simp; omega)))) | refine Below.drew ?_)) hbx
    replace hz := hw.size
    clear hbx
    go_wp2
    have oh : Own (w2.alloc (.cells #[.int .i64 h.x, .int .i64 h.y, .int .i64 h.z] 24)) (w2.heap.size) #[.int .i64 h.x, .int .i64 h.y, .int .i64 h.z] := Own.new rfl
    replace o6 : Own (w2.alloc (.cells #[.int .i64 h.x, .int .i64 h.y, .int .i64 h.z] 24)) (w.heap.size + 1) #[.int .u8 e0, .int .u8 e1, .int .u8 e2] := (by repeat' (first | ((refine Own.new ?_); (focus (first | rfl | omega | (simp; done) | (simp; omega)))) | assumption | refine Own.alloc ?_ _ | refine Own.drew ?_ | (refine Own.far ?_ ?_ _; rotate_left; (focus (first | rfl | omega | (simp; done) | (simp; omega))))))
    clear o6c o6f o6z
    replace o7 : Own (w2.alloc (.cells #[.int .i64 h.x, .int .i64 h.y, .int .i64 h.z] 24)) (w.heap.size + 1 + 1) #[.int .u8 b0, .int .u8 b1, .int .u8 b2] := (by repeat' (first | ((refine Own.new ?_); (focus (first | rfl | omega | (simp; done) | (simp; omega)))) | assumption | refine Own.alloc ?_ _ | refine Own.drew ?_ | (refine Own.far ?_ ?_ _; rotate_left; (focus (first | rfl | omega | (simp; done) | (simp; omega))))))
    clear o7c o7f o7z
    replace op : Own (w2.alloc (.cells #[.int .i64 h.x, .int .i64 h.y, .int .i64 h.z] 24)) (opb) #[.int .i64 P0.n.x, .int .i64 P0.n.y, .int .i64 P0.n.z, .int .i64 P0.b] := (by repeat' (first | ((refine Own.new ?_); (focus (first | rfl | omega | (simp; done) | (simp; omega)))) | assumption | refine Own.alloc ?_ _ | refine Own.drew ?_ | (refine Own.far ?_ ?_ _; rotate_left; (focus (first | rfl | omega | (simp; done) | (simp; omega))))))
    clear opc opf opz
    replace oq : Own (w2.alloc (.cells #[.int .i64 h.x, .int .i64 h.y, .int .i64 h.z] 24)) (oqb) #[.int .i64 Q.n.x, .int .i64 Q.n.y, .int .i64 Q.n.z, .int .i64 Q.b] := (by repeat' (first | ((refine Own.new ?_); (focus (first | rfl | omega | (simp; done) | (simp; omega)))) | assumption | refine Own.alloc ?_ _ | refine Own.drew ?_ | (refine Own.far ?_ ?_ _; rotate_left; (focus (first | rfl | omega | (simp; done) | (simp; omega))))))
    clear oqc oqf oqz
    replace hw : Below w.heap.size w (w2.alloc (.cells #[.int .i64 h.x, .int .i64 h.y, .int .i64 h.z] 24)) := (by repeat' (first | exact Below.refl _ _ | assumption | (refine Below.alloc ?_ ?_ _; rotate_left; (focus (first | rfl | omega | (simp; done) | (simp; omega)))) | (refine Below.setCell ?_ ?_ _; rotate_left; (focus (first | rfl | omega | (simp; done) | (simp; omega)))) | refine Below.drew ?_))
    generalize w2.alloc (.cells #[.int .i64 h.x, .int .i64 h.y, .int .i64 h.z] 24) = w3 at *
    have o6c := o6.cell
    have o6f := o6.thaw
    have o6z := o6.lt
    have o7c := o7.cell
    have o7f := o7.thaw
    have o7z := o7.lt
    have opc := op.cell
    have opf := op.thaw
    have opz := op.lt
    have oqc := oq.cell
    have oqf := oq.thaw
    have oqz := oq.lt
    have ohc := oh.cell
    have ohf := oh.thaw
    have ohz := oh.lt
    replace hz := hw.size
    have hx1 := hH.x1
    have hx2 := hH.x2
    have hy1 := hH.y1
    have hy2 := hH.y2
    have hz1 := hH.z1
    have hz2 := hH.z2
    refine region_late 34 [] (by kernel_rfl) (by kernel_rfl) (by rfl) ?_
    apply Exists.intro
    refine ⟨fun v hv hne => ?_, fun u hu => ?_⟩
    · simp only [List.take_succ_cons, List.take_zero]
      have do6 := fun x => (o6.later (v := v) (T := []) (by first | (simp; done) | (simp; omega)) x).cell
      have do7 := fun x => (o7.later (v := v) (T := []) (by first | (simp; done) | (simp; omega)) x).cell
      have dop := fun x => (op.later (v := v) (T := []) (by first | (simp; done) | (simp; omega)) x).cell
      have doq := fun x => (oq.later (v := v) (T := []) (by first | (simp; done) | (simp; omega)) x).cell
      have doh := fun x => (oh.later (v := v) (T := []) (by first | (simp; done) | (simp; omega)) x).cell
      repeat (go_big_quiet_step ((first | (go_at_call 22; with_reducible exact lateB (callv (law7_vec _ _ _ _) HD.out)))))
      refine wpQuiet_nil ?_
      exact rfl
    · simp only [List.drop_succ_cons, List.drop_zero]
      skip
      refine late_mem (fun K hK => ?_)
      go_simp
      refine hK _ _ ((Keeps.of_below hu).alloc _) (fun ua2 hu2 => ?_)
      clear hK K
      have hk2 : Keeps [] w3 ua2 := ((Keeps.of_below (T := []) hu).alloc _).later hu2
      have od : Own ua2 u.heap.size #[.int .i64 0, .int .i64 0, .int .i64 0] := Own.below (Own.new rfl) hu2
      have odc := od.cell
      have odf := od.thaw
      have odg : w3.heap.size ≤ u.heap.size := hu.size
      replace hw := Below.hop ((Below.hop hw hu).alloc (by have := hw.size; have := hu.size; omega) _) hu2
      have hwz := hw.size
      have ody : w.heap.size ≤ u.heap.size := by omega
      refine late_mem (fun K hK => ?_)
      go_simp
      refine hK _ _ (((hk2.new (by simp; omega) _).new (by simp; omega) _).new (by simp; omega) _) (fun ua3 hu3 => ?_)
      clear hK K
      have hk3 : Keeps [] w3 ua3 := (((hk2.new (by simp; omega) _).new (by simp; omega) _).new (by simp; omega) _).later hu3
      replace od : Own ua3 u.heap.size #[.int .i64 d.x, .int .i64 d.y, .int .i64 d.z] := (((od.set 0 _).set 1 _).set 2 _).below hu3
      replace hw := Below.hop (((hw.setCell (by simp; omega) _).setCell (by simp; omega) _).setCell (by simp; omega) _) hu3
      clear odc odf hk2
      replace o6 : Own ua3 (w.heap.size + 1) #[.int .u8 e0, .int .u8 e1, .int .u8 e2] := o6.keeps hk3 (by simp)
      replace o7 : Own ua3 (w.heap.size + 1 + 1) #[.int .u8 b0, .int .u8 b1, .int .u8 b2] := o7.keeps hk3 (by simp)
      replace op : Own ua3 (opb) #[.int .i64 P0.n.x, .int .i64 P0.n.y, .int .i64 P0.n.z, .int .i64 P0.b] := op.keeps hk3 (by simp)
      replace oq : Own ua3 (oqb) #[.int .i64 Q.n.x, .int .i64 Q.n.y, .int .i64 Q.n.z, .int .i64 Q.b] := oq.keeps hk3 (by simp)
      replace oh : Own ua3 (w2.heap.size) #[.int .i64 h.x, .int .i64 h.y, .int .i64 h.z] := oh.keeps hk3 (by simp)
      refine late_nil ?_
      (try simp only [Act.put, List.setIfInBounds_toArray, List.set_cons_zero, List.set_cons_succ])
      clear hk3 hu hu2 hu3 hwz
      generalize u.heap.size = odb at *
      replace hz := hw.size
      clear u
      replace o6c := o6.cell
      replace o6f := o6.thaw
      replace o6z := o6.lt
      replace o7c := o7.cell
      replace o7f := o7.thaw
      replace o7z := o7.lt
      replace opc := op.cell
      replace opf := op.thaw
      replace opz := op.lt
      replace oqc := oq.cell
      replace oqf := oq.thaw
      replace oqz := oq.lt
      replace ohc := oh.cell
      replace ohf := oh.thaw
      replace ohz := oh.lt
      replace odc := od.cell
      replace odf := od.thaw
      replace odz := od.lt
      clear o6c o6f o6z o6 o7c o7f o7z o7
      go_wp2_with fail
      refine Calls.mono (callv (plane_Reach P0.n.x P0.n.y P0.n.z h.x h.y h.z HN.out.1 HN.out.2.1 HN.out.2.2 _) HRR.out) ?_
      rintro e w4 ⟨rfl, hbx⟩
      replace op : Own w4 (opb) #[.int .i64 P0.n.x, .int .i64 P0.n.y, .int .i64 P0.n.z, .int .i64 P0.b] := Own.below (by repeat' (first | ((refine Own.new ?_); (focus (first | rfl | omega | (simp; done) | (simp; omega)))) | assumption | refine Own.alloc ?_ _ | refine Own.drew ?_ | (refine Own.far ?_ ?_ _; rotate_left; (focus (first | rfl | omega | (simp; done) | (simp; omega)))))) hbx
      replace opc := op.cell
      replace opf := op.thaw
      replace opz := op.lt
      replace oq : Own w4 (oqb) #[.int .i64 Q.n.x, .int .i64 Q.n.y, .int .i64 Q.n.z, .int .i64 Q.b] := Own.below (by repeat' (first | ((refine Own.new ?_); (focus (first | rfl | omega | (simp; done) | (simp; omega)))) | assumption | refine Own.alloc ?_ _ | refine Own.drew ?_ | (refine Own.far ?_ ?_ _; rotate_left; (focus (first | rfl | omega | (simp; done) | (simp; omega)))))) hbx
      replace oqc := oq.cell
      replace oqf := oq.thaw
      replace oqz := oq.lt
      replace oh : Own w4 (w2.heap.size) #[.int .i64 h.x, .int .i64 h.y, .int .i64 h.z] := Own.below (by repeat' (first | ((refine Own.new ?_); (focus (first | rfl | omega | (simp; done) | (simp; omega)))) | assumption | refine Own.alloc ?_ _ | refine Own.drew ?_ | (refine Own.far ?_ ?_ _; rotate_left; (focus (first | rfl | omega | (simp; done) | (simp; omega)))))) hbx
      replace ohc := oh.cell
      replace ohf := oh.thaw
      replace ohz := oh.lt
      replace od : Own w4 (odb) #[.int .i64 d.x, .int .i64 d.y, .int .i64 d.z] := Own.below (by repeat' (first | ((refine Own.new ?_); (focus (first | rfl | omega | (simp; done) | (simp; omega)))) | assumption | refine Own.alloc ?_ _ | refine Own.drew ?_ | (refine Own.far ?_ ?_ _; rotate_left; (focus (first | rfl | omega | (simp; done) | (simp; omega)))))) hbx
      replace odc := od.cell
      replace odf := od.thaw
      replace odz := od.lt
      replace hw : Below w.heap.size w w4 := Below.hop (by repeat' (first | exact Below.refl _ _ | assumption | (refine Below.alloc ?_ ?_ _; rotate_left; (focus (first | rfl | omega | (simp; done) | (simp; omega)))) | (refine Below.setCell ?_ ?_ _; rotate_left; (focus (first | rfl | omega | (simp; done) | (simp; omega)))) | refine Below.drew ?_)) hbx
      replace hz := hw.size
      clear hbx
      go_wp2_with fail
      refine Calls.mono (callv (plane_Push P0.n.x P0.n.y P0.n.z P0.b r HN.out.1 HN.out.2.1 HN.out.2.2 _) HPU.out) ?_
      rintro e w5 ⟨rfl, hbx⟩
      replace op : Own w5 (opb) #[.int .i64 P0.n.x, .int .i64 P0.n.y, .int .i64 P0.n.z, .int .i64 P0.b] := Own.below (by repeat' (first | ((refine Own.new ?_); (focus (first | rfl | omega | (simp; done) | (simp; omega)))) | assumption | refine Own.alloc ?_ _ | refine Own.drew ?_ | (refine Own.far ?_ ?_ _; rotate_left; (focus (first | rfl | omega | (simp; done) | (simp; omega)))))) hbx
      replace opc := op.cell
      replace opf := op.thaw
      replace opz := op.lt
      replace oq : Own w5 (oqb) #[.int .i64 Q.n.x, .int .i64 Q.n.y, .int .i64 Q.n.z, .int .i64 Q.b] := Own.below (by repeat' (first | ((refine Own.new ?_); (focus (first | rfl | omega | (simp; done) | (simp; omega)))) | assumption | refine Own.alloc ?_ _ | refine Own.drew ?_ | (refine Own.far ?_ ?_ _; rotate_left; (focus (first | rfl | omega | (simp; done) | (simp; omega)))))) hbx
      replace oqc := oq.cell
      replace oqf := oq.thaw
      replace oqz := oq.lt
      replace oh : Own w5 (w2.heap.size) #[.int .i64 h.x, .int .i64 h.y, .int .i64 h.z] := Own.below (by repeat' (first | ((refine Own.new ?_); (focus (first | rfl | omega | (simp; done) | (simp; omega)))) | assumption | refine Own.alloc ?_ _ | refine Own.drew ?_ | (refine Own.far ?_ ?_ _; rotate_left; (focus (first | rfl | omega | (simp; done) | (simp; omega)))))) hbx
      replace ohc := oh.cell
      replace ohf := oh.thaw
      replace ohz := oh.lt
      replace od : Own w5 (odb) #[.int .i64 d.x, .int .i64 d.y, .int .i64 d.z] := Own.below (by repeat' (first | ((refine Own.new ?_); (focus (first | rfl | omega | (simp; done) | (simp; omega)))) | assumption | refine Own.alloc ?_ _ | refine Own.drew ?_ | (refine Own.far ?_ ?_ _; rotate_left; (focus (first | rfl | omega | (simp; done) | (simp; omega)))))) hbx
      replace odc := od.cell
      replace odf := od.thaw
      replace odz := od.lt
      replace hw : Below w.heap.size w w5 := Below.hop (by repeat' (first | exact Below.refl _ _ | assumption | (refine Below.alloc ?_ ?_ _; rotate_left; (focus (first | rfl | omega | (simp; done) | (simp; omega)))) | (refine Below.setCell ?_ ?_ _; rotate_left; (focus (first | rfl | omega | (simp; done) | (simp; omega)))) | refine Below.drew ?_)) hbx
      replace hz := hw.size
      clear hbx
      go_wp2
      have ou : Own (w5.alloc (.cells #[.int .i64 P0.n.x, .int .i64 P0.n.y, .int .i64 P0.n.z, .int .i64 pb] 32)) (w5.heap.size) #[.int .i64 P0.n.x, .int .i64 P0.n.y, .int .i64 P0.n.z, .int .i64 pb] := Own.new rfl
      replace op : Own (w5.alloc (.cells #[.int .i64 P0.n.x, .int .i64 P0.n.y, .int .i64 P0.n.z, .int .i64 pb] 32)) (opb) #[.int .i64 P0.n.x, .int .i64 P0.n.y, .int .i64 P0.n.z, .int .i64 P0.b] := (by repeat' (first | ((refine Own.new ?_); (focus (first | rfl | omega | (simp; done) | (simp; omega)))) | assumption | refine Own.alloc ?_ _ | refine Own.drew ?_ | (refine Own.far ?_ ?_ _; rotate_left; (focus (first | rfl | omega | (simp; done) | (simp; omega))))))
      clear opc opf opz
      replace oq : Own (w5.alloc (.cells #[.int .i64 P0.n.x, .int .i64 P0.n.y, .int .i64 P0.n.z, .int .i64 pb] 32)) (oqb) #[.int .i64 Q.n.x, .int .i64 Q.n.y, .int .i64 Q.n.z, .int .i64 Q.b] := (by repeat' (first | ((refine Own.new ?_); (focus (first | rfl | omega | (simp; done) | (simp; omega)))) | assumption | refine Own.alloc ?_ _ | refine Own.drew ?_ | (refine Own.far ?_ ?_ _; rotate_left; (focus (first | rfl | omega | (simp; done) | (simp; omega))))))
      clear oqc oqf oqz
      replace oh : Own (w5.alloc (.cells #[.int .i64 P0.n.x, .int .i64 P0.n.y, .int .i64 P0.n.z, .int .i64 pb] 32)) (w2.heap.size) #[.int .i64 h.x, .int .i64 h.y, .int .i64 h.z] := (by repeat' (first | ((refine Own.new ?_); (focus (first | rfl | omega | (simp; done) | (simp; omega)))) | assumption | refine Own.alloc ?_ _ | refine Own.drew ?_ | (refine Own.far ?_ ?_ _; rotate_left; (focus (first | rfl | omega | (simp; done) | (simp; omega))))))
      clear ohc ohf ohz
      replace od : Own (w5.alloc (.cells #[.int .i64 P0.n.x, .int .i64 P0.n.y, .int .i64 P0.n.z, .int .i64 pb] 32)) (odb) #[.int .i64 d.x, .int .i64 d.y, .int .i64 d.z] := (by repeat' (first | ((refine Own.new ?_); (focus (first | rfl | omega | (simp; done) | (simp; omega)))) | assumption | refine Own.alloc ?_ _ | refine Own.drew ?_ | (refine Own.far ?_ ?_ _; rotate_left; (focus (first | rfl | omega | (simp; done) | (simp; omega))))))
      clear odc odf odz
      replace hw : Below w.heap.size w (w5.alloc (.cells #[.int .i64 P0.n.x, .int .i64 P0.n.y, .int .i64 P0.n.z, .int .i64 pb] 32)) := (by repeat' (first | exact Below.refl _ _ | assumption | (refine Below.alloc ?_ ?_ _; rotate_left; (focus (first | rfl | omega | (simp; done) | (simp; omega)))) | (refine Below.setCell ?_ ?_ _; rotate_left; (focus (first | rfl | omega | (simp; done) | (simp; omega)))) | refine Below.drew ?_))
      generalize w5.alloc (.cells #[.int .i64 P0.n.x, .int .i64 P0.n.y, .int .i64 P0.n.z, .int .i64 pb] 32) = w6 at *
      have opc := op.cell
      have opf := op.thaw
      have opz := op.lt
      have oqc := oq.cell
      have oqf := oq.thaw
      have oqz := oq.lt
      have ohc := oh.cell
      have ohf := oh.thaw
      have ohz := oh.lt
      have odc := od.cell
      have odf := od.thaw
      have odz := od.lt
      have ouc := ou.cell
      have ouf := ou.thaw
      have ouz := ou.lt
      replace hz := hw.size
      refine region_late 22 [] (by kernel_rfl) (by kernel_rfl) (by rfl) ?_
      apply Exists.intro
      refine ⟨fun v hv hne => ?_, fun u hu => ?_⟩
      · simp only [List.take_succ_cons, List.take_zero]
        have dop := fun x => (op.later (v := v) (T := []) (by first | (simp; done) | (simp; omega)) x).cell
        have doq := fun x => (oq.later (v := v) (T := []) (by first | (simp; done) | (simp; omega)) x).cell
        have doh := fun x => (oh.later (v := v) (T := []) (by first | (simp; done) | (simp; omega)) x).cell
        have dod := fun x => (od.later (v := v) (T := []) (by first | (simp; done) | (simp; omega)) x).cell
        have dou := fun x => (ou.later (v := v) (T := []) (by first | (simp; done) | (simp; omega)) x).cell
        repeat (go_big_quiet_step ((first | (go_at_call 48; with_reducible exact lateS (law7_side _ _)) | (go_at_call 22; with_reducible exact lateB (callv (law7_vec _ _ _ _) HC.out)))))
        refine wpQuiet_nil ?_
        exact rfl
      · simp only [List.drop_succ_cons, List.drop_zero]
        skip
        refine late_mem (fun K hK => ?_)
        go_simp
        refine hK _ _ ((Keeps.of_below hu).alloc _) (fun ub2 hu2 => ?_)
        clear hK K
        have hk2 : Keeps [] w6 ub2 := ((Keeps.of_below (T := []) hu).alloc _).later hu2
        have oe : Own ub2 u.heap.size #[.int .i64 0, .int .i64 0, .int .i64 0] := Own.below (Own.new rfl) hu2
        have oec := oe.cell
        have oef := oe.thaw
        have oeg : w6.heap.size ≤ u.heap.size := hu.size
        replace hw := Below.hop ((Below.hop hw hu).alloc (by have := hw.size; have := hu.size; omega) _) hu2
        have hwz := hw.size
        have oey : w.heap.size ≤ u.heap.size := by omega
        refine late_mem (fun K hK => ?_)
        go_simp
        refine hK _ _ (((hk2.new (by simp; omega) _).new (by simp; omega) _).new (by simp; omega) _) (fun ub3 hu3 => ?_)
        clear hK K
        have hk3 : Keeps [] w6 ub3 := (((hk2.new (by simp; omega) _).new (by simp; omega) _).new (by simp; omega) _).later hu3
        replace oe : Own ub3 u.heap.size #[.int .i64 C.x, .int .i64 C.y, .int .i64 C.z] := (((oe.set 0 _).set 1 _).set 2 _).below hu3
        replace hw := Below.hop (((hw.setCell (by simp; omega) _).setCell (by simp; omega) _).setCell (by simp; omega) _) hu3
        clear oec oef hk2
        replace op : Own ub3 (opb) #[.int .i64 P0.n.x, .int .i64 P0.n.y, .int .i64 P0.n.z, .int .i64 P0.b] := op.keeps hk3 (by simp)
        replace oq : Own ub3 (oqb) #[.int .i64 Q.n.x, .int .i64 Q.n.y, .int .i64 Q.n.z, .int .i64 Q.b] := oq.keeps hk3 (by simp)
        replace oh : Own ub3 (w2.heap.size) #[.int .i64 h.x, .int .i64 h.y, .int .i64 h.z] := oh.keeps hk3 (by simp)
        replace od : Own ub3 (odb) #[.int .i64 d.x, .int .i64 d.y, .int .i64 d.z] := od.keeps hk3 (by simp)
        replace ou : Own ub3 (w5.heap.size) #[.int .i64 P0.n.x, .int .i64 P0.n.y, .int .i64 P0.n.z, .int .i64 pb] := ou.keeps hk3 (by simp)
        refine late_nil ?_
        (try simp only [Act.put, List.setIfInBounds_toArray, List.set_cons_zero, List.set_cons_succ])
        clear hk3 hu hu2 hu3 hwz
        generalize u.heap.size = oeb at *
        replace hz := hw.size
        clear u
        replace opc := op.cell
        replace opf := op.thaw
        replace opz := op.lt
        replace oqc := oq.cell
        replace oqf := oq.thaw
        replace oqz := oq.lt
        replace ohc := oh.cell
        replace ohf := oh.thaw
        replace ohz := oh.lt
        replace odc := od.cell
        replace odf := od.thaw
        replace odz := od.lt
        replace ouc := ou.cell
        replace ouf := ou.thaw
        replace ouz := ou.lt
        replace oec := oe.cell
        replace oef := oe.thaw
        replace oez := oe.lt
        clear ohc ohf ohz oh
        clear hx1 hx2 hy1 hy2 hz1 hz2
        go_wp2_with fail
        refine Calls.mono (callv (plane_Dot P0.n.x P0.n.y P0.n.z C.x C.y C.z _) HDC.out) ?_
        rintro e w7 ⟨rfl, hbx⟩
        replace op : Own w7 (opb) #[.int .i64 P0.n.x, .int .i64 P0.n.y, .int .i64 P0.n.z, .int .i64 P0.b] := Own.below (by repeat' (first | ((refine Own.new ?_); (focus (first | rfl | omega | (simp; done) | (simp; omega)))) | assumption | refine Own.alloc ?_ _ | refine Own.drew ?_ | (refine Own.far ?_ ?_ _; rotate_left; (focus (first | rfl | omega | (simp; done) | (simp; omega)))))) hbx
        replace opc := op.cell
        replace opf := op.thaw
        replace opz := op.lt
        replace oq : Own w7 (oqb) #[.int .i64 Q.n.x, .int .i64 Q.n.y, .int .i64 Q.n.z, .int .i64 Q.b] := Own.below (by repeat' (first | ((refine Own.new ?_); (focus (first | rfl | omega | (simp; done) | (simp; omega)))) | assumption | refine Own.alloc ?_ _ | refine Own.drew ?_ | (refine Own.far ?_ ?_ _; rotate_left; (focus (first | rfl | omega | (simp; done) | (simp; omega)))))) hbx
        replace oqc := oq.cell
        replace oqf := oq.thaw
        replace oqz := oq.lt
        replace od : Own w7 (odb) #[.int .i64 d.x, .int .i64 d.y, .int .i64 d.z] := Own.below (by repeat' (first | ((refine Own.new ?_); (focus (first | rfl | omega | (simp; done) | (simp; omega)))) | assumption | refine Own.alloc ?_ _ | refine Own.drew ?_ | (refine Own.far ?_ ?_ _; rotate_left; (focus (first | rfl | omega | (simp; done) | (simp; omega)))))) hbx
        replace odc := od.cell
        replace odf := od.thaw
        replace odz := od.lt
        replace ou : Own w7 (w5.heap.size) #[.int .i64 P0.n.x, .int .i64 P0.n.y, .int .i64 P0.n.z, .int .i64 pb] := Own.below (by repeat' (first | ((refine Own.new ?_); (focus (first | rfl | omega | (simp; done) | (simp; omega)))) | assumption | refine Own.alloc ?_ _ | refine Own.drew ?_ | (refine Own.far ?_ ?_ _; rotate_left; (focus (first | rfl | omega | (simp; done) | (simp; omega)))))) hbx
        replace ouc := ou.cell
        replace ouf := ou.thaw
        replace ouz := ou.lt
        replace oe : Own w7 (oeb) #[.int .i64 C.x, .int .i64 C.y, .int .i64 C.z] := Own.below (by repeat' (first | ((refine Own.new ?_); (focus (first | rfl | omega | (simp; done) | (simp; omega)))) | assumption | refine Own.alloc ?_ _ | refine Own.drew ?_ | (refine Own.far ?_ ?_ _; rotate_left; (focus (first | rfl | omega | (simp; done) | (simp; omega)))))) hbx
        replace oec := oe.cell
        replace oef := oe.thaw
        replace oez := oe.lt
        replace hw : Below w.heap.size w w7 := Below.hop (by repeat' (first | exact Below.refl _ _ | assumption | (refine Below.alloc ?_ ?_ _; rotate_left; (focus (first | rfl | omega | (simp; done) | (simp; omega)))) | (refine Below.setCell ?_ ?_ _; rotate_left; (focus (first | rfl | omega | (simp; done) | (simp; omega)))) | refine Below.drew ?_)) hbx
        replace hz := hw.size
        clear hbx
        go_wp2_with fail
        refine Calls.mono (ref7_PointsOwn A _ cap _ 4 (by omega) (by omega) _ (HL.out.below hw)) ?_
        rintro e w8 ⟨g, c, cs, rfl, hbx, hg0, hc4, hcM, og, hq⟩
        replace op : Own w8 (opb) #[.int .i64 P0.n.x, .int .i64 P0.n.y, .int .i64 P0.n.z, .int .i64 P0.b] := Own.below (by repeat' (first | ((refine Own.new ?_); (focus (first | rfl | omega | (simp; done) | (simp; omega)))) | assumption | refine Own.alloc ?_ _ | refine Own.drew ?_ | (refine Own.far ?_ ?_ _; rotate_left; (focus (first | rfl | omega | (simp; done) | (simp; omega)))))) hbx
        replace opc := op.cell
        replace opf := op.thaw
        replace opz := op.lt
        replace oq : Own w8 (oqb) #[.int .i64 Q.n.x, .int .i64 Q.n.y, .int .i64 Q.n.z, .int .i64 Q.b] := Own.below (by repeat' (first | ((refine Own.new ?_); (focus (first | rfl | omega | (simp; done) | (simp; omega)))) | assumption | refine Own.alloc ?_ _ | refine Own.drew ?_ | (refine Own.far ?_ ?_ _; rotate_left; (focus (first | rfl | omega | (simp; done) | (simp; omega)))))) hbx
        replace oqc := oq.cell
        replace oqf := oq.thaw
        replace oqz := oq.lt
        replace od : Own w8 (odb) #[.int .i64 d.x, .int .i64 d.y, .int .i64 d.z] := Own.below (by repeat' (first | ((refine Own.new ?_); (focus (first | rfl | omega | (simp; done) | (simp; omega)))) | assumption | refine Own.alloc ?_ _ | refine Own.drew ?_ | (refine Own.far ?_ ?_ _; rotate_left; (focus (first | rfl | omega | (simp; done) | (simp; omega)))))) hbx
        replace odc := od.cell
        replace odf := od.thaw
        replace odz := od.lt
        replace ou : Own w8 (w5.heap.size) #[.int .i64 P0.n.x, .int .i64 P0.n.y, .int .i64 P0.n.z, .int .i64 pb] := Own.below (by repeat' (first | ((refine Own.new ?_); (focus (first | rfl | omega | (simp; done) | (simp; omega)))) | assumption | refine Own.alloc ?_ _ | refine Own.drew ?_ | (refine Own.far ?_ ?_ _; rotate_left; (focus (first | rfl | omega | (simp; done) | (simp; omega)))))) hbx
        replace ouc := ou.cell
        replace ouf := ou.thaw
        replace ouz := ou.lt
        replace oe : Own w8 (oeb) #[.int .i64 C.x, .int .i64 C.y, .int .i64 C.z] := Own.below (by repeat' (first | ((refine Own.new ?_); (focus (first | rfl | omega | (simp; done) | (simp; omega)))) | assumption | refine Own.alloc ?_ _ | refine Own.drew ?_ | (refine Own.far ?_ ?_ _; rotate_left; (focus (first | rfl | omega | (simp; done) | (simp; omega)))))) hbx
        replace oec := oe.cell
        replace oef := oe.thaw
        replace oez := oe.lt
        replace hw : Below w.heap.size w w8 := Below.hop (by repeat' (first | exact Below.refl _ _ | assumption | (refine Below.alloc ?_ ?_ _; rotate_left; (focus (first | rfl | omega | (simp; done) | (simp; omega)))) | (refine Below.setCell ?_ ?_ _; rotate_left; (focus (first | rfl | omega | (simp; done) | (simp; omega)))) | refine Below.drew ?_)) hbx
        replace hz := hw.size
        clear hbx
        have HQc := Lib.hid (show ∀ k, k < 4 → ∃ X : V3, cs[k * 3]? = some (.int .i64 X.x) ∧ cs[k * 3 + 1]? = some (.int .i64 X.y) ∧ cs[k * 3 + 2]? = some (.int .i64 X.z) ∧ Bd 24 X from fun k hk => by have h := ptCells_at (l.take 16) 4 k hk; have b := ptAt_bd (l.take 16) k; exact ⟨ptAt (l.take 16) k, (hq _ (by omega)).trans h.1, (hq _ (by omega)).trans h.2.1, (hq _ (by omega)).trans h.2.2, ⟨by omega, by omega, by omega, by omega, by omega, by omega⟩⟩)
        clear hq
        have ogc := og.cell
        have ogf := og.thaw
        have ogz := og.lt
        go_wp2
        go_loopw [139] (fun i wr => ∃ k : Nat, k ≤ 4 ∧ i = .int .i64 k ∧ Below w.heap.size w wr ∧ Own wr (opb) #[.int .i64 P0.n.x, .int .i64 P0.n.y, .int .i64 P0.n.z, .int .i64 P0.b] ∧ Own wr (oqb) #[.int .i64 Q.n.x, .int .i64 Q.n.y, .int .i64 Q.n.z, .int .i64 Q.b] ∧ Own wr (odb) #[.int .i64 d.x, .int .i64 d.y, .int .i64 d.z] ∧ Own wr (w5.heap.size) #[.int .i64 P0.n.x, .int .i64 P0.n.y, .int .i64 P0.n.z, .int .i64 pb] ∧ Own wr (oeb) #[.int .i64 C.x, .int .i64 C.y, .int .i64 C.z] ∧ Own wr (g) cs) (fun i _ => 4 - (intOf i).toNat)
        case atStart => exact ⟨0, by omega, rfl, hw, op, oq, od, ou, oe, og⟩
        case round =>
          clear hw hz op opc opf opz oq oqc oqf oqz od odc odf odz ou ouc ouf ouz oe oec oef oez og ogc ogf ogz
          obtain ⟨k, hk, rfl, hw, op, oq, od, ou, oe, og⟩ := hrel
          have hz := hw.size
          have opc := op.cell
          have opf := op.thaw
          have opz := op.lt
          have oqc := oq.cell
          have oqf := oq.thaw
          have oqz := oq.lt
          have odc := od.cell
          have odf := od.thaw
          have odz := od.lt
          have ouc := ou.cell
          have ouf := ou.thaw
          have ouz := ou.lt
          have oec := oe.cell
          have oef := oe.thaw
          have oez := oe.lt
          have ogc := og.cell
          have ogf := og.thaw
          have ogz := og.lt
          by_cases hlt : k < 4
          · have hlt2 : (k : Int) < 4 := by omega
            obtain ⟨X, hX1, hX2, hX3, hXb⟩ := HQc.out k hlt
            have HXb := Lib.hid hXb
            clear hXb
            go_wp2
            have ox : Own (wr.alloc (.cells #[.int .i64 X.x, .int .i64 X.y, .int .i64 X.z] 24)) (wr.heap.size) #[.int .i64 X.x, .int .i64 X.y, .int .i64 X.z] := Own.new rfl
            replace op : Own (wr.alloc (.cells #[.int .i64 X.x, .int .i64 X.y, .int .i64 X.z] 24)) (opb) #[.int .i64 P0.n.x, .int .i64 P0.n.y, .int .i64 P0.n.z, .int .i64 P0.b] := (by repeat' (first | ((refine Own.new ?_); (focus (first | rfl | omega | (simp; done) | (simp; omega)))) | assumption | refine Own.alloc ?_ _ | refine Own.drew ?_ | (refine Own.far ?_ ?_ _; rotate_left; (focus (first | rfl | omega | (simp; done) | (simp; omega))))))
            clear opc opf opz
            replace oq : Own (wr.alloc (.cells #[.int .i64 X.x, .int .i64 X.y, .int .i64 X.z] 24)) (oqb) #[.int .i64 Q.n.x, .int .i64 Q.n.y, .int .i64 Q.n.z, .int .i64 Q.b] := (by repeat' (first | ((refine Own.new ?_); (focus (first | rfl | omega | (simp; done) | (simp; omega)))) | assumption | refine Own.alloc ?_ _ | refine Own.drew ?_ | (refine Own.far ?_ ?_ _; rotate_left; (focus (first | rfl | omega | (simp; done) | (simp; omega))))))
            clear oqc oqf oqz
            replace od : Own (wr.alloc (.cells #[.int .i64 X.x, .int .i64 X.y, .int .i64 X.z] 24)) (odb) #[.int .i64 d.x, .int .i64 d.y, .int .i64 d.z] := (by repeat' (first | ((refine Own.new ?_); (focus (first | rfl | omega | (simp; done) | (simp; omega)))) | assumption | refine Own.alloc ?_ _ | refine Own.drew ?_ | (refine Own.far ?_ ?_ _; rotate_left; (focus (first | rfl | omega | (simp; done) | (simp; omega))))))
            clear odc odf odz
            replace ou : Own (wr.alloc (.cells #[.int .i64 X.x, .int .i64 X.y, .int .i64 X.z] 24)) (w5.heap.size) #[.int .i64 P0.n.x, .int .i64 P0.n.y, .int .i64 P0.n.z, .int .i64 pb] := (by repeat' (first | ((refine Own.new ?_); (focus (first | rfl | omega | (simp; done) | (simp; omega)))) | assumption | refine Own.alloc ?_ _ | refine Own.drew ?_ | (refine Own.far ?_ ?_ _; rotate_left; (focus (first | rfl | omega | (simp; done) | (simp; omega))))))
            clear ouc ouf ouz
            replace oe : Own (wr.alloc (.cells #[.int .i64 X.x, .int .i64 X.y, .int .i64 X.z] 24)) (oeb) #[.int .i64 C.x, .int .i64 C.y, .int .i64 C.z] := (by repeat' (first | ((refine Own.new ?_); (focus (first | rfl | omega | (simp; done) | (simp; omega)))) | assumption | refine Own.alloc ?_ _ | refine Own.drew ?_ | (refine Own.far ?_ ?_ _; rotate_left; (focus (first | rfl | omega | (simp; done) | (simp; omega))))))
            clear oec oef oez
            replace og : Own (wr.alloc (.cells #[.int .i64 X.x, .int .i64 X.y, .int .i64 X.z] 24)) (g) cs := (by repeat' (first | ((refine Own.new ?_); (focus (first | rfl | omega | (simp; done) | (simp; omega)))) | assumption | refine Own.alloc ?_ _ | refine Own.drew ?_ | (refine Own.far ?_ ?_ _; rotate_left; (focus (first | rfl | omega | (simp; done) | (simp; omega))))))
            clear ogc ogf ogz
            replace hw : Below w.heap.size w (wr.alloc (.cells #[.int .i64 X.x, .int .i64 X.y, .int .i64 X.z] 24)) := (by repeat' (first | exact Below.refl _ _ | assumption | (refine Below.alloc ?_ ?_ _; rotate_left; (focus (first | rfl | omega | (simp; done) | (simp; omega)))) | (refine Below.setCell ?_ ?_ _; rotate_left; (focus (first | rfl | omega | (simp; done) | (simp; omega)))) | refine Below.drew ?_))
            generalize wr.alloc (.cells #[.int .i64 X.x, .int .i64 X.y, .int .i64 X.z] 24) = wq at *
            have opc := op.cell
            have opf := op.thaw
            have opz := op.lt
            have oqc := oq.cell
            have oqf := oq.thaw
            have oqz := oq.lt
            have odc := od.cell
            have odf := od.thaw
            have odz := od.lt
            have ouc := ou.cell
            have ouf := ou.thaw
            have ouz := ou.lt
            have oec := oe.cell
            have oef := oe.thaw
            have oez := oe.lt
            have ogc := og.cell
            have ogf := og.thaw
            have ogz := og.lt
            have oxc := ox.cell
            have oxf := ox.thaw
            have oxz := ox.lt
            replace hz := hw.size
            generalize wr.heap.size = oxb at *
            clear hX1 hX2 hX3
            obtain ⟨Y, hY⟩ : ∃ Y, vAdd X d = Y := ⟨_, rfl⟩
            obtain ⟨E, hE⟩ : ∃ Y, vAdd X C = Y := ⟨_, rfl⟩
            have HY := Lib.hid (show (vAdd ⟨X.x, X.y, X.z⟩ ⟨d.x, d.y, d.z⟩).v = Y.v from congrArg V3.v hY)
            have HE := Lib.hid (show (vAdd ⟨X.x, X.y, X.z⟩ ⟨C.x, C.y, C.z⟩).v = E.v from congrArg V3.v hE)
            have lnear := HLaw.out.near X HXb.out
            have ledge := HLaw.out.edge X HXb.out
            rw [hY] at lnear
            rw [HCC.out, hE] at ledge
            rw [HPB.out] at lnear ledge
            have LN := Lib.hid lnear
            have LE := Lib.hid ledge
            clear lnear ledge hY hE
            refine region_mem 6 2 0 [] (by kernel_rfl) (by kernel_rfl) (by rfl) [(.cells #[.int .i64 0, .int .i64 0, .int .i64 0] 24, fun p => .pointer (some ⟨p, 0, none⟩)), (.cells #[.int .i64 0, .int .i64 0, .int .i64 0] 24, fun p => .pointer (some ⟨p, 0, none⟩))] ?_
            apply Exists.intro
            refine ⟨fun v hv hne => ?_, ⟨fun u => by go_simp, fun u => by go_simp, trivial⟩, fun u u1 hu hu1 => ?_⟩
            · simp only [List.take_succ_cons, List.take_zero, List.drop_succ_cons, List.drop_zero, Nat.reduceAdd, List.append_nil]
              have dop := fun x => (op.later (v := v) (T := []) (by first | (simp; done) | (simp; omega)) x).cell
              have doq := fun x => (oq.later (v := v) (T := []) (by first | (simp; done) | (simp; omega)) x).cell
              have dod := fun x => (od.later (v := v) (T := []) (by first | (simp; done) | (simp; omega)) x).cell
              have dou := fun x => (ou.later (v := v) (T := []) (by first | (simp; done) | (simp; omega)) x).cell
              have doe := fun x => (oe.later (v := v) (T := []) (by first | (simp; done) | (simp; omega)) x).cell
              have dog := fun x => (og.later (v := v) (T := []) (by first | (simp; done) | (simp; omega)) x).cell
              have dox := fun x => (ox.later (v := v) (T := []) (by first | (simp; done) | (simp; omega)) x).cell
              repeat (go_big_quiet_step ((first | (go_at_call 27; with_reducible exact lateB (callv (plane_Add X.x X.y X.z d.x d.y d.z _) HY.out)) | (go_at_call 27; with_reducible exact lateB (callv (plane_Add X.x X.y X.z C.x C.y C.z _) HE.out)))))
              refine wpQuiet_nil ?_
              exact rfl
            · simp only [List.take_succ_cons, List.take_zero, List.drop_succ_cons, List.drop_zero, Nat.reduceAdd, memK]
              intro onb on1 on2 on3 omb om1 om2 om3
              have hk : Keeps [] wq u1 := Keeps.of_below (Below.hop hu hu1)
              replace hw := Below.hop (Below.hop hw hu) hu1
              have hwz := hw.size
              have huz := hu.size
              have ony : w.heap.size ≤ onb := by have := w.heap.size; omega
              have ong : wq.heap.size ≤ onb := by omega
              have on : Own u1 onb #[.int .i64 0, .int .i64 0, .int .i64 0] := ⟨_, on3⟩
              have onc := on.cell
              have onf := on.thaw
              have omy : w.heap.size ≤ omb := by have := w.heap.size; omega
              have omg : wq.heap.size ≤ omb := by omega
              have om : Own u1 omb #[.int .i64 0, .int .i64 0, .int .i64 0] := ⟨_, om3⟩
              have omc := om.cell
              have omf := om.thaw
              have nomon : omb ≠ onb := fun e => om2 (by simp [e])
              have nonom : onb ≠ omb := fun e => om2 (by simp [e])
              clear on2 on3 om2 om3
              refine chain_mem (fun K hK => ?_)
              go_simp
              refine hK _ _ (((hk.new (by simp; omega) _).new (by simp; omega) _).new (by simp; omega) _) (fun u2 hun => ?_)
              clear hK K
              replace hk : Keeps [] wq u2 := (((hk.new (by simp; omega) _).new (by simp; omega) _).new (by simp; omega) _).later hun
              replace on : Own u2 onb #[.int .i64 Y.x, .int .i64 Y.y, .int .i64 Y.z] := (((on.set 0 _).set 1 _).set 2 _).below hun
              replace om := (((om.far (by simp; omega) _).far (by simp; omega) _).far (by simp; omega) _).below hun
              replace hw := Below.hop (((hw.setCell (by simp; omega) _).setCell (by simp; omega) _).setCell (by simp; omega) _) hun
              clear hun
              replace onc := on.cell
              replace onf := on.thaw
              replace omc := om.cell
              replace omf := om.thaw
              refine chain_mem (fun K hK => ?_)
              go_simp
              refine hK _ _ (((hk.new (by simp; omega) _).new (by simp; omega) _).new (by simp; omega) _) (fun u3 hun => ?_)
              clear hK K
              replace hk : Keeps [] wq u3 := (((hk.new (by simp; omega) _).new (by simp; omega) _).new (by simp; omega) _).later hun
              replace om : Own u3 omb #[.int .i64 E.x, .int .i64 E.y, .int .i64 E.z] := (((om.set 0 _).set 1 _).set 2 _).below hun
              replace on := (((on.far (by simp; omega) _).far (by simp; omega) _).far (by simp; omega) _).below hun
              replace hw := Below.hop (((hw.setCell (by simp; omega) _).setCell (by simp; omega) _).setCell (by simp; omega) _) hun
              clear hun
              replace onc := on.cell
              replace onf := on.thaw
              replace omc := om.cell
              replace omf := om.thaw
              replace op : Own u3 (opb) #[.int .i64 P0.n.x, .int .i64 P0.n.y, .int .i64 P0.n.z, .int .i64 P0.b] := op.keeps hk (by simp)
              replace oq : Own u3 (oqb) #[.int .i64 Q.n.x, .int .i64 Q.n.y, .int .i64 Q.n.z, .int .i64 Q.b] := oq.keeps hk (by simp)
              replace od : Own u3 (odb) #[.int .i64 d.x, .int .i64 d.y, .int .i64 d.z] := od.keeps hk (by simp)
              replace ou : Own u3 (w5.heap.size) #[.int .i64 P0.n.x, .int .i64 P0.n.y, .int .i64 P0.n.z, .int .i64 pb] := ou.keeps hk (by simp)
              replace oe : Own u3 (oeb) #[.int .i64 C.x, .int .i64 C.y, .int .i64 C.z] := oe.keeps hk (by simp)
              replace og : Own u3 (g) cs := og.keeps hk (by simp)
              replace ox : Own u3 (oxb) #[.int .i64 X.x, .int .i64 X.y, .int .i64 X.z] := ox.keeps hk (by simp)
              refine chain_nil ?_
              (try simp only [Act.put, List.setIfInBounds_toArray, List.set_cons_zero, List.set_cons_succ])
              clear hk hu hu1 hwz huz
              replace hz := hw.size
              replace opc := op.cell
              replace opf := op.thaw
              replace opz := op.lt
              replace oqc := oq.cell
              replace oqf := oq.thaw
              replace oqz := oq.lt
              replace odc := od.cell
              replace odf := od.thaw
              replace odz := od.lt
              replace ouc := ou.cell
              replace ouf := ou.thaw
              replace ouz := ou.lt
              replace oec := oe.cell
              replace oef := oe.thaw
              replace oez := oe.lt
              replace ogc := og.cell
              replace ogf := og.thaw
              replace ogz := og.lt
              replace oxc := ox.cell
              replace oxf := ox.thaw
              replace oxz := ox.lt
              replace onc := on.cell
              replace onf := on.thaw
              replace onz := on.lt
              replace omc := om.cell
              replace omf := om.thaw
              replace omz := om.lt
              go_wp2
              obtain ⟨S1, hS1⟩ : ∃ s, pSide P0 X = s := ⟨_, rfl⟩
              obtain ⟨S2, hS2⟩ : ∃ s, pSide ⟨P0.n, pb⟩ Y = s := ⟨_, rfl⟩
              obtain ⟨S3, hS3⟩ : ∃ s, pSide ⟨P0.n, pb⟩ E = s := ⟨_, rfl⟩
              have ln := LN.out
              have le := LE.out
              rw [hS1, hS2] at ln
              rw [hS1, hS3] at le
              have LN2 := Lib.hid ln
              have LE2 := Lib.hid le
              have H1 := Lib.hid (show Value.int .i64 (pSide ⟨⟨P0.n.x, P0.n.y, P0.n.z⟩, P0.b⟩ ⟨X.x, X.y, X.z⟩) = .int .i64 S1 from congrArg (Value.int .i64) hS1)
              have H2 := Lib.hid (show Value.int .i64 (pSide ⟨⟨P0.n.x, P0.n.y, P0.n.z⟩, pb⟩ ⟨Y.x, Y.y, Y.z⟩) = .int .i64 S2 from congrArg (Value.int .i64) hS2)
              have H3 := Lib.hid (show Value.int .i64 (pSide ⟨⟨P0.n.x, P0.n.y, P0.n.z⟩, pb⟩ ⟨E.x, E.y, E.z⟩) = .int .i64 S3 from congrArg (Value.int .i64) hS3)
              clear ln le hS1 hS2 hS3 LN LE
              cases hi1 : vIn Y <;> cases hi2 : vIn E
              · have HI1 := Lib.hid (show vIn ⟨Y.x, Y.y, Y.z⟩ = false from hi1)
                have HI2 := Lib.hid (show vIn ⟨E.x, E.y, E.z⟩ = false from hi2)
                by_cases hs : S1 ≤ 0
                · skip
                  clear hi1 hi2
                  refine region_late 27 [] (by kernel_rfl) (by kernel_rfl) (by rfl) ?_
                  apply Exists.intro
                  refine ⟨fun v hv hne => ?_, fun ue hu => ?_⟩
                  · simp only [List.take_succ_cons, List.take_zero]
                    have dop := fun x => (op.later (v := v) (T := []) (by first | (simp; done) | (simp; omega)) x).cell
                    have doq := fun x => (oq.later (v := v) (T := []) (by first | (simp; done) | (simp; omega)) x).cell
                    have dod := fun x => (od.later (v := v) (T := []) (by first | (simp; done) | (simp; omega)) x).cell
                    have dou := fun x => (ou.later (v := v) (T := []) (by first | (simp; done) | (simp; omega)) x).cell
                    have doe := fun x => (oe.later (v := v) (T := []) (by first | (simp; done) | (simp; omega)) x).cell
                    have dog := fun x => (og.later (v := v) (T := []) (by first | (simp; done) | (simp; omega)) x).cell
                    have dox := fun x => (ox.later (v := v) (T := []) (by first | (simp; done) | (simp; omega)) x).cell
                    have don := fun x => (on.later (v := v) (T := []) (by first | (simp; done) | (simp; omega)) x).cell
                    have dom := fun x => (om.later (v := v) (T := []) (by first | (simp; done) | (simp; omega)) x).cell
                    repeat (go_big_quiet_step ((first | (go_at_call 42; with_reducible exact lateB (callv (plane_Side P0.n.x P0.n.y P0.n.z P0.b X.x X.y X.z HN.out.1 HN.out.2.1 HN.out.2.2 _) H1.out)) | (go_at_call 42; with_reducible exact lateB (callv (plane_Side P0.n.x P0.n.y P0.n.z pb Y.x Y.y Y.z HN.out.1 HN.out.2.1 HN.out.2.2 _) H2.out)) | (go_at_call 42; with_reducible exact lateB (callv (plane_Side P0.n.x P0.n.y P0.n.z pb E.x E.y E.z HN.out.1 HN.out.2.1 HN.out.2.2 _) H3.out)) | (go_at_call 25; with_reducible exact lateB (callv (plane_In Y.x Y.y Y.z _) (congrArg Value.bool HI1.out))) | (go_at_call 25; with_reducible exact lateB (callv (plane_In E.x E.y E.z _) (congrArg Value.bool HI2.out))))))
                    refine wpQuiet_nil ?_
                    exact rfl
                  · simp only [List.drop_succ_cons, List.drop_zero]
                    replace op := op.below hu
                    replace oq := oq.below hu
                    replace od := od.below hu
                    replace ou := ou.below hu
                    replace oe := oe.below hu
                    replace og := og.below hu
                    replace ox := ox.below hu
                    replace on := on.below hu
                    replace om := om.below hu
                    replace hw := Below.hop hw hu
                    replace hz := hw.size
                    clear hu
                    refine late_nil ?_
                    (try simp only [Act.put, List.setIfInBounds_toArray, List.set_cons_zero, List.set_cons_succ])
                    have opc := op.cell
                    have opf := op.thaw
                    have opz := op.lt
                    have oqc := oq.cell
                    have oqf := oq.thaw
                    have oqz := oq.lt
                    have odc := od.cell
                    have odf := od.thaw
                    have odz := od.lt
                    have ouc := ou.cell
                    have ouf := ou.thaw
                    have ouz := ou.lt
                    have oec := oe.cell
                    have oef := oe.thaw
                    have oez := oe.lt
                    have ogc := og.cell
                    have ogf := og.thaw
                    have ogz := og.lt
                    have oxc := ox.cell
                    have oxf := ox.thaw
                    have oxz := ox.lt
                    have onc := on.cell
                    have onf := on.thaw
                    have onz := on.lt
                    have omc := om.cell
                    have omf := om.thaw
                    have omz := om.lt
                    go_wp2
                    go_roundw
                    case rel => exact ⟨k + 1, by omega, by go_num, hw, op, oq, od, ou, oe, og⟩
                    case measure => simp [intOf]; omega
                · skip
                  clear hi1 hi2
                  refine region_late 27 [] (by kernel_rfl) (by kernel_rfl) (by rfl) ?_
                  apply Exists.intro
                  refine ⟨fun v hv hne => ?_, fun ue hu => ?_⟩
                  · simp only [List.take_succ_cons, List.take_zero]
                    have dop := fun x => (op.later (v := v) (T := []) (by first | (simp; done) | (simp; omega)) x).cell
                    have doq := fun x => (oq.later (v := v) (T := []) (by first | (simp; done) | (simp; omega)) x).cell
                    have dod := fun x => (od.later (v := v) (T := []) (by first | (simp; done) | (simp; omega)) x).cell
                    have dou := fun x => (ou.later (v := v) (T := []) (by first | (simp; done) | (simp; omega)) x).cell
                    have doe := fun x => (oe.later (v := v) (T := []) (by first | (simp; done) | (simp; omega)) x).cell
                    have dog := fun x => (og.later (v := v) (T := []) (by first | (simp; done) | (simp; omega)) x).cell
                    have dox := fun x => (ox.later (v := v) (T := []) (by first | (simp; done) | (simp; omega)) x).cell
                    have don := fun x => (on.later (v := v) (T := []) (by first | (simp; done) | (simp; omega)) x).cell
                    have dom := fun x => (om.later (v := v) (T := []) (by first | (simp; done) | (simp; omega)) x).cell
                    repeat (go_big_quiet_step ((first | (go_at_call 42; with_reducible exact lateB (callv (plane_Side P0.n.x P0.n.y P0.n.z P0.b X.x X.y X.z HN.out.1 HN.out.2.1 HN.out.2.2 _) H1.out)) | (go_at_call 42; with_reducible exact lateB (callv (plane_Side P0.n.x P0.n.y P0.n.z pb Y.x Y.y Y.z HN.out.1 HN.out.2.1 HN.out.2.2 _) H2.out)) | (go_at_call 42; with_reducible exact lateB (callv (plane_Side P0.n.x P0.n.y P0.n.z pb E.x E.y E.z HN.out.1 HN.out.2.1 HN.out.2.2 _) H3.out)) | (go_at_call 25; with_reducible exact lateB (callv (plane_In Y.x Y.y Y.z _) (congrArg Value.bool HI1.out))) | (go_at_call 25; with_reducible exact lateB (callv (plane_In E.x E.y E.z _) (congrArg Value.bool HI2.out))))))
                    refine wpQuiet_nil ?_
                    exact rfl
                  · simp only [List.drop_succ_cons, List.drop_zero]
                    replace op := op.below hu
                    replace oq := oq.below hu
                    replace od := od.below hu
                    replace ou := ou.below hu
                    replace oe := oe.below hu
                    replace og := og.below hu
                    replace ox := ox.below hu
                    replace on := on.below hu
                    replace om := om.below hu
                    replace hw := Below.hop hw hu
                    replace hz := hw.size
                    clear hu
                    refine late_nil ?_
                    (try simp only [Act.put, List.setIfInBounds_toArray, List.set_cons_zero, List.set_cons_succ])
                    have opc := op.cell
                    have opf := op.thaw
                    have opz := op.lt
                    have oqc := oq.cell
                    have oqf := oq.thaw
                    have oqz := oq.lt
                    have odc := od.cell
                    have odf := od.thaw
                    have odz := od.lt
                    have ouc := ou.cell
                    have ouf := ou.thaw
                    have ouz := ou.lt
                    have oec := oe.cell
                    have oef := oe.thaw
                    have oez := oe.lt
                    have ogc := og.cell
                    have ogf := og.thaw
                    have ogz := og.lt
                    have oxc := ox.cell
                    have oxf := ox.thaw
                    have oxz := ox.lt
                    have onc := on.cell
                    have onf := on.thaw
                    have onz := on.lt
                    have omc := om.cell
                    have omf := om.thaw
                    have omz := om.lt
                    go_wp2
                    go_roundw
                    case rel => exact ⟨k + 1, by omega, by go_num, hw, op, oq, od, ou, oe, og⟩
                    case measure => simp [intOf]; omega
              · have HI1 := Lib.hid (show vIn ⟨Y.x, Y.y, Y.z⟩ = false from hi1)
                have HI2 := Lib.hid (show vIn ⟨E.x, E.y, E.z⟩ = true from hi2)
                have he := LE2.out hi2
                subst he
                by_cases hs : S1 ≤ 0
                · skip
                  clear hi1 hi2
                  refine region_late 27 [] (by kernel_rfl) (by kernel_rfl) (by rfl) ?_
                  apply Exists.intro
                  refine ⟨fun v hv hne => ?_, fun ue hu => ?_⟩
                  · simp only [List.take_succ_cons, List.take_zero]
                    have dop := fun x => (op.later (v := v) (T := []) (by first | (simp; done) | (simp; omega)) x).cell
                    have doq := fun x => (oq.later (v := v) (T := []) (by first | (simp; done) | (simp; omega)) x).cell
                    have dod := fun x => (od.later (v := v) (T := []) (by first | (simp; done) | (simp; omega)) x).cell
                    have dou := fun x => (ou.later (v := v) (T := []) (by first | (simp; done) | (simp; omega)) x).cell
                    have doe := fun x => (oe.later (v := v) (T := []) (by first | (simp; done) | (simp; omega)) x).cell
                    have dog := fun x => (og.later (v := v) (T := []) (by first | (simp; done) | (simp; omega)) x).cell
                    have dox := fun x => (ox.later (v := v) (T := []) (by first | (simp; done) | (simp; omega)) x).cell
                    have don := fun x => (on.later (v := v) (T := []) (by first | (simp; done) | (simp; omega)) x).cell
                    have dom := fun x => (om.later (v := v) (T := []) (by first | (simp; done) | (simp; omega)) x).cell
                    repeat (go_big_quiet_step ((first | (go_at_call 42; with_reducible exact lateB (callv (plane_Side P0.n.x P0.n.y P0.n.z P0.b X.x X.y X.z HN.out.1 HN.out.2.1 HN.out.2.2 _) H1.out)) | (go_at_call 42; with_reducible exact lateB (callv (plane_Side P0.n.x P0.n.y P0.n.z pb Y.x Y.y Y.z HN.out.1 HN.out.2.1 HN.out.2.2 _) H2.out)) | (go_at_call 42; with_reducible exact lateB (callv (plane_Side P0.n.x P0.n.y P0.n.z pb E.x E.y E.z HN.out.1 HN.out.2.1 HN.out.2.2 _) H3.out)) | (go_at_call 25; with_reducible exact lateB (callv (plane_In Y.x Y.y Y.z _) (congrArg Value.bool HI1.out))) | (go_at_call 25; with_reducible exact lateB (callv (plane_In E.x E.y E.z _) (congrArg Value.bool HI2.out))))))
                    refine wpQuiet_nil ?_
                    exact rfl
                  · simp only [List.drop_succ_cons, List.drop_zero]
                    replace op := op.below hu
                    replace oq := oq.below hu
                    replace od := od.below hu
                    replace ou := ou.below hu
                    replace oe := oe.below hu
                    replace og := og.below hu
                    replace ox := ox.below hu
                    replace on := on.below hu
                    replace om := om.below hu
                    replace hw := Below.hop hw hu
                    replace hz := hw.size
                    clear hu
                    refine late_nil ?_
                    (try simp only [Act.put, List.setIfInBounds_toArray, List.set_cons_zero, List.set_cons_succ])
                    have opc := op.cell
                    have opf := op.thaw
                    have opz := op.lt
                    have oqc := oq.cell
                    have oqf := oq.thaw
                    have oqz := oq.lt
                    have odc := od.cell
                    have odf := od.thaw
                    have odz := od.lt
                    have ouc := ou.cell
                    have ouf := ou.thaw
                    have ouz := ou.lt
                    have oec := oe.cell
                    have oef := oe.thaw
                    have oez := oe.lt
                    have ogc := og.cell
                    have ogf := og.thaw
                    have ogz := og.lt
                    have oxc := ox.cell
                    have oxf := ox.thaw
                    have oxz := ox.lt
                    have onc := on.cell
                    have onf := on.thaw
                    have onz := on.lt
                    have omc := om.cell
                    have omf := om.thaw
                    have omz := om.lt
                    go_wp2
                    go_roundw
                    case rel => exact ⟨k + 1, by omega, by go_num, hw, op, oq, od, ou, oe, og⟩
                    case measure => simp [intOf]; omega
                · skip
                  clear hi1 hi2
                  refine region_late 27 [] (by kernel_rfl) (by kernel_rfl) (by rfl) ?_
                  apply Exists.intro
                  refine ⟨fun v hv hne => ?_, fun ue hu => ?_⟩
                  · simp only [List.take_succ_cons, List.take_zero]
                    have dop := fun x => (op.later (v := v) (T := []) (by first | (simp; done) | (simp; omega)) x).cell
                    have doq := fun x => (oq.later (v := v) (T := []) (by first | (simp; done) | (simp; omega)) x).cell
                    have dod := fun x => (od.later (v := v) (T := []) (by first | (simp; done) | (simp; omega)) x).cell
                    have dou := fun x => (ou.later (v := v) (T := []) (by first | (simp; done) | (simp; omega)) x).cell
                    have doe := fun x => (oe.later (v := v) (T := []) (by first | (simp; done) | (simp; omega)) x).cell
                    have dog := fun x => (og.later (v := v) (T := []) (by first | (simp; done) | (simp; omega)) x).cell
                    have dox := fun x => (ox.later (v := v) (T := []) (by first | (simp; done) | (simp; omega)) x).cell
                    have don := fun x => (on.later (v := v) (T := []) (by first | (simp; done) | (simp; omega)) x).cell
                    have dom := fun x => (om.later (v := v) (T := []) (by first | (simp; done) | (simp; omega)) x).cell
                    repeat (go_big_quiet_step ((first | (go_at_call 42; with_reducible exact lateB (callv (plane_Side P0.n.x P0.n.y P0.n.z P0.b X.x X.y X.z HN.out.1 HN.out.2.1 HN.out.2.2 _) H1.out)) | (go_at_call 42; with_reducible exact lateB (callv (plane_Side P0.n.x P0.n.y P0.n.z pb Y.x Y.y Y.z HN.out.1 HN.out.2.1 HN.out.2.2 _) H2.out)) | (go_at_call 42; with_reducible exact lateB (callv (plane_Side P0.n.x P0.n.y P0.n.z pb E.x E.y E.z HN.out.1 HN.out.2.1 HN.out.2.2 _) H3.out)) | (go_at_call 25; with_reducible exact lateB (callv (plane_In Y.x Y.y Y.z _) (congrArg Value.bool HI1.out))) | (go_at_call 25; with_reducible exact lateB (callv (plane_In E.x E.y E.z _) (congrArg Value.bool HI2.out))))))
                    refine wpQuiet_nil ?_
                    exact rfl
                  · simp only [List.drop_succ_cons, List.drop_zero]
                    replace op := op.below hu
                    replace oq := oq.below hu
                    replace od := od.below hu
                    replace ou := ou.below hu
                    replace oe := oe.below hu
                    replace og := og.below hu
                    replace ox := ox.below hu
                    replace on := on.below hu
                    replace om := om.below hu
                    replace hw := Below.hop hw hu
                    replace hz := hw.size
                    clear hu
                    refine late_nil ?_
                    (try simp only [Act.put, List.setIfInBounds_toArray, List.set_cons_zero, List.set_cons_succ])
                    have opc := op.cell
                    have opf := op.thaw
                    have opz := op.lt
                    have oqc := oq.cell
                    have oqf := oq.thaw
                    have oqz := oq.lt
                    have odc := od.cell
                    have odf := od.thaw
                    have odz := od.lt
                    have ouc := ou.cell
                    have ouf := ou.thaw
                    have ouz := ou.lt
                    have oec := oe.cell
                    have oef := oe.thaw
                    have oez := oe.lt
                    have ogc := og.cell
                    have ogf := og.thaw
                    have ogz := og.lt
                    have oxc := ox.cell
                    have oxf := ox.thaw
                    have oxz := ox.lt
                    have onc := on.cell
                    have onf := on.thaw
                    have onz := on.lt
                    have omc := om.cell
                    have omf := om.thaw
                    have omz := om.lt
                    go_wp2
                    go_roundw
                    case rel => exact ⟨k + 1, by omega, by go_num, hw, op, oq, od, ou, oe, og⟩
                    case measure => simp [intOf]; omega
              · have HI1 := Lib.hid (show vIn ⟨Y.x, Y.y, Y.z⟩ = true from hi1)
                have HI2 := Lib.hid (show vIn ⟨E.x, E.y, E.z⟩ = false from hi2)
                by_cases hs : S1 ≤ 0
                · have hs2 := LN2.out hs hi1
                  have hs3 : ¬ 0 < S2 := by omega
                  clear hs2
                  clear hi1 hi2
                  refine region_late 27 [] (by kernel_rfl) (by kernel_rfl) (by rfl) ?_
                  apply Exists.intro
                  refine ⟨fun v hv hne => ?_, fun ue hu => ?_⟩
                  · simp only [List.take_succ_cons, List.take_zero]
                    have dop := fun x => (op.later (v := v) (T := []) (by first | (simp; done) | (simp; omega)) x).cell
                    have doq := fun x => (oq.later (v := v) (T := []) (by first | (simp; done) | (simp; omega)) x).cell
                    have dod := fun x => (od.later (v := v) (T := []) (by first | (simp; done) | (simp; omega)) x).cell
                    have dou := fun x => (ou.later (v := v) (T := []) (by first | (simp; done) | (simp; omega)) x).cell
                    have doe := fun x => (oe.later (v := v) (T := []) (by first | (simp; done) | (simp; omega)) x).cell
                    have dog := fun x => (og.later (v := v) (T := []) (by first | (simp; done) | (simp; omega)) x).cell
                    have dox := fun x => (ox.later (v := v) (T := []) (by first | (simp; done) | (simp; omega)) x).cell
                    have don := fun x => (on.later (v := v) (T := []) (by first | (simp; done) | (simp; omega)) x).cell
                    have dom := fun x => (om.later (v := v) (T := []) (by first | (simp; done) | (simp; omega)) x).cell
                    repeat (go_big_quiet_step ((first | (go_at_call 42; with_reducible exact lateB (callv (plane_Side P0.n.x P0.n.y P0.n.z P0.b X.x X.y X.z HN.out.1 HN.out.2.1 HN.out.2.2 _) H1.out)) | (go_at_call 42; with_reducible exact lateB (callv (plane_Side P0.n.x P0.n.y P0.n.z pb Y.x Y.y Y.z HN.out.1 HN.out.2.1 HN.out.2.2 _) H2.out)) | (go_at_call 42; with_reducible exact lateB (callv (plane_Side P0.n.x P0.n.y P0.n.z pb E.x E.y E.z HN.out.1 HN.out.2.1 HN.out.2.2 _) H3.out)) | (go_at_call 25; with_reducible exact lateB (callv (plane_In Y.x Y.y Y.z _) (congrArg Value.bool HI1.out))) | (go_at_call 25; with_reducible exact lateB (callv (plane_In E.x E.y E.z _) (congrArg Value.bool HI2.out))))))
                    refine wpQuiet_nil ?_
                    exact rfl
                  · simp only [List.drop_succ_cons, List.drop_zero]
                    replace op := op.below hu
                    replace oq := oq.below hu
                    replace od := od.below hu
                    replace ou := ou.below hu
                    replace oe := oe.below hu
                    replace og := og.below hu
                    replace ox := ox.below hu
                    replace on := on.below hu
                    replace om := om.below hu
                    replace hw := Below.hop hw hu
                    replace hz := hw.size
                    clear hu
                    refine late_nil ?_
                    (try simp only [Act.put, List.setIfInBounds_toArray, List.set_cons_zero, List.set_cons_succ])
                    have opc := op.cell
                    have opf := op.thaw
                    have opz := op.lt
                    have oqc := oq.cell
                    have oqf := oq.thaw
                    have oqz := oq.lt
                    have odc := od.cell
                    have odf := od.thaw
                    have odz := od.lt
                    have ouc := ou.cell
                    have ouf := ou.thaw
                    have ouz := ou.lt
                    have oec := oe.cell
                    have oef := oe.thaw
                    have oez := oe.lt
                    have ogc := og.cell
                    have ogf := og.thaw
                    have ogz := og.lt
                    have oxc := ox.cell
                    have oxf := ox.thaw
                    have oxz := ox.lt
                    have onc := on.cell
                    have onf := on.thaw
                    have onz := on.lt
                    have omc := om.cell
                    have omf := om.thaw
                    have omz := om.lt
                    go_wp2
                    go_roundw
                    case rel => exact ⟨k + 1, by omega, by go_num, hw, op, oq, od, ou, oe, og⟩
                    case measure => simp [intOf]; omega
                · skip
                  clear hi1 hi2
                  refine region_late 27 [] (by kernel_rfl) (by kernel_rfl) (by rfl) ?_
                  apply Exists.intro
                  refine ⟨fun v hv hne => ?_, fun ue hu => ?_⟩
                  · simp only [List.take_succ_cons, List.take_zero]
                    have dop := fun x => (op.later (v := v) (T := []) (by first | (simp; done) | (simp; omega)) x).cell
                    have doq := fun x => (oq.later (v := v) (T := []) (by first | (simp; done) | (simp; omega)) x).cell
                    have dod := fun x => (od.later (v := v) (T := []) (by first | (simp; done) | (simp; omega)) x).cell
                    have dou := fun x => (ou.later (v := v) (T := []) (by first | (simp; done) | (simp; omega)) x).cell
                    have doe := fun x => (oe.later (v := v) (T := []) (by first | (simp; done) | (simp; omega)) x).cell
                    have dog := fun x => (og.later (v := v) (T := []) (by first | (simp; done) | (simp; omega)) x).cell
                    have dox := fun x => (ox.later (v := v) (T := []) (by first | (simp; done) | (simp; omega)) x).cell
                    have don := fun x => (on.later (v := v) (T := []) (by first | (simp; done) | (simp; omega)) x).cell
                    have dom := fun x => (om.later (v := v) (T := []) (by first | (simp; done) | (simp; omega)) x).cell
                    repeat (go_big_quiet_step ((first | (go_at_call 42; with_reducible exact lateB (callv (plane_Side P0.n.x P0.n.y P0.n.z P0.b X.x X.y X.z HN.out.1 HN.out.2.1 HN.out.2.2 _) H1.out)) | (go_at_call 42; with_reducible exact lateB (callv (plane_Side P0.n.x P0.n.y P0.n.z pb Y.x Y.y Y.z HN.out.1 HN.out.2.1 HN.out.2.2 _) H2.out)) | (go_at_call 42; with_reducible exact lateB (callv (plane_Side P0.n.x P0.n.y P0.n.z pb E.x E.y E.z HN.out.1 HN.out.2.1 HN.out.2.2 _) H3.out)) | (go_at_call 25; with_reducible exact lateB (callv (plane_In Y.x Y.y Y.z _) (congrArg Value.bool HI1.out))) | (go_at_call 25; with_reducible exact lateB (callv (plane_In E.x E.y E.z _) (congrArg Value.bool HI2.out))))))
                    refine wpQuiet_nil ?_
                    exact rfl
                  · simp only [List.drop_succ_cons, List.drop_zero]
                    replace op := op.below hu
                    replace oq := oq.below hu
                    replace od := od.below hu
                    replace ou := ou.below hu
                    replace oe := oe.below hu
                    replace og := og.below hu
                    replace ox := ox.below hu
                    replace on := on.below hu
                    replace om := om.below hu
                    replace hw := Below.hop hw hu
                    replace hz := hw.size
                    clear hu
                    refine late_nil ?_
                    (try simp only [Act.put, List.setIfInBounds_toArray, List.set_cons_zero, List.set_cons_succ])
                    have opc := op.cell
                    have opf := op.thaw
                    have opz := op.lt
                    have oqc := oq.cell
                    have oqf := oq.thaw
                    have oqz := oq.lt
                    have odc := od.cell
                    have odf := od.thaw
                    have odz := od.lt
                    have ouc := ou.cell
                    have ouf := ou.thaw
                    have ouz := ou.lt
                    have oec := oe.cell
                    have oef := oe.thaw
                    have oez := oe.lt
                    have ogc := og.cell
                    have ogf := og.thaw
                    have ogz := og.lt
                    have oxc := ox.cell
                    have oxf := ox.thaw
                    have oxz := ox.lt
                    have onc := on.cell
                    have onf := on.thaw
                    have onz := on.lt
                    have omc := om.cell
                    have omf := om.thaw
                    have omz := om.lt
                    go_wp2
                    go_roundw
                    case rel => exact ⟨k + 1, by omega, by go_num, hw, op, oq, od, ou, oe, og⟩
                    case measure => simp [intOf]; omega
              · have HI1 := Lib.hid (show vIn ⟨Y.x, Y.y, Y.z⟩ = true from hi1)
                have HI2 := Lib.hid (show vIn ⟨E.x, E.y, E.z⟩ = true from hi2)
                have he := LE2.out hi2
                subst he
                by_cases hs : S1 ≤ 0
                · have hs2 := LN2.out hs hi1
                  have hs3 : ¬ 0 < S2 := by omega
                  clear hs2
                  clear hi1 hi2
                  refine region_late 27 [] (by kernel_rfl) (by kernel_rfl) (by rfl) ?_
                  apply Exists.intro
                  refine ⟨fun v hv hne => ?_, fun ue hu => ?_⟩
                  · simp only [List.take_succ_cons, List.take_zero]
                    have dop := fun x => (op.later (v := v) (T := []) (by first | (simp; done) | (simp; omega)) x).cell
                    have doq := fun x => (oq.later (v := v) (T := []) (by first | (simp; done) | (simp; omega)) x).cell
                    have dod := fun x => (od.later (v := v) (T := []) (by first | (simp; done) | (simp; omega)) x).cell
                    have dou := fun x => (ou.later (v := v) (T := []) (by first | (simp; done) | (simp; omega)) x).cell
                    have doe := fun x => (oe.later (v := v) (T := []) (by first | (simp; done) | (simp; omega)) x).cell
                    have dog := fun x => (og.later (v := v) (T := []) (by first | (simp; done) | (simp; omega)) x).cell
                    have dox := fun x => (ox.later (v := v) (T := []) (by first | (simp; done) | (simp; omega)) x).cell
                    have don := fun x => (on.later (v := v) (T := []) (by first | (simp; done) | (simp; omega)) x).cell
                    have dom := fun x => (om.later (v := v) (T := []) (by first | (simp; done) | (simp; omega)) x).cell
                    repeat (go_big_quiet_step ((first | (go_at_call 42; with_reducible exact lateB (callv (plane_Side P0.n.x P0.n.y P0.n.z P0.b X.x X.y X.z HN.out.1 HN.out.2.1 HN.out.2.2 _) H1.out)) | (go_at_call 42; with_reducible exact lateB (callv (plane_Side P0.n.x P0.n.y P0.n.z pb Y.x Y.y Y.z HN.out.1 HN.out.2.1 HN.out.2.2 _) H2.out)) | (go_at_call 42; with_reducible exact lateB (callv (plane_Side P0.n.x P0.n.y P0.n.z pb E.x E.y E.z HN.out.1 HN.out.2.1 HN.out.2.2 _) H3.out)) | (go_at_call 25; with_reducible exact lateB (callv (plane_In Y.x Y.y Y.z _) (congrArg Value.bool HI1.out))) | (go_at_call 25; with_reducible exact lateB (callv (plane_In E.x E.y E.z _) (congrArg Value.bool HI2.out))))))
                    refine wpQuiet_nil ?_
                    exact rfl
                  · simp only [List.drop_succ_cons, List.drop_zero]
                    replace op := op.below hu
                    replace oq := oq.below hu
                    replace od := od.below hu
                    replace ou := ou.below hu
                    replace oe := oe.below hu
                    replace og := og.below hu
                    replace ox := ox.below hu
                    replace on := on.below hu
                    replace om := om.below hu
                    replace hw := Below.hop hw hu
                    replace hz := hw.size
                    clear hu
                    refine late_nil ?_
                    (try simp only [Act.put, List.setIfInBounds_toArray, List.set_cons_zero, List.set_cons_succ])
                    have opc := op.cell
                    have opf := op.thaw
                    have opz := op.lt
                    have oqc := oq.cell
                    have oqf := oq.thaw
                    have oqz := oq.lt
                    have odc := od.cell
                    have odf := od.thaw
                    have odz := od.lt
                    have ouc := ou.cell
                    have ouf := ou.thaw
                    have ouz := ou.lt
                    have oec := oe.cell
                    have oef := oe.thaw
                    have oez := oe.lt
                    have ogc := og.cell
                    have ogf := og.thaw
                    have ogz := og.lt
                    have oxc := ox.cell
                    have oxf := ox.thaw
                    have oxz := ox.lt
                    have onc := on.cell
                    have onf := on.thaw
                    have onz := on.lt
                    have omc := om.cell
                    have omf := om.thaw
                    have omz := om.lt
                    go_wp2
                    go_roundw
                    case rel => exact ⟨k + 1, by omega, by go_num, hw, op, oq, od, ou, oe, og⟩
                    case measure => simp [intOf]; omega
                · skip
                  clear hi1 hi2
                  refine region_late 27 [] (by kernel_rfl) (by kernel_rfl) (by rfl) ?_
                  apply Exists.intro
                  refine ⟨fun v hv hne => ?_, fun ue hu => ?_⟩
                  · simp only [List.take_succ_cons, List.take_zero]
                    have dop := fun x => (op.later (v := v) (T := []) (by first | (simp; done) | (simp; omega)) x).cell
                    have doq := fun x => (oq.later (v := v) (T := []) (by first | (simp; done) | (simp; omega)) x).cell
                    have dod := fun x => (od.later (v := v) (T := []) (by first | (simp; done) | (simp; omega)) x).cell
                    have dou := fun x => (ou.later (v := v) (T := []) (by first | (simp; done) | (simp; omega)) x).cell
                    have doe := fun x => (oe.later (v := v) (T := []) (by first | (simp; done) | (simp; omega)) x).cell
                    have dog := fun x => (og.later (v := v) (T := []) (by first | (simp; done) | (simp; omega)) x).cell
                    have dox := fun x => (ox.later (v := v) (T := []) (by first | (simp; done) | (simp; omega)) x).cell
                    have don := fun x => (on.later (v := v) (T := []) (by first | (simp; done) | (simp; omega)) x).cell
                    have dom := fun x => (om.later (v := v) (T := []) (by first | (simp; done) | (simp; omega)) x).cell
                    repeat (go_big_quiet_step ((first | (go_at_call 42; with_reducible exact lateB (callv (plane_Side P0.n.x P0.n.y P0.n.z P0.b X.x X.y X.z HN.out.1 HN.out.2.1 HN.out.2.2 _) H1.out)) | (go_at_call 42; with_reducible exact lateB (callv (plane_Side P0.n.x P0.n.y P0.n.z pb Y.x Y.y Y.z HN.out.1 HN.out.2.1 HN.out.2.2 _) H2.out)) | (go_at_call 42; with_reducible exact lateB (callv (plane_Side P0.n.x P0.n.y P0.n.z pb E.x E.y E.z HN.out.1 HN.out.2.1 HN.out.2.2 _) H3.out)) | (go_at_call 25; with_reducible exact lateB (callv (plane_In Y.x Y.y Y.z _) (congrArg Value.bool HI1.out))) | (go_at_call 25; with_reducible exact lateB (callv (plane_In E.x E.y E.z _) (congrArg Value.bool HI2.out))))))
                    refine wpQuiet_nil ?_
                    exact rfl
                  · simp only [List.drop_succ_cons, List.drop_zero]
                    replace op := op.below hu
                    replace oq := oq.below hu
                    replace od := od.below hu
                    replace ou := ou.below hu
                    replace oe := oe.below hu
                    replace og := og.below hu
                    replace ox := ox.below hu
                    replace on := on.below hu
                    replace om := om.below hu
                    replace hw := Below.hop hw hu
                    replace hz := hw.size
                    clear hu
                    refine late_nil ?_
                    (try simp only [Act.put, List.setIfInBounds_toArray, List.set_cons_zero, List.set_cons_succ])
                    have opc := op.cell
                    have opf := op.thaw
                    have opz := op.lt
                    have oqc := oq.cell
                    have oqf := oq.thaw
                    have oqz := oq.lt
                    have odc := od.cell
                    have odf := od.thaw
                    have odz := od.lt
                    have ouc := ou.cell
                    have ouf := ou.thaw
                    have ouz := ou.lt
                    have oec := oe.cell
                    have oef := oe.thaw
                    have oez := oe.lt
                    have ogc := og.cell
                    have ogf := og.thaw
                    have ogz := og.lt
                    have oxc := ox.cell
                    have oxf := ox.thaw
                    have oxz := ox.lt
                    have onc := on.cell
                    have onf := on.thaw
                    have onz := on.lt
                    have omc := om.cell
                    have omf := om.thaw
                    have omz := om.lt
                    go_wp2
                    go_roundw
                    case rel => exact ⟨k + 1, by omega, by go_num, hw, op, oq, od, ou, oe, og⟩
                    case measure => simp [intOf]; omega
          · obtain rfl : k = 4 := by omega
            go_wp2_with fail
            refine Calls.mono (callv (plane_Push P0.n.x P0.n.y P0.n.z pb (wrap64 (-r)) HN.out.1 HN.out.2.1 HN.out.2.2 _) HPB2.out) ?_
            rintro e w9 ⟨rfl, hbx⟩
            replace op : Own w9 (opb) #[.int .i64 P0.n.x, .int .i64 P0.n.y, .int .i64 P0.n.z, .int .i64 P0.b] := Own.below (by repeat' (first | ((refine Own.new ?_); (focus (first | rfl | omega | (simp; done) | (simp; omega)))) | assumption | refine Own.alloc ?_ _ | refine Own.drew ?_ | (refine Own.far ?_ ?_ _; rotate_left; (focus (first | rfl | omega | (simp; done) | (simp; omega)))))) hbx
            replace opc := op.cell
            replace opf := op.thaw
            replace opz := op.lt
            replace oq : Own w9 (oqb) #[.int .i64 Q.n.x, .int .i64 Q.n.y, .int .i64 Q.n.z, .int .i64 Q.b] := Own.below (by repeat' (first | ((refine Own.new ?_); (focus (first | rfl | omega | (simp; done) | (simp; omega)))) | assumption | refine Own.alloc ?_ _ | refine Own.drew ?_ | (refine Own.far ?_ ?_ _; rotate_left; (focus (first | rfl | omega | (simp; done) | (simp; omega)))))) hbx
            replace oqc := oq.cell
            replace oqf := oq.thaw
            replace oqz := oq.lt
            replace od : Own w9 (odb) #[.int .i64 d.x, .int .i64 d.y, .int .i64 d.z] := Own.below (by repeat' (first | ((refine Own.new ?_); (focus (first | rfl | omega | (simp; done) | (simp; omega)))) | assumption | refine Own.alloc ?_ _ | refine Own.drew ?_ | (refine Own.far ?_ ?_ _; rotate_left; (focus (first | rfl | omega | (simp; done) | (simp; omega)))))) hbx
            replace odc := od.cell
            replace odf := od.thaw
            replace odz := od.lt
            replace ou : Own w9 (w5.heap.size) #[.int .i64 P0.n.x, .int .i64 P0.n.y, .int .i64 P0.n.z, .int .i64 pb] := Own.below (by repeat' (first | ((refine Own.new ?_); (focus (first | rfl | omega | (simp; done) | (simp; omega)))) | assumption | refine Own.alloc ?_ _ | refine Own.drew ?_ | (refine Own.far ?_ ?_ _; rotate_left; (focus (first | rfl | omega | (simp; done) | (simp; omega)))))) hbx
            replace ouc := ou.cell
            replace ouf := ou.thaw
            replace ouz := ou.lt
            replace oe : Own w9 (oeb) #[.int .i64 C.x, .int .i64 C.y, .int .i64 C.z] := Own.below (by repeat' (first | ((refine Own.new ?_); (focus (first | rfl | omega | (simp; done) | (simp; omega)))) | assumption | refine Own.alloc ?_ _ | refine Own.drew ?_ | (refine Own.far ?_ ?_ _; rotate_left; (focus (first | rfl | omega | (simp; done) | (simp; omega)))))) hbx
            replace oec := oe.cell
            replace oef := oe.thaw
            replace oez := oe.lt
            replace og : Own w9 (g) cs := Own.below (by repeat' (first | ((refine Own.new ?_); (focus (first | rfl | omega | (simp; done) | (simp; omega)))) | assumption | refine Own.alloc ?_ _ | refine Own.drew ?_ | (refine Own.far ?_ ?_ _; rotate_left; (focus (first | rfl | omega | (simp; done) | (simp; omega)))))) hbx
            replace ogc := og.cell
            replace ogf := og.thaw
            replace ogz := og.lt
            replace hw : Below w.heap.size w w9 := Below.hop (by repeat' (first | exact Below.refl _ _ | assumption | (refine Below.alloc ?_ ?_ _; rotate_left; (focus (first | rfl | omega | (simp; done) | (simp; omega)))) | (refine Below.setCell ?_ ?_ _; rotate_left; (focus (first | rfl | omega | (simp; done) | (simp; omega)))) | refine Below.drew ?_)) hbx
            replace hz := hw.size
            clear hbx
            clear odc odf odz od oec oef oez oe ogc ogf ogz og
            go_wp2
            have ob : Own (w9.alloc (.cells #[.int .i64 P0.n.x, .int .i64 P0.n.y, .int .i64 P0.n.z, .int .i64 P0.b] 32)) (w9.heap.size) #[.int .i64 P0.n.x, .int .i64 P0.n.y, .int .i64 P0.n.z, .int .i64 P0.b] := Own.new rfl
            replace op : Own (w9.alloc (.cells #[.int .i64 P0.n.x, .int .i64 P0.n.y, .int .i64 P0.n.z, .int .i64 P0.b] 32)) (opb) #[.int .i64 P0.n.x, .int .i64 P0.n.y, .int .i64 P0.n.z, .int .i64 P0.b] := (by repeat' (first | ((refine Own.new ?_); (focus (first | rfl | omega | (simp; done) | (simp; omega)))) | assumption | refine Own.alloc ?_ _ | refine Own.drew ?_ | (refine Own.far ?_ ?_ _; rotate_left; (focus (first | rfl | omega | (simp; done) | (simp; omega))))))
            clear opc opf opz
            replace oq : Own (w9.alloc (.cells #[.int .i64 P0.n.x, .int .i64 P0.n.y, .int .i64 P0.n.z, .int .i64 P0.b] 32)) (oqb) #[.int .i64 Q.n.x, .int .i64 Q.n.y, .int .i64 Q.n.z, .int .i64 Q.b] := (by repeat' (first | ((refine Own.new ?_); (focus (first | rfl | omega | (simp; done) | (simp; omega)))) | assumption | refine Own.alloc ?_ _ | refine Own.drew ?_ | (refine Own.far ?_ ?_ _; rotate_left; (focus (first | rfl | omega | (simp; done) | (simp; omega))))))
            clear oqc oqf oqz
            replace ou : Own (w9.alloc (.cells #[.int .i64 P0.n.x, .int .i64 P0.n.y, .int .i64 P0.n.z, .int .i64 P0.b] 32)) (w5.heap.size) #[.int .i64 P0.n.x, .int .i64 P0.n.y, .int .i64 P0.n.z, .int .i64 pb] := (by repeat' (first | ((refine Own.new ?_); (focus (first | rfl | omega | (simp; done) | (simp; omega)))) | assumption | refine Own.alloc ?_ _ | refine Own.drew ?_ | (refine Own.far ?_ ?_ _; rotate_left; (focus (first | rfl | omega | (simp; done) | (simp; omega))))))
            clear ouc ouf ouz
            replace hw : Below w.heap.size w (w9.alloc (.cells #[.int .i64 P0.n.x, .int .i64 P0.n.y, .int .i64 P0.n.z, .int .i64 P0.b] 32)) := (by repeat' (first | exact Below.refl _ _ | assumption | (refine Below.alloc ?_ ?_ _; rotate_left; (focus (first | rfl | omega | (simp; done) | (simp; omega)))) | (refine Below.setCell ?_ ?_ _; rotate_left; (focus (first | rfl | omega | (simp; done) | (simp; omega)))) | refine Below.drew ?_))
            generalize w9.alloc (.cells #[.int .i64 P0.n.x, .int .i64 P0.n.y, .int .i64 P0.n.z, .int .i64 P0.b] 32) = wA at *
            have opc := op.cell
            have opf := op.thaw
            have opz := op.lt
            have oqc := oq.cell
            have oqf := oq.thaw
            have oqz := oq.lt
            have ouc := ou.cell
            have ouf := ou.thaw
            have ouz := ou.lt
            have obc := ob.cell
            have obf := ob.thaw
            have obz := ob.lt
            replace hz := hw.size
            have LW := HLaw.out
            have lmore := LW.more
            have lless := LW.less
            have lanti := LW.anti
            have lsame := LW.same
            rw [HPB.out] at lmore lless
            clear LW
            by_cases hpq : P0 = Q
            · subst hpq
              have l0 : pCompare P0 P0 = 0 := lsame.2 rfl
              obtain ⟨cu, hcu⟩ : ∃ c, pCompare P0 ⟨P0.n, pb⟩ = c := ⟨_, rfl⟩
              rw [l0, hcu] at lmore
              rw [hcu] at lless
              have l1 : cu ≤ 0 := by omega
              have H0 := Lib.hid (show Value.int .i64 (pCompare ⟨⟨P0.n.x, P0.n.y, P0.n.z⟩, P0.b⟩ ⟨⟨P0.n.x, P0.n.y, P0.n.z⟩, P0.b⟩) = .int .i64 0 from congrArg (Value.int .i64) l0)
              have HU := Lib.hid (show Value.int .i64 (pCompare ⟨⟨P0.n.x, P0.n.y, P0.n.z⟩, P0.b⟩ ⟨⟨P0.n.x, P0.n.y, P0.n.z⟩, pb⟩) = .int .i64 cu from congrArg (Value.int .i64) hcu)
              clear l0 hcu lmore lanti lsame
              refine region_late 27 [] (by kernel_rfl) (by kernel_rfl) (by rfl) ?_
              apply Exists.intro
              refine ⟨fun v hv hne => ?_, fun uf hu => ?_⟩
              · simp only [List.take_succ_cons, List.take_zero]
                have dop := fun x => (op.later (v := v) (T := []) (by first | (simp; done) | (simp; omega)) x).cell
                have doq := fun x => (oq.later (v := v) (T := []) (by first | (simp; done) | (simp; omega)) x).cell
                have dou := fun x => (ou.later (v := v) (T := []) (by first | (simp; done) | (simp; omega)) x).cell
                have dob := fun x => (ob.later (v := v) (T := []) (by first | (simp; done) | (simp; omega)) x).cell
                repeat (go_big_quiet_step ((first | (go_at_call 46; with_reducible exact lateB (callv (plane_Compare P0.n.x P0.n.y P0.n.z P0.b P0.n.x P0.n.y P0.n.z P0.b _) H0.out)))))
                refine wpQuiet_nil ?_
                exact rfl
              · simp only [List.drop_succ_cons, List.drop_zero]
                replace op := op.below hu
                replace oq := oq.below hu
                replace ou := ou.below hu
                replace ob := ob.below hu
                replace hw := Below.hop hw hu
                replace hz := hw.size
                clear hu
                refine late_nil ?_
                (try simp only [Act.put, List.setIfInBounds_toArray, List.set_cons_zero, List.set_cons_succ])
                have opc := op.cell
                have opf := op.thaw
                have opz := op.lt
                have oqc := oq.cell
                have oqf := oq.thaw
                have oqz := oq.lt
                have ouc := ou.cell
                have ouf := ou.thaw
                have ouz := ou.lt
                have obc := ob.cell
                have obf := ob.thaw
                have obz := ob.lt
                by_cases hr : r = 0
                · clear lless
                  go_wp2_with (first | (go_at_call 46; with_reducible refine Calls.mono (callv (plane_Compare P0.n.x P0.n.y P0.n.z P0.b P0.n.x P0.n.y P0.n.z P0.b _) H0.out) ?_; rintro e wx ⟨rfl, hbx⟩; replace op : Own wx (opb) #[.int .i64 P0.n.x, .int .i64 P0.n.y, .int .i64 P0.n.z, .int .i64 P0.b] := Own.below (by repeat' (first | ((refine Own.new ?_); (focus (first | rfl | omega | (simp; done) | (simp; omega)))) | assumption | refine Own.alloc ?_ _ | refine Own.drew ?_ | (refine Own.far ?_ ?_ _; rotate_left; (focus (first | rfl | omega | (simp; done) | (simp; omega)))))) hbx; replace opc := op.cell; replace opf := op.thaw; replace opz := op.lt; replace oq : Own wx (oqb) #[.int .i64 P0.n.x, .int .i64 P0.n.y, .int .i64 P0.n.z, .int .i64 P0.b] := Own.below (by repeat' (first | ((refine Own.new ?_); (focus (first | rfl | omega | (simp; done) | (simp; omega)))) | assumption | refine Own.alloc ?_ _ | refine Own.drew ?_ | (refine Own.far ?_ ?_ _; rotate_left; (focus (first | rfl | omega | (simp; done) | (simp; omega)))))) hbx; replace oqc := oq.cell; replace oqf := oq.thaw; replace oqz := oq.lt; replace ou : Own wx (w5.heap.size) #[.int .i64 P0.n.x, .int .i64 P0.n.y, .int .i64 P0.n.z, .int .i64 pb] := Own.below (by repeat' (first | ((refine Own.new ?_); (focus (first | rfl | omega | (simp; done) | (simp; omega)))) | assumption | refine Own.alloc ?_ _ | refine Own.drew ?_ | (refine Own.far ?_ ?_ _; rotate_left; (focus (first | rfl | omega | (simp; done) | (simp; omega)))))) hbx; replace ouc := ou.cell; replace ouf := ou.thaw; replace ouz := ou.lt; replace ob : Own wx (w9.heap.size) #[.int .i64 P0.n.x, .int .i64 P0.n.y, .int .i64 P0.n.z, .int .i64 P0.b] := Own.below (by repeat' (first | ((refine Own.new ?_); (focus (first | rfl | omega | (simp; done) | (simp; omega)))) | assumption | refine Own.alloc ?_ _ | refine Own.drew ?_ | (refine Own.far ?_ ?_ _; rotate_left; (focus (first | rfl | omega | (simp; done) | (simp; omega)))))) hbx; replace obc := ob.cell; replace obf := ob.thaw; replace obz := ob.lt; replace hw : Below w.heap.size w wx := Below.hop (by repeat' (first | exact Below.refl _ _ | assumption | (refine Below.alloc ?_ ?_ _; rotate_left; (focus (first | rfl | omega | (simp; done) | (simp; omega)))) | (refine Below.setCell ?_ ?_ _; rotate_left; (focus (first | rfl | omega | (simp; done) | (simp; omega)))) | refine Below.drew ?_)) hbx; replace hz := hw.size; clear hbx) | (go_at_call 46; with_reducible refine Calls.mono (callv (plane_Compare P0.n.x P0.n.y P0.n.z P0.b P0.n.x P0.n.y P0.n.z pb _) HU.out) ?_; rintro e wx ⟨rfl, hbx⟩; replace op : Own wx (opb) #[.int .i64 P0.n.x, .int .i64 P0.n.y, .int .i64 P0.n.z, .int .i64 P0.b] := Own.below (by repeat' (first | ((refine Own.new ?_); (focus (first | rfl | omega | (simp; done) | (simp; omega)))) | assumption | refine Own.alloc ?_ _ | refine Own.drew ?_ | (refine Own.far ?_ ?_ _; rotate_left; (focus (first | rfl | omega | (simp; done) | (simp; omega)))))) hbx; replace opc := op.cell; replace opf := op.thaw; replace opz := op.lt; replace oq : Own wx (oqb) #[.int .i64 P0.n.x, .int .i64 P0.n.y, .int .i64 P0.n.z, .int .i64 P0.b] := Own.below (by repeat' (first | ((refine Own.new ?_); (focus (first | rfl | omega | (simp; done) | (simp; omega)))) | assumption | refine Own.alloc ?_ _ | refine Own.drew ?_ | (refine Own.far ?_ ?_ _; rotate_left; (focus (first | rfl | omega | (simp; done) | (simp; omega)))))) hbx; replace oqc := oq.cell; replace oqf := oq.thaw; replace oqz := oq.lt; replace ou : Own wx (w5.heap.size) #[.int .i64 P0.n.x, .int .i64 P0.n.y, .int .i64 P0.n.z, .int .i64 pb] := Own.below (by repeat' (first | ((refine Own.new ?_); (focus (first | rfl | omega | (simp; done) | (simp; omega)))) | assumption | refine Own.alloc ?_ _ | refine Own.drew ?_ | (refine Own.far ?_ ?_ _; rotate_left; (focus (first | rfl | omega | (simp; done) | (simp; omega)))))) hbx; replace ouc := ou.cell; replace ouf := ou.thaw; replace ouz := ou.lt; replace ob : Own wx (w9.heap.size) #[.int .i64 P0.n.x, .int .i64 P0.n.y, .int .i64 P0.n.z, .int .i64 P0.b] := Own.below (by repeat' (first | ((refine Own.new ?_); (focus (first | rfl | omega | (simp; done) | (simp; omega)))) | assumption | refine Own.alloc ?_ _ | refine Own.drew ?_ | (refine Own.far ?_ ?_ _; rotate_left; (focus (first | rfl | omega | (simp; done) | (simp; omega)))))) hbx; replace obc := ob.cell; replace obf := ob.thaw; replace obz := ob.lt; replace hw : Below w.heap.size w wx := Below.hop (by repeat' (first | exact Below.refl _ _ | assumption | (refine Below.alloc ?_ ?_ _; rotate_left; (focus (first | rfl | omega | (simp; done) | (simp; omega)))) | (refine Below.setCell ?_ ?_ _; rotate_left; (focus (first | rfl | omega | (simp; done) | (simp; omega)))) | refine Below.drew ?_)) hbx; replace hz := hw.size; clear hbx))
                  go_ret
                  exact ⟨rfl, hw⟩
                · have l2 : cu = -1 := lless.resolve_left hr
                  subst l2
                  clear l1 lless
                  go_wp2_with (first | (go_at_call 46; with_reducible refine Calls.mono (callv (plane_Compare P0.n.x P0.n.y P0.n.z P0.b P0.n.x P0.n.y P0.n.z P0.b _) H0.out) ?_; rintro e wx ⟨rfl, hbx⟩; replace op : Own wx (opb) #[.int .i64 P0.n.x, .int .i64 P0.n.y, .int .i64 P0.n.z, .int .i64 P0.b] := Own.below (by repeat' (first | ((refine Own.new ?_); (focus (first | rfl | omega | (simp; done) | (simp; omega)))) | assumption | refine Own.alloc ?_ _ | refine Own.drew ?_ | (refine Own.far ?_ ?_ _; rotate_left; (focus (first | rfl | omega | (simp; done) | (simp; omega)))))) hbx; replace opc := op.cell; replace opf := op.thaw; replace opz := op.lt; replace oq : Own wx (oqb) #[.int .i64 P0.n.x, .int .i64 P0.n.y, .int .i64 P0.n.z, .int .i64 P0.b] := Own.below (by repeat' (first | ((refine Own.new ?_); (focus (first | rfl | omega | (simp; done) | (simp; omega)))) | assumption | refine Own.alloc ?_ _ | refine Own.drew ?_ | (refine Own.far ?_ ?_ _; rotate_left; (focus (first | rfl | omega | (simp; done) | (simp; omega)))))) hbx; replace oqc := oq.cell; replace oqf := oq.thaw; replace oqz := oq.lt; replace ou : Own wx (w5.heap.size) #[.int .i64 P0.n.x, .int .i64 P0.n.y, .int .i64 P0.n.z, .int .i64 pb] := Own.below (by repeat' (first | ((refine Own.new ?_); (focus (first | rfl | omega | (simp; done) | (simp; omega)))) | assumption | refine Own.alloc ?_ _ | refine Own.drew ?_ | (refine Own.far ?_ ?_ _; rotate_left; (focus (first | rfl | omega | (simp; done) | (simp; omega)))))) hbx; replace ouc := ou.cell; replace ouf := ou.thaw; replace ouz := ou.lt; replace ob : Own wx (w9.heap.size) #[.int .i64 P0.n.x, .int .i64 P0.n.y, .int .i64 P0.n.z, .int .i64 P0.b] := Own.below (by repeat' (first | ((refine Own.new ?_); (focus (first | rfl | omega | (simp; done) | (simp; omega)))) | assumption | refine Own.alloc ?_ _ | refine Own.drew ?_ | (refine Own.far ?_ ?_ _; rotate_left; (focus (first | rfl | omega | (simp; done) | (simp; omega)))))) hbx; replace obc := ob.cell; replace obf := ob.thaw; replace obz := ob.lt; replace hw : Below w.heap.size w wx := Below.hop (by repeat' (first | exact Below.refl _ _ | assumption | (refine Below.alloc ?_ ?_ _; rotate_left; (focus (first | rfl | omega | (simp; done) | (simp; omega)))) | (refine Below.setCell ?_ ?_ _; rotate_left; (focus (first | rfl | omega | (simp; done) | (simp; omega)))) | refine Below.drew ?_)) hbx; replace hz := hw.size; clear hbx) | (go_at_call 46; with_reducible refine Calls.mono (callv (plane_Compare P0.n.x P0.n.y P0.n.z P0.b P0.n.x P0.n.y P0.n.z pb _) HU.out) ?_; rintro e wx ⟨rfl, hbx⟩; replace op : Own wx (opb) #[.int .i64 P0.n.x, .int .i64 P0.n.y, .int .i64 P0.n.z, .int .i64 P0.b] := Own.below (by repeat' (first | ((refine Own.new ?_); (focus (first | rfl | omega | (simp; done) | (simp; omega)))) | assumption | refine Own.alloc ?_ _ | refine Own.drew ?_ | (refine Own.far ?_ ?_ _; rotate_left; (focus (first | rfl | omega | (simp; done) | (simp; omega)))))) hbx; replace opc := op.cell; replace opf := op.thaw; replace opz := op.lt; replace oq : Own wx (oqb) #[.int .i64 P0.n.x, .int .i64 P0.n.y, .int .i64 P0.n.z, .int .i64 P0.b] := Own.below (by repeat' (first | ((refine Own.new ?_); (focus (first | rfl | omega | (simp; done) | (simp; omega)))) | assumption | refine Own.alloc ?_ _ | refine Own.drew ?_ | (refine Own.far ?_ ?_ _; rotate_left; (focus (first | rfl | omega | (simp; done) | (simp; omega)))))) hbx; replace oqc := oq.cell; replace oqf := oq.thaw; replace oqz := oq.lt; replace ou : Own wx (w5.heap.size) #[.int .i64 P0.n.x, .int .i64 P0.n.y, .int .i64 P0.n.z, .int .i64 pb] := Own.below (by repeat' (first | ((refine Own.new ?_); (focus (first | rfl | omega | (simp; done) | (simp; omega)))) | assumption | refine Own.alloc ?_ _ | refine Own.drew ?_ | (refine Own.far ?_ ?_ _; rotate_left; (focus (first | rfl | omega | (simp; done) | (simp; omega)))))) hbx; replace ouc := ou.cell; replace ouf := ou.thaw; replace ouz := ou.lt; replace ob : Own wx (w9.heap.size) #[.int .i64 P0.n.x, .int .i64 P0.n.y, .int .i64 P0.n.z, .int .i64 P0.b] := Own.below (by repeat' (first | ((refine Own.new ?_); (focus (first | rfl | omega | (simp; done) | (simp; omega)))) | assumption | refine Own.alloc ?_ _ | refine Own.drew ?_ | (refine Own.far ?_ ?_ _; rotate_left; (focus (first | rfl | omega | (simp; done) | (simp; omega)))))) hbx; replace obc := ob.cell; replace obf := ob.thaw; replace obz := ob.lt; replace hw : Below w.heap.size w wx := Below.hop (by repeat' (first | exact Below.refl _ _ | assumption | (refine Below.alloc ?_ ?_ _; rotate_left; (focus (first | rfl | omega | (simp; done) | (simp; omega)))) | (refine Below.setCell ?_ ?_ _; rotate_left; (focus (first | rfl | omega | (simp; done) | (simp; omega)))) | refine Below.drew ?_)) hbx; replace hz := hw.size; clear hbx))
                  go_ret
                  exact ⟨rfl, hw⟩
            · have hnz : ¬ pCompare P0 Q = 0 := fun h => hpq (lsame.1 h)
              obtain ⟨cb, hcb⟩ : ∃ c, pCompare Q P0 = c := ⟨_, rfl⟩
              rw [hcb] at lanti lmore
              rw [lanti] at hnz
              skip
              obtain ⟨cu, hcu⟩ : ∃ c, pCompare Q ⟨P0.n, pb⟩ = c := ⟨_, rfl⟩
              obtain ⟨cp, hcp⟩ : ∃ c, pCompare P0 ⟨P0.n, pb⟩ = c := ⟨_, rfl⟩
              rw [hcu] at lmore
              rw [hcp] at lless
              have HA := Lib.hid (show Value.int .i64 (pCompare ⟨⟨P0.n.x, P0.n.y, P0.n.z⟩, P0.b⟩ ⟨⟨Q.n.x, Q.n.y, Q.n.z⟩, Q.b⟩) = .int .i64 (wrap64 (-cb)) from congrArg (Value.int .i64) lanti)
              have HB := Lib.hid (show Value.int .i64 (pCompare ⟨⟨Q.n.x, Q.n.y, Q.n.z⟩, Q.b⟩ ⟨⟨P0.n.x, P0.n.y, P0.n.z⟩, P0.b⟩) = .int .i64 cb from congrArg (Value.int .i64) hcb)
              have HU := Lib.hid (show Value.int .i64 (pCompare ⟨⟨Q.n.x, Q.n.y, Q.n.z⟩, Q.b⟩ ⟨⟨P0.n.x, P0.n.y, P0.n.z⟩, pb⟩) = .int .i64 cu from congrArg (Value.int .i64) hcu)
              have HV := Lib.hid (show Value.int .i64 (pCompare ⟨⟨P0.n.x, P0.n.y, P0.n.z⟩, P0.b⟩ ⟨⟨P0.n.x, P0.n.y, P0.n.z⟩, pb⟩) = .int .i64 cp from congrArg (Value.int .i64) hcp)
              have HNE := Lib.hid (show ¬ P0.n.x = Q.n.x ∨ ¬ P0.n.y = Q.n.y ∨ ¬ P0.n.z = Q.n.z ∨ ¬ P0.b = Q.b by by_cases h1 : P0.n.x = Q.n.x <;> by_cases h2 : P0.n.y = Q.n.y <;> by_cases h3 : P0.n.z = Q.n.z <;> by_cases h4 : P0.b = Q.b <;> first | exact .inl h1 | exact .inr (.inl h2) | exact .inr (.inr (.inl h3)) | exact .inr (.inr (.inr h4)) | exact absurd (pl_ext h1 h2 h3 h4) hpq)
              clear lanti lsame hcb hcu hcp hpq
              refine region_late 27 [] (by kernel_rfl) (by kernel_rfl) (by rfl) ?_
              apply Exists.intro
              refine ⟨fun v hv hne => ?_, fun uf hu => ?_⟩
              · simp only [List.take_succ_cons, List.take_zero]
                have dop := fun x => (op.later (v := v) (T := []) (by first | (simp; done) | (simp; omega)) x).cell
                have doq := fun x => (oq.later (v := v) (T := []) (by first | (simp; done) | (simp; omega)) x).cell
                have dou := fun x => (ou.later (v := v) (T := []) (by first | (simp; done) | (simp; omega)) x).cell
                have dob := fun x => (ob.later (v := v) (T := []) (by first | (simp; done) | (simp; omega)) x).cell
                rcases HNE.out with hX | hX | hX | hX
                all_goals repeat (go_big_quiet_step ((first | (go_at_call 46; with_reducible exact lateB (callv (plane_Compare P0.n.x P0.n.y P0.n.z P0.b Q.n.x Q.n.y Q.n.z Q.b _) HA.out)) | (go_at_call 46; with_reducible exact lateB (callv (plane_Compare Q.n.x Q.n.y Q.n.z Q.b P0.n.x P0.n.y P0.n.z P0.b _) HB.out)))))
                all_goals refine wpQuiet_nil ?_
                all_goals exact rfl
              · simp only [List.drop_succ_cons, List.drop_zero]
                replace op := op.below hu
                replace oq := oq.below hu
                replace ou := ou.below hu
                replace ob := ob.below hu
                replace hw := Below.hop hw hu
                replace hz := hw.size
                clear hu
                refine late_nil ?_
                (try simp only [Act.put, List.setIfInBounds_toArray, List.set_cons_zero, List.set_cons_succ])
                have opc := op.cell
                have opf := op.thaw
                have opz := op.lt
                have oqc := oq.cell
                have oqf := oq.thaw
                have oqz := oq.lt
                have ouc := ou.cell
                have ouf := ou.thaw
                have ouz := ou.lt
                have obc := ob.cell
                have obf := ob.thaw
                have obz := ob.lt
                by_cases hr : r = 0 <;> by_cases hb : 0 < cb
                · skip
                  clear lless
                  clear lmore
                  go_wp2_with (first | (go_at_call 46; with_reducible refine Calls.mono (callv (plane_Compare P0.n.x P0.n.y P0.n.z P0.b P0.n.x P0.n.y P0.n.z pb _) HV.out) ?_; rintro e wx ⟨rfl, hbx⟩; replace op : Own wx (opb) #[.int .i64 P0.n.x, .int .i64 P0.n.y, .int .i64 P0.n.z, .int .i64 P0.b] := Own.below (by repeat' (first | ((refine Own.new ?_); (focus (first | rfl | omega | (simp; done) | (simp; omega)))) | assumption | refine Own.alloc ?_ _ | refine Own.drew ?_ | (refine Own.far ?_ ?_ _; rotate_left; (focus (first | rfl | omega | (simp; done) | (simp; omega)))))) hbx; replace opc := op.cell; replace opf := op.thaw; replace opz := op.lt; replace oq : Own wx (oqb) #[.int .i64 Q.n.x, .int .i64 Q.n.y, .int .i64 Q.n.z, .int .i64 Q.b] := Own.below (by repeat' (first | ((refine Own.new ?_); (focus (first | rfl | omega | (simp; done) | (simp; omega)))) | assumption | refine Own.alloc ?_ _ | refine Own.drew ?_ | (refine Own.far ?_ ?_ _; rotate_left; (focus (first | rfl | omega | (simp; done) | (simp; omega)))))) hbx; replace oqc := oq.cell; replace oqf := oq.thaw; replace oqz := oq.lt; replace ou : Own wx (w5.heap.size) #[.int .i64 P0.n.x, .int .i64 P0.n.y, .int .i64 P0.n.z, .int .i64 pb] := Own.below (by repeat' (first | ((refine Own.new ?_); (focus (first | rfl | omega | (simp; done) | (simp; omega)))) | assumption | refine Own.alloc ?_ _ | refine Own.drew ?_ | (refine Own.far ?_ ?_ _; rotate_left; (focus (first | rfl | omega | (simp; done) | (simp; omega)))))) hbx; replace ouc := ou.cell; replace ouf := ou.thaw; replace ouz := ou.lt; replace ob : Own wx (w9.heap.size) #[.int .i64 P0.n.x, .int .i64 P0.n.y, .int .i64 P0.n.z, .int .i64 P0.b] := Own.below (by repeat' (first | ((refine Own.new ?_); (focus (first | rfl | omega | (simp; done) | (simp; omega)))) | assumption | refine Own.alloc ?_ _ | refine Own.drew ?_ | (refine Own.far ?_ ?_ _; rotate_left; (focus (first | rfl | omega | (simp; done) | (simp; omega)))))) hbx; replace obc := ob.cell; replace obf := ob.thaw; replace obz := ob.lt; replace hw : Below w.heap.size w wx := Below.hop (by repeat' (first | exact Below.refl _ _ | assumption | (refine Below.alloc ?_ ?_ _; rotate_left; (focus (first | rfl | omega | (simp; done) | (simp; omega)))) | (refine Below.setCell ?_ ?_ _; rotate_left; (focus (first | rfl | omega | (simp; done) | (simp; omega)))) | refine Below.drew ?_)) hbx; replace hz := hw.size; clear hbx) | (go_at_call 46; with_reducible refine Calls.mono (callv (plane_Compare Q.n.x Q.n.y Q.n.z Q.b P0.n.x P0.n.y P0.n.z P0.b _) HB.out) ?_; rintro e wx ⟨rfl, hbx⟩; replace op : Own wx (opb) #[.int .i64 P0.n.x, .int .i64 P0.n.y, .int .i64 P0.n.z, .int .i64 P0.b] := Own.below (by repeat' (first | ((refine Own.new ?_); (focus (first | rfl | omega | (simp; done) | (simp; omega)))) | assumption | refine Own.alloc ?_ _ | refine Own.drew ?_ | (refine Own.far ?_ ?_ _; rotate_left; (focus (first | rfl | omega | (simp; done) | (simp; omega)))))) hbx; replace opc := op.cell; replace opf := op.thaw; replace opz := op.lt; replace oq : Own wx (oqb) #[.int .i64 Q.n.x, .int .i64 Q.n.y, .int .i64 Q.n.z, .int .i64 Q.b] := Own.below (by repeat' (first | ((refine Own.new ?_); (focus (first | rfl | omega | (simp; done) | (simp; omega)))) | assumption | refine Own.alloc ?_ _ | refine Own.drew ?_ | (refine Own.far ?_ ?_ _; rotate_left; (focus (first | rfl | omega | (simp; done) | (simp; omega)))))) hbx; replace oqc := oq.cell; replace oqf := oq.thaw; replace oqz := oq.lt; replace ou : Own wx (w5.heap.size) #[.int .i64 P0.n.x, .int .i64 P0.n.y, .int .i64 P0.n.z, .int .i64 pb] := Own.below (by repeat' (first | ((refine Own.new ?_); (focus (first | rfl | omega | (simp; done) | (simp; omega)))) | assumption | refine Own.alloc ?_ _ | refine Own.drew ?_ | (refine Own.far ?_ ?_ _; rotate_left; (focus (first | rfl | omega | (simp; done) | (simp; omega)))))) hbx; replace ouc := ou.cell; replace ouf := ou.thaw; replace ouz := ou.lt; replace ob : Own wx (w9.heap.size) #[.int .i64 P0.n.x, .int .i64 P0.n.y, .int .i64 P0.n.z, .int .i64 P0.b] := Own.below (by repeat' (first | ((refine Own.new ?_); (focus (first | rfl | omega | (simp; done) | (simp; omega)))) | assumption | refine Own.alloc ?_ _ | refine Own.drew ?_ | (refine Own.far ?_ ?_ _; rotate_left; (focus (first | rfl | omega | (simp; done) | (simp; omega)))))) hbx; replace obc := ob.cell; replace obf := ob.thaw; replace obz := ob.lt; replace hw : Below w.heap.size w wx := Below.hop (by repeat' (first | exact Below.refl _ _ | assumption | (refine Below.alloc ?_ ?_ _; rotate_left; (focus (first | rfl | omega | (simp; done) | (simp; omega)))) | (refine Below.setCell ?_ ?_ _; rotate_left; (focus (first | rfl | omega | (simp; done) | (simp; omega)))) | refine Below.drew ?_)) hbx; replace hz := hw.size; clear hbx) | (go_at_call 46; with_reducible refine Calls.mono (callv (plane_Compare Q.n.x Q.n.y Q.n.z Q.b P0.n.x P0.n.y P0.n.z pb _) HU.out) ?_; rintro e wx ⟨rfl, hbx⟩; replace op : Own wx (opb) #[.int .i64 P0.n.x, .int .i64 P0.n.y, .int .i64 P0.n.z, .int .i64 P0.b] := Own.below (by repeat' (first | ((refine Own.new ?_); (focus (first | rfl | omega | (simp; done) | (simp; omega)))) | assumption | refine Own.alloc ?_ _ | refine Own.drew ?_ | (refine Own.far ?_ ?_ _; rotate_left; (focus (first | rfl | omega | (simp; done) | (simp; omega)))))) hbx; replace opc := op.cell; replace opf := op.thaw; replace opz := op.lt; replace oq : Own wx (oqb) #[.int .i64 Q.n.x, .int .i64 Q.n.y, .int .i64 Q.n.z, .int .i64 Q.b] := Own.below (by repeat' (first | ((refine Own.new ?_); (focus (first | rfl | omega | (simp; done) | (simp; omega)))) | assumption | refine Own.alloc ?_ _ | refine Own.drew ?_ | (refine Own.far ?_ ?_ _; rotate_left; (focus (first | rfl | omega | (simp; done) | (simp; omega)))))) hbx; replace oqc := oq.cell; replace oqf := oq.thaw; replace oqz := oq.lt; replace ou : Own wx (w5.heap.size) #[.int .i64 P0.n.x, .int .i64 P0.n.y, .int .i64 P0.n.z, .int .i64 pb] := Own.below (by repeat' (first | ((refine Own.new ?_); (focus (first | rfl | omega | (simp; done) | (simp; omega)))) | assumption | refine Own.alloc ?_ _ | refine Own.drew ?_ | (refine Own.far ?_ ?_ _; rotate_left; (focus (first | rfl | omega | (simp; done) | (simp; omega)))))) hbx; replace ouc := ou.cell; replace ouf := ou.thaw; replace ouz := ou.lt; replace ob : Own wx (w9.heap.size) #[.int .i64 P0.n.x, .int .i64 P0.n.y, .int .i64 P0.n.z, .int .i64 P0.b] := Own.below (by repeat' (first | ((refine Own.new ?_); (focus (first | rfl | omega | (simp; done) | (simp; omega)))) | assumption | refine Own.alloc ?_ _ | refine Own.drew ?_ | (refine Own.far ?_ ?_ _; rotate_left; (focus (first | rfl | omega | (simp; done) | (simp; omega)))))) hbx; replace obc := ob.cell; replace obf := ob.thaw; replace obz := ob.lt; replace hw : Below w.heap.size w wx := Below.hop (by repeat' (first | exact Below.refl _ _ | assumption | (refine Below.alloc ?_ ?_ _; rotate_left; (focus (first | rfl | omega | (simp; done) | (simp; omega)))) | (refine Below.setCell ?_ ?_ _; rotate_left; (focus (first | rfl | omega | (simp; done) | (simp; omega)))) | refine Below.drew ?_)) hbx; replace hz := hw.size; clear hbx))
                  go_ret
                  exact ⟨rfl, hw⟩
                · skip
                  clear lless
                  have l1 : cu ≤ 0 := lmore.resolve_left hb
                  clear lmore
                  go_wp2_with (first | (go_at_call 46; with_reducible refine Calls.mono (callv (plane_Compare P0.n.x P0.n.y P0.n.z P0.b P0.n.x P0.n.y P0.n.z pb _) HV.out) ?_; rintro e wx ⟨rfl, hbx⟩; replace op : Own wx (opb) #[.int .i64 P0.n.x, .int .i64 P0.n.y, .int .i64 P0.n.z, .int .i64 P0.b] := Own.below (by repeat' (first | ((refine Own.new ?_); (focus (first | rfl | omega | (simp; done) | (simp; omega)))) | assumption | refine Own.alloc ?_ _ | refine Own.drew ?_ | (refine Own.far ?_ ?_ _; rotate_left; (focus (first | rfl | omega | (simp; done) | (simp; omega)))))) hbx; replace opc := op.cell; replace opf := op.thaw; replace opz := op.lt; replace oq : Own wx (oqb) #[.int .i64 Q.n.x, .int .i64 Q.n.y, .int .i64 Q.n.z, .int .i64 Q.b] := Own.below (by repeat' (first | ((refine Own.new ?_); (focus (first | rfl | omega | (simp; done) | (simp; omega)))) | assumption | refine Own.alloc ?_ _ | refine Own.drew ?_ | (refine Own.far ?_ ?_ _; rotate_left; (focus (first | rfl | omega | (simp; done) | (simp; omega)))))) hbx; replace oqc := oq.cell; replace oqf := oq.thaw; replace oqz := oq.lt; replace ou : Own wx (w5.heap.size) #[.int .i64 P0.n.x, .int .i64 P0.n.y, .int .i64 P0.n.z, .int .i64 pb] := Own.below (by repeat' (first | ((refine Own.new ?_); (focus (first | rfl | omega | (simp; done) | (simp; omega)))) | assumption | refine Own.alloc ?_ _ | refine Own.drew ?_ | (refine Own.far ?_ ?_ _; rotate_left; (focus (first | rfl | omega | (simp; done) | (simp; omega)))))) hbx; replace ouc := ou.cell; replace ouf := ou.thaw; replace ouz := ou.lt; replace ob : Own wx (w9.heap.size) #[.int .i64 P0.n.x, .int .i64 P0.n.y, .int .i64 P0.n.z, .int .i64 P0.b] := Own.below (by repeat' (first | ((refine Own.new ?_); (focus (first | rfl | omega | (simp; done) | (simp; omega)))) | assumption | refine Own.alloc ?_ _ | refine Own.drew ?_ | (refine Own.far ?_ ?_ _; rotate_left; (focus (first | rfl | omega | (simp; done) | (simp; omega)))))) hbx; replace obc := ob.cell; replace obf := ob.thaw; replace obz := ob.lt; replace hw : Below w.heap.size w wx := Below.hop (by repeat' (first | exact Below.refl _ _ | assumption | (refine Below.alloc ?_ ?_ _; rotate_left; (focus (first | rfl | omega | (simp; done) | (simp; omega)))) | (refine Below.setCell ?_ ?_ _; rotate_left; (focus (first | rfl | omega | (simp; done) | (simp; omega)))) | refine Below.drew ?_)) hbx; replace hz := hw.size; clear hbx) | (go_at_call 46; with_reducible refine Calls.mono (callv (plane_Compare Q.n.x Q.n.y Q.n.z Q.b P0.n.x P0.n.y P0.n.z P0.b _) HB.out) ?_; rintro e wx ⟨rfl, hbx⟩; replace op : Own wx (opb) #[.int .i64 P0.n.x, .int .i64 P0.n.y, .int .i64 P0.n.z, .int .i64 P0.b] := Own.below (by repeat' (first | ((refine Own.new ?_); (focus (first | rfl | omega | (simp; done) | (simp; omega)))) | assumption | refine Own.alloc ?_ _ | refine Own.drew ?_ | (refine Own.far ?_ ?_ _; rotate_left; (focus (first | rfl | omega | (simp; done) | (simp; omega)))))) hbx; replace opc := op.cell; replace opf := op.thaw; replace opz := op.lt; replace oq : Own wx (oqb) #[.int .i64 Q.n.x, .int .i64 Q.n.y, .int .i64 Q.n.z, .int .i64 Q.b] := Own.below (by repeat' (first | ((refine Own.new ?_); (focus (first | rfl | omega | (simp; done) | (simp; omega)))) | assumption | refine Own.alloc ?_ _ | refine Own.drew ?_ | (refine Own.far ?_ ?_ _; rotate_left; (focus (first | rfl | omega | (simp; done) | (simp; omega)))))) hbx; replace oqc := oq.cell; replace oqf := oq.thaw; replace oqz := oq.lt; replace ou : Own wx (w5.heap.size) #[.int .i64 P0.n.x, .int .i64 P0.n.y, .int .i64 P0.n.z, .int .i64 pb] := Own.below (by repeat' (first | ((refine Own.new ?_); (focus (first | rfl | omega | (simp; done) | (simp; omega)))) | assumption | refine Own.alloc ?_ _ | refine Own.drew ?_ | (refine Own.far ?_ ?_ _; rotate_left; (focus (first | rfl | omega | (simp; done) | (simp; omega)))))) hbx; replace ouc := ou.cell; replace ouf := ou.thaw; replace ouz := ou.lt; replace ob : Own wx (w9.heap.size) #[.int .i64 P0.n.x, .int .i64 P0.n.y, .int .i64 P0.n.z, .int .i64 P0.b] := Own.below (by repeat' (first | ((refine Own.new ?_); (focus (first | rfl | omega | (simp; done) | (simp; omega)))) | assumption | refine Own.alloc ?_ _ | refine Own.drew ?_ | (refine Own.far ?_ ?_ _; rotate_left; (focus (first | rfl | omega | (simp; done) | (simp; omega)))))) hbx; replace obc := ob.cell; replace obf := ob.thaw; replace obz := ob.lt; replace hw : Below w.heap.size w wx := Below.hop (by repeat' (first | exact Below.refl _ _ | assumption | (refine Below.alloc ?_ ?_ _; rotate_left; (focus (first | rfl | omega | (simp; done) | (simp; omega)))) | (refine Below.setCell ?_ ?_ _; rotate_left; (focus (first | rfl | omega | (simp; done) | (simp; omega)))) | refine Below.drew ?_)) hbx; replace hz := hw.size; clear hbx) | (go_at_call 46; with_reducible refine Calls.mono (callv (plane_Compare Q.n.x Q.n.y Q.n.z Q.b P0.n.x P0.n.y P0.n.z pb _) HU.out) ?_; rintro e wx ⟨rfl, hbx⟩; replace op : Own wx (opb) #[.int .i64 P0.n.x, .int .i64 P0.n.y, .int .i64 P0.n.z, .int .i64 P0.b] := Own.below (by repeat' (first | ((refine Own.new ?_); (focus (first | rfl | omega | (simp; done) | (simp; omega)))) | assumption | refine Own.alloc ?_ _ | refine Own.drew ?_ | (refine Own.far ?_ ?_ _; rotate_left; (focus (first | rfl | omega | (simp; done) | (simp; omega)))))) hbx; replace opc := op.cell; replace opf := op.thaw; replace opz := op.lt; replace oq : Own wx (oqb) #[.int .i64 Q.n.x, .int .i64 Q.n.y, .int .i64 Q.n.z, .int .i64 Q.b] := Own.below (by repeat' (first | ((refine Own.new ?_); (focus (first | rfl | omega | (simp; done) | (simp; omega)))) | assumption | refine Own.alloc ?_ _ | refine Own.drew ?_ | (refine Own.far ?_ ?_ _; rotate_left; (focus (first | rfl | omega | (simp; done) | (simp; omega)))))) hbx; replace oqc := oq.cell; replace oqf := oq.thaw; replace oqz := oq.lt; replace ou : Own wx (w5.heap.size) #[.int .i64 P0.n.x, .int .i64 P0.n.y, .int .i64 P0.n.z, .int .i64 pb] := Own.below (by repeat' (first | ((refine Own.new ?_); (focus (first | rfl | omega | (simp; done) | (simp; omega)))) | assumption | refine Own.alloc ?_ _ | refine Own.drew ?_ | (refine Own.far ?_ ?_ _; rotate_left; (focus (first | rfl | omega | (simp; done) | (simp; omega)))))) hbx; replace ouc := ou.cell; replace ouf := ou.thaw; replace ouz := ou.lt; replace ob : Own wx (w9.heap.size) #[.int .i64 P0.n.x, .int .i64 P0.n.y, .int .i64 P0.n.z, .int .i64 P0.b] := Own.below (by repeat' (first | ((refine Own.new ?_); (focus (first | rfl | omega | (simp; done) | (simp; omega)))) | assumption | refine Own.alloc ?_ _ | refine Own.drew ?_ | (refine Own.far ?_ ?_ _; rotate_left; (focus (first | rfl | omega | (simp; done) | (simp; omega)))))) hbx; replace obc := ob.cell; replace obf := ob.thaw; replace obz := ob.lt; replace hw : Below w.heap.size w wx := Below.hop (by repeat' (first | exact Below.refl _ _ | assumption | (refine Below.alloc ?_ ?_ _; rotate_left; (focus (first | rfl | omega | (simp; done) | (simp; omega)))) | (refine Below.setCell ?_ ?_ _; rotate_left; (focus (first | rfl | omega | (simp; done) | (simp; omega)))) | refine Below.drew ?_)) hbx; replace hz := hw.size; clear hbx))
                  go_ret
                  exact ⟨rfl, hw⟩
                · skip
                  have l2 : cp = -1 := lless.resolve_left hr
                  subst l2
                  clear lless
                  clear lmore
                  go_wp2_with (first | (go_at_call 46; with_reducible refine Calls.mono (callv (plane_Compare P0.n.x P0.n.y P0.n.z P0.b P0.n.x P0.n.y P0.n.z pb _) HV.out) ?_; rintro e wx ⟨rfl, hbx⟩; replace op : Own wx (opb) #[.int .i64 P0.n.x, .int .i64 P0.n.y, .int .i64 P0.n.z, .int .i64 P0.b] := Own.below (by repeat' (first | ((refine Own.new ?_); (focus (first | rfl | omega | (simp; done) | (simp; omega)))) | assumption | refine Own.alloc ?_ _ | refine Own.drew ?_ | (refine Own.far ?_ ?_ _; rotate_left; (focus (first | rfl | omega | (simp; done) | (simp; omega)))))) hbx; replace opc := op.cell; replace opf := op.thaw; replace opz := op.lt; replace oq : Own wx (oqb) #[.int .i64 Q.n.x, .int .i64 Q.n.y, .int .i64 Q.n.z, .int .i64 Q.b] := Own.below (by repeat' (first | ((refine Own.new ?_); (focus (first | rfl | omega | (simp; done) | (simp; omega)))) | assumption | refine Own.alloc ?_ _ | refine Own.drew ?_ | (refine Own.far ?_ ?_ _; rotate_left; (focus (first | rfl | omega | (simp; done) | (simp; omega)))))) hbx; replace oqc := oq.cell; replace oqf := oq.thaw; replace oqz := oq.lt; replace ou : Own wx (w5.heap.size) #[.int .i64 P0.n.x, .int .i64 P0.n.y, .int .i64 P0.n.z, .int .i64 pb] := Own.below (by repeat' (first | ((refine Own.new ?_); (focus (first | rfl | omega | (simp; done) | (simp; omega)))) | assumption | refine Own.alloc ?_ _ | refine Own.drew ?_ | (refine Own.far ?_ ?_ _; rotate_left; (focus (first | rfl | omega | (simp; done) | (simp; omega)))))) hbx; replace ouc := ou.cell; replace ouf := ou.thaw; replace ouz := ou.lt; replace ob : Own wx (w9.heap.size) #[.int .i64 P0.n.x, .int .i64 P0.n.y, .int .i64 P0.n.z, .int .i64 P0.b] := Own.below (by repeat' (first | ((refine Own.new ?_); (focus (first | rfl | omega | (simp; done) | (simp; omega)))) | assumption | refine Own.alloc ?_ _ | refine Own.drew ?_ | (refine Own.far ?_ ?_ _; rotate_left; (focus (first | rfl | omega | (simp; done) | (simp; omega)))))) hbx; replace obc := ob.cell; replace obf := ob.thaw; replace obz := ob.lt; replace hw : Below w.heap.size w wx := Below.hop (by repeat' (first | exact Below.refl _ _ | assumption | (refine Below.alloc ?_ ?_ _; rotate_left; (focus (first | rfl | omega | (simp; done) | (simp; omega)))) | (refine Below.setCell ?_ ?_ _; rotate_left; (focus (first | rfl | omega | (simp; done) | (simp; omega)))) | refine Below.drew ?_)) hbx; replace hz := hw.size; clear hbx) | (go_at_call 46; with_reducible refine Calls.mono (callv (plane_Compare Q.n.x Q.n.y Q.n.z Q.b P0.n.x P0.n.y P0.n.z P0.b _) HB.out) ?_; rintro e wx ⟨rfl, hbx⟩; replace op : Own wx (opb) #[.int .i64 P0.n.x, .int .i64 P0.n.y, .int .i64 P0.n.z, .int .i64 P0.b] := Own.below (by repeat' (first | ((refine Own.new ?_); (focus (first | rfl | omega | (simp; done) | (simp; omega)))) | assumption | refine Own.alloc ?_ _ | refine Own.drew ?_ | (refine Own.far ?_ ?_ _; rotate_left; (focus (first | rfl | omega | (simp; done) | (simp; omega)))))) hbx; replace opc := op.cell; replace opf := op.thaw; replace opz := op.lt; replace oq : Own wx (oqb) #[.int .i64 Q.n.x, .int .i64 Q.n.y, .int .i64 Q.n.z, .int .i64 Q.b] := Own.below (by repeat' (first | ((refine Own.new ?_); (focus (first | rfl | omega | (simp; done) | (simp; omega)))) | assumption | refine Own.alloc ?_ _ | refine Own.drew ?_ | (refine Own.far ?_ ?_ _; rotate_left; (focus (first | rfl | omega | (simp; done) | (simp; omega)))))) hbx; replace oqc := oq.cell; replace oqf := oq.thaw; replace oqz := oq.lt; replace ou : Own wx (w5.heap.size) #[.int .i64 P0.n.x, .int .i64 P0.n.y, .int .i64 P0.n.z, .int .i64 pb] := Own.below (by repeat' (first | ((refine Own.new ?_); (focus (first | rfl | omega | (simp; done) | (simp; omega)))) | assumption | refine Own.alloc ?_ _ | refine Own.drew ?_ | (refine Own.far ?_ ?_ _; rotate_left; (focus (first | rfl | omega | (simp; done) | (simp; omega)))))) hbx; replace ouc := ou.cell; replace ouf := ou.thaw; replace ouz := ou.lt; replace ob : Own wx (w9.heap.size) #[.int .i64 P0.n.x, .int .i64 P0.n.y, .int .i64 P0.n.z, .int .i64 P0.b] := Own.below (by repeat' (first | ((refine Own.new ?_); (focus (first | rfl | omega | (simp; done) | (simp; omega)))) | assumption | refine Own.alloc ?_ _ | refine Own.drew ?_ | (refine Own.far ?_ ?_ _; rotate_left; (focus (first | rfl | omega | (simp; done) | (simp; omega)))))) hbx; replace obc := ob.cell; replace obf := ob.thaw; replace obz := ob.lt; replace hw : Below w.heap.size w wx := Below.hop (by repeat' (first | exact Below.refl _ _ | assumption | (refine Below.alloc ?_ ?_ _; rotate_left; (focus (first | rfl | omega | (simp; done) | (simp; omega)))) | (refine Below.setCell ?_ ?_ _; rotate_left; (focus (first | rfl | omega | (simp; done) | (simp; omega)))) | refine Below.drew ?_)) hbx; replace hz := hw.size; clear hbx) | (go_at_call 46; with_reducible refine Calls.mono (callv (plane_Compare Q.n.x Q.n.y Q.n.z Q.b P0.n.x P0.n.y P0.n.z pb _) HU.out) ?_; rintro e wx ⟨rfl, hbx⟩; replace op : Own wx (opb) #[.int .i64 P0.n.x, .int .i64 P0.n.y, .int .i64 P0.n.z, .int .i64 P0.b] := Own.below (by repeat' (first | ((refine Own.new ?_); (focus (first | rfl | omega | (simp; done) | (simp; omega)))) | assumption | refine Own.alloc ?_ _ | refine Own.drew ?_ | (refine Own.far ?_ ?_ _; rotate_left; (focus (first | rfl | omega | (simp; done) | (simp; omega)))))) hbx; replace opc := op.cell; replace opf := op.thaw; replace opz := op.lt; replace oq : Own wx (oqb) #[.int .i64 Q.n.x, .int .i64 Q.n.y, .int .i64 Q.n.z, .int .i64 Q.b] := Own.below (by repeat' (first | ((refine Own.new ?_); (focus (first | rfl | omega | (simp; done) | (simp; omega)))) | assumption | refine Own.alloc ?_ _ | refine Own.drew ?_ | (refine Own.far ?_ ?_ _; rotate_left; (focus (first | rfl | omega | (simp; done) | (simp; omega)))))) hbx; replace oqc := oq.cell; replace oqf := oq.thaw; replace oqz := oq.lt; replace ou : Own wx (w5.heap.size) #[.int .i64 P0.n.x, .int .i64 P0.n.y, .int .i64 P0.n.z, .int .i64 pb] := Own.below (by repeat' (first | ((refine Own.new ?_); (focus (first | rfl | omega | (simp; done) | (simp; omega)))) | assumption | refine Own.alloc ?_ _ | refine Own.drew ?_ | (refine Own.far ?_ ?_ _; rotate_left; (focus (first | rfl | omega | (simp; done) | (simp; omega)))))) hbx; replace ouc := ou.cell; replace ouf := ou.thaw; replace ouz := ou.lt; replace ob : Own wx (w9.heap.size) #[.int .i64 P0.n.x, .int .i64 P0.n.y, .int .i64 P0.n.z, .int .i64 P0.b] := Own.below (by repeat' (first | ((refine Own.new ?_); (focus (first | rfl | omega | (simp; done) | (simp; omega)))) | assumption | refine Own.alloc ?_ _ | refine Own.drew ?_ | (refine Own.far ?_ ?_ _; rotate_left; (focus (first | rfl | omega | (simp; done) | (simp; omega)))))) hbx; replace obc := ob.cell; replace obf := ob.thaw; replace obz := ob.lt; replace hw : Below w.heap.size w wx := Below.hop (by repeat' (first | exact Below.refl _ _ | assumption | (refine Below.alloc ?_ ?_ _; rotate_left; (focus (first | rfl | omega | (simp; done) | (simp; omega)))) | (refine Below.setCell ?_ ?_ _; rotate_left; (focus (first | rfl | omega | (simp; done) | (simp; omega)))) | refine Below.drew ?_)) hbx; replace hz := hw.size; clear hbx))
                  go_ret
                  exact ⟨rfl, hw⟩
                · skip
                  have l2 : cp = -1 := lless.resolve_left hr
                  subst l2
                  clear lless
                  have l1 : cu ≤ 0 := lmore.resolve_left hb
                  clear lmore
                  go_wp2_with (first | (go_at_call 46; with_reducible refine Calls.mono (callv (plane_Compare P0.n.x P0.n.y P0.n.z P0.b P0.n.x P0.n.y P0.n.z pb _) HV.out) ?_; rintro e wx ⟨rfl, hbx⟩; replace op : Own wx (opb) #[.int .i64 P0.n.x, .int .i64 P0.n.y, .int .i64 P0.n.z, .int .i64 P0.b] := Own.below (by repeat' (first | ((refine Own.new ?_); (focus (first | rfl | omega | (simp; done) | (simp; omega)))) | assumption | refine Own.alloc ?_ _ | refine Own.drew ?_ | (refine Own.far ?_ ?_ _; rotate_left; (focus (first | rfl | omega | (simp; done) | (simp; omega)))))) hbx; replace opc := op.cell; replace opf := op.thaw; replace opz := op.lt; replace oq : Own wx (oqb) #[.int .i64 Q.n.x, .int .i64 Q.n.y, .int .i64 Q.n.z, .int .i64 Q.b] := Own.below (by repeat' (first | ((refine Own.new ?_); (focus (first | rfl | omega | (simp; done) | (simp; omega)))) | assumption | refine Own.alloc ?_ _ | refine Own.drew ?_ | (refine Own.far ?_ ?_ _; rotate_left; (focus (first | rfl | omega | (simp; done) | (simp; omega)))))) hbx; replace oqc := oq.cell; replace oqf := oq.thaw; replace oqz := oq.lt; replace ou : Own wx (w5.heap.size) #[.int .i64 P0.n.x, .int .i64 P0.n.y, .int .i64 P0.n.z, .int .i64 pb] := Own.below (by repeat' (first | ((refine Own.new ?_); (focus (first | rfl | omega | (simp; done) | (simp; omega)))) | assumption | refine Own.alloc ?_ _ | refine Own.drew ?_ | (refine Own.far ?_ ?_ _; rotate_left; (focus (first | rfl | omega | (simp; done) | (simp; omega)))))) hbx; replace ouc := ou.cell; replace ouf := ou.thaw; replace ouz := ou.lt; replace ob : Own wx (w9.heap.size) #[.int .i64 P0.n.x, .int .i64 P0.n.y, .int .i64 P0.n.z, .int .i64 P0.b] := Own.below (by repeat' (first | ((refine Own.new ?_); (focus (first | rfl | omega | (simp; done) | (simp; omega)))) | assumption | refine Own.alloc ?_ _ | refine Own.drew ?_ | (refine Own.far ?_ ?_ _; rotate_left; (focus (first | rfl | omega | (simp; done) | (simp; omega)))))) hbx; replace obc := ob.cell; replace obf := ob.thaw; replace obz := ob.lt; replace hw : Below w.heap.size w wx := Below.hop (by repeat' (first | exact Below.refl _ _ | assumption | (refine Below.alloc ?_ ?_ _; rotate_left; (focus (first | rfl | omega | (simp; done) | (simp; omega)))) | (refine Below.setCell ?_ ?_ _; rotate_left; (focus (first | rfl | omega | (simp; done) | (simp; omega)))) | refine Below.drew ?_)) hbx; replace hz := hw.size; clear hbx) | (go_at_call 46; with_reducible refine Calls.mono (callv (plane_Compare Q.n.x Q.n.y Q.n.z Q.b P0.n.x P0.n.y P0.n.z P0.b _) HB.out) ?_; rintro e wx ⟨rfl, hbx⟩; replace op : Own wx (opb) #[.int .i64 P0.n.x, .int .i64 P0.n.y, .int .i64 P0.n.z, .int .i64 P0.b] := Own.below (by repeat' (first | ((refine Own.new ?_); (focus (first | rfl | omega | (simp; done) | (simp; omega)))) | assumption | refine Own.alloc ?_ _ | refine Own.drew ?_ | (refine Own.far ?_ ?_ _; rotate_left; (focus (first | rfl | omega | (simp; done) | (simp; omega)))))) hbx; replace opc := op.cell; replace opf := op.thaw; replace opz := op.lt; replace oq : Own wx (oqb) #[.int .i64 Q.n.x, .int .i64 Q.n.y, .int .i64 Q.n.z, .int .i64 Q.b] := Own.below (by repeat' (first | ((refine Own.new ?_); (focus (first | rfl | omega | (simp; done) | (simp; omega)))) | assumption | refine Own.alloc ?_ _ | refine Own.drew ?_ | (refine Own.far ?_ ?_ _; rotate_left; (focus (first | rfl | omega | (simp; done) | (simp; omega)))))) hbx; replace oqc := oq.cell; replace oqf := oq.thaw; replace oqz := oq.lt; replace ou : Own wx (w5.heap.size) #[.int .i64 P0.n.x, .int .i64 P0.n.y, .int .i64 P0.n.z, .int .i64 pb] := Own.below (by repeat' (first | ((refine Own.new ?_); (focus (first | rfl | omega | (simp; done) | (simp; omega)))) | assumption | refine Own.alloc ?_ _ | refine Own.drew ?_ | (refine Own.far ?_ ?_ _; rotate_left; (focus (first | rfl | omega | (simp; done) | (simp; omega)))))) hbx; replace ouc := ou.cell; replace ouf := ou.thaw; replace ouz := ou.lt; replace ob : Own wx (w9.heap.size) #[.int .i64 P0.n.x, .int .i64 P0.n.y, .int .i64 P0.n.z, .int .i64 P0.b] := Own.below (by repeat' (first | ((refine Own.new ?_); (focus (first | rfl | omega | (simp; done) | (simp; omega)))) | assumption | refine Own.alloc ?_ _ | refine Own.drew ?_ | (refine Own.far ?_ ?_ _; rotate_left; (focus (first | rfl | omega | (simp; done) | (simp; omega)))))) hbx; replace obc := ob.cell; replace obf := ob.thaw; replace obz := ob.lt; replace hw : Below w.heap.size w wx := Below.hop (by repeat' (first | exact Below.refl _ _ | assumption | (refine Below.alloc ?_ ?_ _; rotate_left; (focus (first | rfl | omega | (simp; done) | (simp; omega)))) | (refine Below.setCell ?_ ?_ _; rotate_left; (focus (first | rfl | omega | (simp; done) | (simp; omega)))) | refine Below.drew ?_)) hbx; replace hz := hw.size; clear hbx) | (go_at_call 46; with_reducible refine Calls.mono (callv (plane_Compare Q.n.x Q.n.y Q.n.z Q.b P0.n.x P0.n.y P0.n.z pb _) HU.out) ?_; rintro e wx ⟨rfl, hbx⟩; replace op : Own wx (opb) #[.int .i64 P0.n.x, .int .i64 P0.n.y, .int .i64 P0.n.z, .int .i64 P0.b] := Own.below (by repeat' (first | ((refine Own.new ?_); (focus (first | rfl | omega | (simp; done) | (simp; omega)))) | assumption | refine Own.alloc ?_ _ | refine Own.drew ?_ | (refine Own.far ?_ ?_ _; rotate_left; (focus (first | rfl | omega | (simp; done) | (simp; omega)))))) hbx; replace opc := op.cell; replace opf := op.thaw; replace opz := op.lt; replace oq : Own wx (oqb) #[.int .i64 Q.n.x, .int .i64 Q.n.y, .int .i64 Q.n.z, .int .i64 Q.b] := Own.below (by repeat' (first | ((refine Own.new ?_); (focus (first | rfl | omega | (simp; done) | (simp; omega)))) | assumption | refine Own.alloc ?_ _ | refine Own.drew ?_ | (refine Own.far ?_ ?_ _; rotate_left; (focus (first | rfl | omega | (simp; done) | (simp; omega)))))) hbx; replace oqc := oq.cell; replace oqf := oq.thaw; replace oqz := oq.lt; replace ou : Own wx (w5.heap.size) #[.int .i64 P0.n.x, .int .i64 P0.n.y, .int .i64 P0.n.z, .int .i64 pb] := Own.below (by repeat' (first | ((refine Own.new ?_); (focus (first | rfl | omega | (simp; done) | (simp; omega)))) | assumption | refine Own.alloc ?_ _ | refine Own.drew ?_ | (refine Own.far ?_ ?_ _; rotate_left; (focus (first | rfl | omega | (simp; done) | (simp; omega)))))) hbx; replace ouc := ou.cell; replace ouf := ou.thaw; replace ouz := ou.lt; replace ob : Own wx (w9.heap.size) #[.int .i64 P0.n.x, .int .i64 P0.n.y, .int .i64 P0.n.z, .int .i64 P0.b] := Own.below (by repeat' (first | ((refine Own.new ?_); (focus (first | rfl | omega | (simp; done) | (simp; omega)))) | assumption | refine Own.alloc ?_ _ | refine Own.drew ?_ | (refine Own.far ?_ ?_ _; rotate_left; (focus (first | rfl | omega | (simp; done) | (simp; omega)))))) hbx; replace obc := ob.cell; replace obf := ob.thaw; replace obz := ob.lt; replace hw : Below w.heap.size w wx := Below.hop (by repeat' (first | exact Below.refl _ _ | assumption | (refine Below.alloc ?_ ?_ _; rotate_left; (focus (first | rfl | omega | (simp; done) | (simp; omega)))) | (refine Below.setCell ?_ ?_ _; rotate_left; (focus (first | rfl | omega | (simp; done) | (simp; omega)))) | refine Below.drew ?_)) hbx; replace hz := hw.size; clear hbx))
                  go_ret
                  exact ⟨rfl, hw⟩
end Go.Proofs.Ythijnggeoinlfaa
