/- The law ContactForms returns true. The numbers are int64, and the slice reads as int64 numbers. -/
import Derived.Test.YthijnggeoinlfaaSan25
import Derived.Test.YthijnggeoinlfaaCtN
import Derived.Test.YthijnggeoinlfaaOdd25
namespace Go.Proofs.Ythijnggeoinlfaa
open Go.RowKit

theorem Reads.upd {T : List Nat} {w w' : World} {b n : Nat} {zs : Nat → Int} (h : Reads w (some ⟨b, 0, none⟩) n zs) (k : Upd T w w') (ht : b ∉ T) : Reads w' (some ⟨b, 0, none⟩) n zs := by
  rcases h with h | ⟨b', h1, h2, h3⟩
  · exact .inl h
  · injection h1 with h1; injection h1 with h1
    subst h1
    exact .inr ⟨b, rfl, Nat.lt_of_lt_of_le h2 k.size, fun i hi => (World.cell?_of_block (w := w) (a := ⟨b, i, none⟩) (k.block b h2 ht)).trans (h3 i hi)⟩
/-- A maker of a slice of n vectors of which the numbers are known. -/
def rdB (T : List Nat) (n : Nat) (zs : Nat → Int) : EBS T where
  val p := .slice (some ⟨p.1, 0, none⟩) n p.2
  R p u := p.1 ∉ T ∧ Reads u (some ⟨p.1, 0, none⟩) (n * 3) zs
  st _ _ _ h k := ⟨h.1, h.2.upd k h.1⟩
theorem rdB_val {T : List Nat} {n : Nat} {zs : Nat → Int} {p : Nat × Nat} : (rdB T n zs).val p = .slice (some ⟨p.1, 0, none⟩) n p.2 := rfl
theorem same_nil (w : World) : Calls Try.prog 54 #[.slice none 0 0, .slice none 0 0] w fun r w' => r = .returned (.bool true) ∧ Below w.heap.size w w' :=
  ref25_SameVecs none none 0 0 0 (fun _ => 0) w (by omega) (.inl rfl) (.inl rfl)
theorem coneL_len (c : Ct) : (coneL c).length ≤ 1000 := by
  unfold coneL
  have := edgesK_len c.n c.mn c.md 3
  repeat' split
  · simp
  · omega
  · simp
theorem cone_nil {g : FuncId} {c : Ct} (h : ∀ (c : Ct) (w : World), Calls Try.prog g #[c.v] w fun r w' => ∃ v, r = .returned v ∧ SlV w.heap.size w' v (coneL c) ∧ Below w.heap.size w w') (hc : coneL c = []) (w : World) :
    Calls Try.prog g #[c.v] w fun r w' => r = .returned (.slice none 0 0) ∧ Below w.heap.size w w' :=
  (h c w).mono fun e w' ⟨v, h1, h2, h3⟩ => by
    obtain rfl := h2.2.2 hc
    exact ⟨h1, h3⟩
theorem cone_make {g : FuncId} {c : Ct} {L : List V3} {n : Nat} (h : ∀ (c : Ct) (w : World), Calls Try.prog g #[c.v] w fun r w' => ∃ v, r = .returned v ∧ SlV w.heap.size w' v (coneL c) ∧ Below w.heap.size w w') (hc : coneL c = L) (hl : L.length = n) (hn : 0 < n) (w : World) :
    Calls Try.prog g #[c.v] w fun e w' => ∃ p : Nat × Nat, e = .returned ((rdB [] n (fun i => (flatI L).getD i 0)).val p) ∧ w.heap.size ≤ p.1 ∧ p.1 < w'.heap.size ∧ Below w.heap.size w w' ∧ (rdB [] n (fun i => (flatI L).getD i 0)).R p w' :=
  (h c w).mono fun e w' ⟨v, h1, h2, h3⟩ => by
    rw [hc] at h2
    obtain ⟨A, cap, rfl, hr⟩ := h2.reads
    have hrow := h2.1
    rw [hl] at hr hrow h1
    rcases hr with hr | ⟨b, rfl, hb, hcells⟩
    · omega
    · have hge := (hrow.lt b rfl).1
      exact ⟨(b, cap), h1, hge, hb, h3, by simp, .inr ⟨b, rfl, hb, hcells⟩⟩

set_option maxRecDepth 100000 in
set_option maxHeartbeats 20000000 in
theorem law25_Forms_walk (A : Option Addr) (n cap : Nat) (l : List Int) (r0 r1 r2 rn0 rn1 rn2 rm rd q0 q1 q2 f0 f1 f2 p0 p1 p2 : Int) (w : World) (hl : SliceI w A n l) (hcap : n ≤ cap) (hcap2 : cap ≤ 9223372036854775807) :
    Calls Try.prog 10 #[.slice A n cap, vC r0 r1 r2 rn0 rn1 rn2 rm rd, .agg #[.int .i64 q0, .int .i64 q1, .int .i64 q2], vV f0 f1 f2, vV p0 p1 p2] w fun r w' => r = .returned (.bool true) ∧ Below w.heap.size w w' := by
  have HL := Lib.hid hl
  clear hl
  have hn0 : 0 ≤ (n : Int) := by omega
  have hn1 : (n : Int) ≤ (cap : Int) := by omega
  have hn2 : (cap : Int) ≤ 9223372036854775807 := by omega
  obtain ⟨⟨s0, s1, s2⟩, hS⟩ : ∃ S, vSmall ⟨f0, f1, f2⟩ = S := ⟨_, rfl⟩
  have HSM := Lib.hid (congrArg V3.v hS)
  clear hS
  go_enter Try.func10, Try.ntmps10
  go_wp2_with fail
  refine Calls.mono (law25_sanity _) ?_
  rintro e w1 ⟨rfl, hbx⟩
  have or : Own w1 (w.heap.size) #[.int .i64 r0, .int .i64 r1, .int .i64 r2, .int .i64 rn0, .int .i64 rn1, .int .i64 rn2, .int .i64 rm, .int .i64 rd] := Own.below (by repeat' (first | ((refine Own.new ?_); (focus (first | rfl | omega | (simp; done) | (simp; omega)))) | assumption | refine Own.alloc ?_ _ | refine Own.drew ?_ | (refine Own.far ?_ ?_ _; rotate_left; (focus (first | rfl | omega | (simp; done) | (simp; omega)))))) hbx
  have orc := or.cell
  have orf := or.thaw
  have orz := or.lt
  have oq : Own w1 (w.heap.size + 1) #[.int .i64 q0, .int .i64 q1, .int .i64 q2] := Own.below (by repeat' (first | ((refine Own.new ?_); (focus (first | rfl | omega | (simp; done) | (simp; omega)))) | assumption | refine Own.alloc ?_ _ | refine Own.drew ?_ | (refine Own.far ?_ ?_ _; rotate_left; (focus (first | rfl | omega | (simp; done) | (simp; omega)))))) hbx
  have oqc := oq.cell
  have oqf := oq.thaw
  have oqz := oq.lt
  have of : Own w1 (w.heap.size + 1 + 1) #[.int .i64 f0, .int .i64 f1, .int .i64 f2] := Own.below (by repeat' (first | ((refine Own.new ?_); (focus (first | rfl | omega | (simp; done) | (simp; omega)))) | assumption | refine Own.alloc ?_ _ | refine Own.drew ?_ | (refine Own.far ?_ ?_ _; rotate_left; (focus (first | rfl | omega | (simp; done) | (simp; omega)))))) hbx
  have ofc := of.cell
  have off := of.thaw
  have ofz := of.lt
  have oat : Own w1 (w.heap.size + 1 + 1 + 1) #[.int .i64 p0, .int .i64 p1, .int .i64 p2] := Own.below (by repeat' (first | ((refine Own.new ?_); (focus (first | rfl | omega | (simp; done) | (simp; omega)))) | assumption | refine Own.alloc ?_ _ | refine Own.drew ?_ | (refine Own.far ?_ ?_ _; rotate_left; (focus (first | rfl | omega | (simp; done) | (simp; omega)))))) hbx
  have oatc := oat.cell
  have oatf := oat.thaw
  have oatz := oat.lt
  have hw : Below w.heap.size w w1 := Below.hop (by repeat' (first | exact Below.refl _ _ | assumption | (refine Below.alloc ?_ ?_ _; rotate_left; (focus (first | rfl | omega | (simp; done) | (simp; omega)))) | (refine Below.setCell ?_ ?_ _; rotate_left; (focus (first | rfl | omega | (simp; done) | (simp; omega)))) | refine Below.drew ?_)) hbx
  have hz := hw.size
  clear hbx
  go_wp2_with fail
  refine Calls.mono (law25_made A n cap _ _ (HL.out.below hw) (by omega) (by omega)) ?_
  rintro e w2 ⟨⟨⟨c0, c1, c2⟩, ⟨cn0, cn1, cn2⟩, cm, cd⟩, rfl, hok, hbx⟩
  have Hhok := Lib.hid hok
  clear hok
  replace or : Own w2 (w.heap.size) #[.int .i64 r0, .int .i64 r1, .int .i64 r2, .int .i64 rn0, .int .i64 rn1, .int .i64 rn2, .int .i64 rm, .int .i64 rd] := Own.below (by repeat' (first | ((refine Own.new ?_); (focus (first | rfl | omega | (simp; done) | (simp; omega)))) | assumption | refine Own.alloc ?_ _ | refine Own.drew ?_ | (refine Own.far ?_ ?_ _; rotate_left; (focus (first | rfl | omega | (simp; done) | (simp; omega)))))) hbx
  replace orc := or.cell
  replace orf := or.thaw
  replace orz := or.lt
  replace oq : Own w2 (w.heap.size + 1) #[.int .i64 q0, .int .i64 q1, .int .i64 q2] := Own.below (by repeat' (first | ((refine Own.new ?_); (focus (first | rfl | omega | (simp; done) | (simp; omega)))) | assumption | refine Own.alloc ?_ _ | refine Own.drew ?_ | (refine Own.far ?_ ?_ _; rotate_left; (focus (first | rfl | omega | (simp; done) | (simp; omega)))))) hbx
  replace oqc := oq.cell
  replace oqf := oq.thaw
  replace oqz := oq.lt
  replace of : Own w2 (w.heap.size + 1 + 1) #[.int .i64 f0, .int .i64 f1, .int .i64 f2] := Own.below (by repeat' (first | ((refine Own.new ?_); (focus (first | rfl | omega | (simp; done) | (simp; omega)))) | assumption | refine Own.alloc ?_ _ | refine Own.drew ?_ | (refine Own.far ?_ ?_ _; rotate_left; (focus (first | rfl | omega | (simp; done) | (simp; omega)))))) hbx
  replace ofc := of.cell
  replace off := of.thaw
  replace ofz := of.lt
  replace oat : Own w2 (w.heap.size + 1 + 1 + 1) #[.int .i64 p0, .int .i64 p1, .int .i64 p2] := Own.below (by repeat' (first | ((refine Own.new ?_); (focus (first | rfl | omega | (simp; done) | (simp; omega)))) | assumption | refine Own.alloc ?_ _ | refine Own.drew ?_ | (refine Own.far ?_ ?_ _; rotate_left; (focus (first | rfl | omega | (simp; done) | (simp; omega)))))) hbx
  replace oatc := oat.cell
  replace oatf := oat.thaw
  replace oatz := oat.lt
  replace hw : Below w.heap.size w w2 := Below.hop (by repeat' (first | exact Below.refl _ _ | assumption | (refine Below.alloc ?_ ?_ _; rotate_left; (focus (first | rfl | omega | (simp; done) | (simp; omega)))) | (refine Below.setCell ?_ ?_ _; rotate_left; (focus (first | rfl | omega | (simp; done) | (simp; omega)))) | refine Below.drew ?_)) hbx
  replace hz := hw.size
  clear hbx
  clear Hhok
  obtain ⟨⟨⟨d0, d1, d2⟩, ⟨dn0, dn1, dn2⟩, dm, dd⟩, hO⟩ : ∃ O, oddV ⟨⟨c0, c1, c2⟩, ⟨cn0, cn1, cn2⟩, cm, cd⟩ q0 q1 q2 = O := ⟨_, rfl⟩
  have HO := Lib.hid (congrArg Ct.v hO)
  clear hO
  go_wp2
  have qocor : w.heap.size < w2.heap.size := orz
  have qocoq : w.heap.size + 1 < w2.heap.size := oqz
  have qocof : w.heap.size + 1 + 1 < w2.heap.size := ofz
  have qocoat : w.heap.size + 1 + 1 + 1 < w2.heap.size := oatz
  have w3s : (w2.alloc (.cells #[.int .i64 c0, .int .i64 c1, .int .i64 c2, .int .i64 cn0, .int .i64 cn1, .int .i64 cn2, .int .i64 cm, .int .i64 cd] 66)).heap.size = w2.heap.size + 1 := by simp
  have w3e := Lib.hid w3s
  clear w3s
  have oc : Own ((w2.alloc (.cells #[.int .i64 c0, .int .i64 c1, .int .i64 c2, .int .i64 cn0, .int .i64 cn1, .int .i64 cn2, .int .i64 cm, .int .i64 cd] 66))) (w2.heap.size) #[.int .i64 c0, .int .i64 c1, .int .i64 c2, .int .i64 cn0, .int .i64 cn1, .int .i64 cn2, .int .i64 cm, .int .i64 cd] := Own.new rfl
  replace or : Own ((w2.alloc (.cells #[.int .i64 c0, .int .i64 c1, .int .i64 c2, .int .i64 cn0, .int .i64 cn1, .int .i64 cn2, .int .i64 cm, .int .i64 cd] 66))) (w.heap.size) #[.int .i64 r0, .int .i64 r1, .int .i64 r2, .int .i64 rn0, .int .i64 rn1, .int .i64 rn2, .int .i64 rm, .int .i64 rd] := (by repeat' (first | ((refine Own.new ?_); (focus (first | rfl | omega | (simp; done) | (simp; omega)))) | assumption | refine Own.alloc ?_ _ | refine Own.drew ?_ | (refine Own.far ?_ ?_ _; rotate_left; (focus (first | rfl | omega | (simp; done) | (simp; omega))))))
  clear orc orf orz
  replace oq : Own ((w2.alloc (.cells #[.int .i64 c0, .int .i64 c1, .int .i64 c2, .int .i64 cn0, .int .i64 cn1, .int .i64 cn2, .int .i64 cm, .int .i64 cd] 66))) (w.heap.size + 1) #[.int .i64 q0, .int .i64 q1, .int .i64 q2] := (by repeat' (first | ((refine Own.new ?_); (focus (first | rfl | omega | (simp; done) | (simp; omega)))) | assumption | refine Own.alloc ?_ _ | refine Own.drew ?_ | (refine Own.far ?_ ?_ _; rotate_left; (focus (first | rfl | omega | (simp; done) | (simp; omega))))))
  clear oqc oqf oqz
  replace of : Own ((w2.alloc (.cells #[.int .i64 c0, .int .i64 c1, .int .i64 c2, .int .i64 cn0, .int .i64 cn1, .int .i64 cn2, .int .i64 cm, .int .i64 cd] 66))) (w.heap.size + 1 + 1) #[.int .i64 f0, .int .i64 f1, .int .i64 f2] := (by repeat' (first | ((refine Own.new ?_); (focus (first | rfl | omega | (simp; done) | (simp; omega)))) | assumption | refine Own.alloc ?_ _ | refine Own.drew ?_ | (refine Own.far ?_ ?_ _; rotate_left; (focus (first | rfl | omega | (simp; done) | (simp; omega))))))
  clear ofc off ofz
  replace oat : Own ((w2.alloc (.cells #[.int .i64 c0, .int .i64 c1, .int .i64 c2, .int .i64 cn0, .int .i64 cn1, .int .i64 cn2, .int .i64 cm, .int .i64 cd] 66))) (w.heap.size + 1 + 1 + 1) #[.int .i64 p0, .int .i64 p1, .int .i64 p2] := (by repeat' (first | ((refine Own.new ?_); (focus (first | rfl | omega | (simp; done) | (simp; omega)))) | assumption | refine Own.alloc ?_ _ | refine Own.drew ?_ | (refine Own.far ?_ ?_ _; rotate_left; (focus (first | rfl | omega | (simp; done) | (simp; omega))))))
  clear oatc oatf oatz
  replace hw : Below w.heap.size w ((w2.alloc (.cells #[.int .i64 c0, .int .i64 c1, .int .i64 c2, .int .i64 cn0, .int .i64 cn1, .int .i64 cn2, .int .i64 cm, .int .i64 cd] 66))) := (by repeat' (first | exact Below.refl _ _ | assumption | (refine Below.alloc ?_ ?_ _; rotate_left; (focus (first | rfl | omega | (simp; done) | (simp; omega)))) | (refine Below.setCell ?_ ?_ _; rotate_left; (focus (first | rfl | omega | (simp; done) | (simp; omega)))) | refine Below.drew ?_))
  generalize (w2.alloc (.cells #[.int .i64 c0, .int .i64 c1, .int .i64 c2, .int .i64 cn0, .int .i64 cn1, .int .i64 cn2, .int .i64 cm, .int .i64 cd] 66)) = w3 at *
  have orc := or.cell
  have orf := or.thaw
  have orz := or.lt
  have oqc := oq.cell
  have oqf := oq.thaw
  have oqz := oq.lt
  have ofc := of.cell
  have off := of.thaw
  have ofz := of.lt
  have oatc := oat.cell
  have oatf := oat.thaw
  have oatz := oat.lt
  have occ := oc.cell
  have ocf := oc.thaw
  have ocz := oc.lt
  replace hz := hw.size
  generalize w2.heap.size = cb at *
  refine region_mid 12 2 [] (by kernel_rfl) (by kernel_rfl) (by rfl) ?_
  apply Exists.intro
  refine ⟨fun v hv hne => ?_, fun ua hu => ?_⟩
  · simp only [List.take_succ_cons, List.take_zero, List.drop_succ_cons, List.drop_zero, Nat.reduceAdd, List.cons_append, List.nil_append]
    have dor := fun x => (or.later (v := v) (T := []) (by first | (simp; done) | (simp; omega)) x).cell
    have doq := fun x => (oq.later (v := v) (T := []) (by first | (simp; done) | (simp; omega)) x).cell
    have dof := fun x => (of.later (v := v) (T := []) (by first | (simp; done) | (simp; omega)) x).cell
    have doat := fun x => (oat.later (v := v) (T := []) (by first | (simp; done) | (simp; omega)) x).cell
    have doc := fun x => (oc.later (v := v) (T := []) (by first | (simp; done) | (simp; omega)) x).cell
    repeat (go_big_quiet_step ((first | (go_at_call 51; with_reducible exact lateB (callv (ref25_Odd _ _ _ _ _ _ _ _ _ _ _ _) HO.out)))))
    refine wpQuiet_nil ?_
    exact rfl
  · simp only [List.drop_succ_cons, List.drop_zero]
    refine late_mem (fun K hK => ?_)
    go_simp
    refine hK _ _ ((Keeps.of_below hu).alloc _) (fun ua2 hu2 => ?_)
    clear hK K
    have hk : Keeps [] w3 ua2 := ((Keeps.of_below (T := []) hu).alloc _).later hu2
    have os : Own ua2 ua.heap.size #[.int .i64 c0, .int .i64 c1, .int .i64 c2, .int .i64 cn0, .int .i64 cn1, .int .i64 cn2, .int .i64 cm, .int .i64 cd, .int .i64 r0, .int .i64 r1, .int .i64 r2, .int .i64 rn0, .int .i64 rn1, .int .i64 rn2, .int .i64 rm, .int .i64 rd, .int .i64 d0, .int .i64 d1, .int .i64 d2, .int .i64 dn0, .int .i64 dn1, .int .i64 dn2, .int .i64 dm, .int .i64 dd, .int .i64 r0, .int .i64 r1, .int .i64 r2, .int .i64 cn0, .int .i64 cn1, .int .i64 cn2, .int .i64 rm, .int .i64 rd] := Own.below (Own.new rfl) hu2
    have osg : w3.heap.size ≤ ua.heap.size := hu.size
    replace hw := Below.hop ((Below.hop hw hu).alloc (by have := hw.size; have := hu.size; omega) _) hu2
    have osy : w.heap.size ≤ ua.heap.size := by omega
    clear hu hu2
    refine late_mem (fun K hK => ?_)
    go_simp
    refine hK _ _ hk (fun ua3 hu3 => ?_)
    clear hK K
    replace os := os.below hu3
    replace hw := Below.hop hw hu3
    replace hk := hk.later hu3
    clear hu3
    replace or : Own ua3 (w.heap.size) #[.int .i64 r0, .int .i64 r1, .int .i64 r2, .int .i64 rn0, .int .i64 rn1, .int .i64 rn2, .int .i64 rm, .int .i64 rd] := or.keeps hk (by simp)
    replace oq : Own ua3 (w.heap.size + 1) #[.int .i64 q0, .int .i64 q1, .int .i64 q2] := oq.keeps hk (by simp)
    replace of : Own ua3 (w.heap.size + 1 + 1) #[.int .i64 f0, .int .i64 f1, .int .i64 f2] := of.keeps hk (by simp)
    replace oat : Own ua3 (w.heap.size + 1 + 1 + 1) #[.int .i64 p0, .int .i64 p1, .int .i64 p2] := oat.keeps hk (by simp)
    replace oc : Own ua3 (cb) #[.int .i64 c0, .int .i64 c1, .int .i64 c2, .int .i64 cn0, .int .i64 cn1, .int .i64 cn2, .int .i64 cm, .int .i64 cd] := oc.keeps hk (by simp)
    refine late_nil ?_
    (try simp only [Act.put, List.setIfInBounds_toArray, List.set_cons_zero, List.set_cons_succ])
    clear hk
    generalize ua.heap.size = osb at *
    replace hz := hw.size
    replace orc := or.cell
    replace orf := or.thaw
    replace orz := or.lt
    replace oqc := oq.cell
    replace oqf := oq.thaw
    replace oqz := oq.lt
    replace ofc := of.cell
    replace off := of.thaw
    replace ofz := of.lt
    replace oatc := oat.cell
    replace oatf := oat.thaw
    replace oatz := oat.lt
    replace occ := oc.cell
    replace ocf := oc.thaw
    replace ocz := oc.lt
    replace osc := os.cell
    replace osf := os.thaw
    replace osz := os.lt
    obtain ⟨ck, hck, hci⟩ : ∃ ck : Array Value, Own ua3 osb ck ∧ ∀ i, i < 32 → ∃ m, ck[i]? = some (.int .i64 m) := ⟨_, os, fun i hi => rowSome [c0, c1, c2, cn0, cn1, cn2, cm, cd, r0, r1, r2, rn0, rn1, rn2, rm, rd, d0, d1, d2, dn0, dn1, dn2, dm, dd, r0, r1, r2, cn0, cn1, cn2, rm, rd] i hi⟩
    have HCI := Lib.hid hci
    clear hci
    clear osc osf osz os oqc oqf oqz oq occ ocf ocz oc orc orf orz or
    have os := hck
    clear hck
    have osc := os.cell
    have osf := os.thaw
    have osz := os.lt
    go_wp2
    go_loopw [34] (fun i wr => ∃ k : Nat, k ≤ 4 ∧ i = .int .i64 k ∧ Below w.heap.size w wr ∧ Own wr (w.heap.size + 1 + 1) #[.int .i64 f0, .int .i64 f1, .int .i64 f2] ∧ Own wr (w.heap.size + 1 + 1 + 1) #[.int .i64 p0, .int .i64 p1, .int .i64 p2] ∧ Own wr (osb) ck) (fun i _ => 4 - (intOf i).toNat)
    case atStart => exact ⟨0, by omega, rfl, hw, of, oat, os⟩
    case round =>
      clear hw hz of ofc off ofz oat oatc oatf oatz os osc osf osz
      obtain ⟨k, hk, rfl, hw, of, oat, os⟩ := hrel
      have hz := hw.size
      have ofc := of.cell
      have off := of.thaw
      have ofz := of.lt
      have oatc := oat.cell
      have oatf := oat.thaw
      have oatz := oat.lt
      have osc := os.cell
      have osf := os.thaw
      have osz := os.lt
      by_cases hlt : k < 4
      · have hlt2 : (k : Int) < 4 := by omega
        obtain ⟨x0, e0⟩ := HCI.out (k * 8) (by omega)
        obtain ⟨x1, e1⟩ := HCI.out (k * 8 + 1) (by omega)
        obtain ⟨x2, e2⟩ := HCI.out (k * 8 + 2) (by omega)
        obtain ⟨xn0, e3⟩ := HCI.out (k * 8 + 3) (by omega)
        obtain ⟨xn1, e4⟩ := HCI.out (k * 8 + 4) (by omega)
        obtain ⟨xn2, e5⟩ := HCI.out (k * 8 + 5) (by omega)
        obtain ⟨xm, e6⟩ := HCI.out (k * 8 + 6) (by omega)
        obtain ⟨xd, e7⟩ := HCI.out (k * 8 + 7) (by omega)
        go_wp2
        have ox : Own (wr.alloc (.cells #[.int .i64 x0, .int .i64 x1, .int .i64 x2, .int .i64 xn0, .int .i64 xn1, .int .i64 xn2, .int .i64 xm, .int .i64 xd] 66)) (wr.heap.size) #[.int .i64 x0, .int .i64 x1, .int .i64 x2, .int .i64 xn0, .int .i64 xn1, .int .i64 xn2, .int .i64 xm, .int .i64 xd] := Own.new rfl
        replace of : Own (wr.alloc (.cells #[.int .i64 x0, .int .i64 x1, .int .i64 x2, .int .i64 xn0, .int .i64 xn1, .int .i64 xn2, .int .i64 xm, .int .i64 xd] 66)) (w.heap.size + 1 + 1) #[.int .i64 f0, .int .i64 f1, .int .i64 f2] := (by repeat' (first | ((refine Own.new ?_); (focus (first | rfl | omega | (simp; done) | (simp; omega)))) | assumption | refine Own.alloc ?_ _ | refine Own.drew ?_ | (refine Own.far ?_ ?_ _; rotate_left; (focus (first | rfl | omega | (simp; done) | (simp; omega))))))
        clear ofc off ofz
        replace oat : Own (wr.alloc (.cells #[.int .i64 x0, .int .i64 x1, .int .i64 x2, .int .i64 xn0, .int .i64 xn1, .int .i64 xn2, .int .i64 xm, .int .i64 xd] 66)) (w.heap.size + 1 + 1 + 1) #[.int .i64 p0, .int .i64 p1, .int .i64 p2] := (by repeat' (first | ((refine Own.new ?_); (focus (first | rfl | omega | (simp; done) | (simp; omega)))) | assumption | refine Own.alloc ?_ _ | refine Own.drew ?_ | (refine Own.far ?_ ?_ _; rotate_left; (focus (first | rfl | omega | (simp; done) | (simp; omega))))))
        clear oatc oatf oatz
        replace os : Own (wr.alloc (.cells #[.int .i64 x0, .int .i64 x1, .int .i64 x2, .int .i64 xn0, .int .i64 xn1, .int .i64 xn2, .int .i64 xm, .int .i64 xd] 66)) (osb) ck := (by repeat' (first | ((refine Own.new ?_); (focus (first | rfl | omega | (simp; done) | (simp; omega)))) | assumption | refine Own.alloc ?_ _ | refine Own.drew ?_ | (refine Own.far ?_ ?_ _; rotate_left; (focus (first | rfl | omega | (simp; done) | (simp; omega))))))
        clear osc osf osz
        replace hw : Below w.heap.size w (wr.alloc (.cells #[.int .i64 x0, .int .i64 x1, .int .i64 x2, .int .i64 xn0, .int .i64 xn1, .int .i64 xn2, .int .i64 xm, .int .i64 xd] 66)) := (by repeat' (first | exact Below.refl _ _ | assumption | (refine Below.alloc ?_ ?_ _; rotate_left; (focus (first | rfl | omega | (simp; done) | (simp; omega)))) | (refine Below.setCell ?_ ?_ _; rotate_left; (focus (first | rfl | omega | (simp; done) | (simp; omega)))) | refine Below.drew ?_))
        generalize wr.alloc (.cells #[.int .i64 x0, .int .i64 x1, .int .i64 x2, .int .i64 xn0, .int .i64 xn1, .int .i64 xn2, .int .i64 xm, .int .i64 xd] 66) = wq at *
        have ofc := of.cell
        have off := of.thaw
        have ofz := of.lt
        have oatc := oat.cell
        have oatf := oat.thaw
        have oatz := oat.lt
        have osc := os.cell
        have osf := os.thaw
        have osz := os.lt
        have oxc := ox.cell
        have oxf := ox.thaw
        have oxz := ox.lt
        replace hz := hw.size
        clear e0 e1 e2 e3 e4 e5 e6 e7
        generalize wr.heap.size = oxb at *
        obtain ⟨CK, hCK⟩ : ∃ C, cCheck ⟨⟨x0, x1, x2⟩, ⟨xn0, xn1, xn2⟩, xm, xd⟩ = C := ⟨_, rfl⟩
        have HCK := Lib.hid (congrArg (Value.int IntKind.i64) hCK)
        clear hCK
        obtain ⟨LX, hLX⟩ : ∃ C, coneL ⟨⟨x0, x1, x2⟩, ⟨xn0, xn1, xn2⟩, xm, xd⟩ = C := ⟨_, rfl⟩
        have HLX := Lib.hid hLX
        clear hLX
        by_cases hne : LX = []
        · subst hne
          refine region_late 13 [] (by kernel_rfl) (by kernel_rfl) (by rfl) ?_
          apply Exists.intro
          refine ⟨fun v hv hne => ?_, fun uz hu => ?_⟩
          · simp only [List.take_succ_cons, List.take_zero]
            have dof := fun x => (of.later (v := v) (T := []) (by first | (simp; done) | (simp; omega)) x).cell
            have doat := fun x => (oat.later (v := v) (T := []) (by first | (simp; done) | (simp; omega)) x).cell
            have dos := fun x => (os.later (v := v) (T := []) (by first | (simp; done) | (simp; omega)) x).cell
            have dox := fun x => (ox.later (v := v) (T := []) (by first | (simp; done) | (simp; omega)) x).cell
            repeat (go_big_quiet_step ((first | (go_at_call 52; with_reducible exact lateB (callv (contact_Check _ _ _ _ _ _ _ _ _) HCK.out)) | (go_at_call 53; with_reducible exact lateB (callv (ref25_Check _ _ _ _ _ _ _ _ _) HCK.out)) | (go_at_call 55; with_reducible exact lateB (cone_nil (c := ⟨⟨x0, x1, x2⟩, ⟨xn0, xn1, xn2⟩, xm, xd⟩) contact_Cone HLX.out _)) | (go_at_call 56; with_reducible exact lateB (cone_nil (c := ⟨⟨x0, x1, x2⟩, ⟨xn0, xn1, xn2⟩, xm, xd⟩) ref25_Cone HLX.out _)) | (go_at_call 54; with_reducible exact lateB (same_nil _)))))
            refine wpQuiet_nil ?_
            exact rfl
          · simp only [List.drop_succ_cons, List.drop_zero]
            replace of := of.below hu
            replace oat := oat.below hu
            replace os := os.below hu
            replace ox := ox.below hu
            replace hw := Below.hop hw hu
            replace hz := hw.size
            clear hu
            refine late_nil ?_
            (try simp only [Act.put, List.setIfInBounds_toArray, List.set_cons_zero, List.set_cons_succ])
            have ofc := of.cell
            have off := of.thaw
            have ofz := of.lt
            have oatc := oat.cell
            have oatf := oat.thaw
            have oatz := oat.lt
            have osc := os.cell
            have osf := os.thaw
            have osz := os.lt
            have oxc := ox.cell
            have oxf := ox.thaw
            have oxz := ox.lt
            go_wp2
            refine region_mid 18 2 [] (by kernel_rfl) (by kernel_rfl) (by rfl) ?_
            apply Exists.intro
            refine ⟨fun v hv hne => ?_, fun ub hu => ?_⟩
            · simp only [List.take_succ_cons, List.take_zero, List.drop_succ_cons, List.drop_zero, Nat.reduceAdd, List.cons_append, List.nil_append]
              have dof := fun x => (of.later (v := v) (T := []) (by first | (simp; done) | (simp; omega)) x).cell
              have doat := fun x => (oat.later (v := v) (T := []) (by first | (simp; done) | (simp; omega)) x).cell
              have dos := fun x => (os.later (v := v) (T := []) (by first | (simp; done) | (simp; omega)) x).cell
              have dox := fun x => (ox.later (v := v) (T := []) (by first | (simp; done) | (simp; omega)) x).cell
              repeat (go_big_quiet_step ((first | (go_at_call 57; with_reducible exact lateB (callv (law25_small _ _ _ _) HSM.out)) | (go_at_call 58; with_reducible exact lateB (law25_vec _ _ _ _)))))
              refine wpQuiet_nil ?_
              exact rfl
            · simp only [List.drop_succ_cons, List.drop_zero]
              refine late_mem (fun K hK => ?_)
              go_simp
              refine hK _ _ ((Keeps.of_below hu).alloc _) (fun ub2 hu2 => ?_)
              clear hK K
              have hk : Keeps [] uz ub2 := ((Keeps.of_below (T := []) hu).alloc _).later hu2
              have ov : Own ub2 ub.heap.size #[.int .i64 f0, .int .i64 f1, .int .i64 f2, .int .i64 s0, .int .i64 s1, .int .i64 s2, .int .i64 (f0.tmod 4), .int .i64 (f1.tmod 4), .int .i64 (f2.tmod 9), .int .i64 2147483648, .int .i64 0, .int .i64 (f2.tmod 9), .int .i64 0, .int .i64 (-2147483648), .int .i64 2147483648] := Own.below (Own.new rfl) hu2
              have ovg : uz.heap.size ≤ ub.heap.size := hu.size
              replace hw := Below.hop ((Below.hop hw hu).alloc (by have := hw.size; have := hu.size; omega) _) hu2
              have ovy : w.heap.size ≤ ub.heap.size := by omega
              clear hu hu2
              refine late_mem (fun K hK => ?_)
              go_simp
              refine hK _ _ hk (fun ub3 hu3 => ?_)
              clear hK K
              replace ov := ov.below hu3
              replace hw := Below.hop hw hu3
              replace hk := hk.later hu3
              clear hu3
              replace of : Own ub3 (w.heap.size + 1 + 1) #[.int .i64 f0, .int .i64 f1, .int .i64 f2] := of.keeps hk (by simp)
              replace oat : Own ub3 (w.heap.size + 1 + 1 + 1) #[.int .i64 p0, .int .i64 p1, .int .i64 p2] := oat.keeps hk (by simp)
              replace os : Own ub3 (osb) ck := os.keeps hk (by simp)
              replace ox : Own ub3 (oxb) #[.int .i64 x0, .int .i64 x1, .int .i64 x2, .int .i64 xn0, .int .i64 xn1, .int .i64 xn2, .int .i64 xm, .int .i64 xd] := ox.keeps hk (by simp)
              refine late_nil ?_
              (try simp only [Act.put, List.setIfInBounds_toArray, List.set_cons_zero, List.set_cons_succ])
              clear hk
              generalize ub.heap.size = ovb at *
              replace hz := hw.size
              replace ofc := of.cell
              replace off := of.thaw
              replace ofz := of.lt
              replace oatc := oat.cell
              replace oatf := oat.thaw
              replace oatz := oat.lt
              replace osc := os.cell
              replace osf := os.thaw
              replace osz := os.lt
              replace oxc := ox.cell
              replace oxf := ox.thaw
              replace oxz := ox.lt
              replace ovc := ov.cell
              replace ovf := ov.thaw
              replace ovz := ov.lt
              obtain ⟨cv, hcv, hvi⟩ : ∃ cv : Array Value, Own ub3 ovb cv ∧ ∀ i, i < 15 → ∃ m, cv[i]? = some (.int .i64 m) := ⟨_, ov, fun i hi => rowSome [f0, f1, f2, s0, s1, s2, (f0.tmod 4), (f1.tmod 4), (f2.tmod 9), 2147483648, 0, (f2.tmod 9), 0, (-2147483648), 2147483648] i hi⟩
              have HVI := Lib.hid hvi
              clear hvi
              clear ovc ovf ovz ov
              have ov := hcv
              clear hcv
              have ovc := ov.cell
              have ovf := ov.thaw
              have ovz := ov.lt
              go_wp2
              go_loopw [71] (fun i wr => ∃ k2 : Nat, k2 ≤ 5 ∧ i = .int .i64 k2 ∧ Below w.heap.size w wr ∧ Own wr (w.heap.size + 1 + 1) #[.int .i64 f0, .int .i64 f1, .int .i64 f2] ∧ Own wr (w.heap.size + 1 + 1 + 1) #[.int .i64 p0, .int .i64 p1, .int .i64 p2] ∧ Own wr (osb) ck ∧ Own wr (oxb) #[.int .i64 x0, .int .i64 x1, .int .i64 x2, .int .i64 xn0, .int .i64 xn1, .int .i64 xn2, .int .i64 xm, .int .i64 xd] ∧ Own wr (ovb) cv) (fun i _ => 5 - (intOf i).toNat)
              case atStart => exact ⟨0, by omega, rfl, hw, of, oat, os, ox, ov⟩
              case round =>
                clear hw hz of ofc off ofz oat oatc oatf oatz os osc osf osz ox oxc oxf oxz ov ovc ovf ovz
                obtain ⟨k2, hk, rfl, hw, of, oat, os, ox, ov⟩ := hrel
                have hz := hw.size
                have ofc := of.cell
                have off := of.thaw
                have ofz := of.lt
                have oatc := oat.cell
                have oatf := oat.thaw
                have oatz := oat.lt
                have osc := os.cell
                have osf := os.thaw
                have osz := os.lt
                have oxc := ox.cell
                have oxf := ox.thaw
                have oxz := ox.lt
                have ovc := ov.cell
                have ovf := ov.thaw
                have ovz := ov.lt
                by_cases hlt : k2 < 5
                · have hlt3 : (k2 : Int) < 5 := by omega
                  obtain ⟨y0, e0⟩ := HVI.out (k2 * 3) (by omega)
                  obtain ⟨y1, e1⟩ := HVI.out (k2 * 3 + 1) (by omega)
                  obtain ⟨y2, e2⟩ := HVI.out (k2 * 3 + 2) (by omega)
                  go_wp2
                  have oy : Own (wr.alloc (.cells #[.int .i64 y0, .int .i64 y1, .int .i64 y2] 24)) (wr.heap.size) #[.int .i64 y0, .int .i64 y1, .int .i64 y2] := Own.new rfl
                  replace of : Own (wr.alloc (.cells #[.int .i64 y0, .int .i64 y1, .int .i64 y2] 24)) (w.heap.size + 1 + 1) #[.int .i64 f0, .int .i64 f1, .int .i64 f2] := (by repeat' (first | ((refine Own.new ?_); (focus (first | rfl | omega | (simp; done) | (simp; omega)))) | assumption | refine Own.alloc ?_ _ | refine Own.drew ?_ | (refine Own.far ?_ ?_ _; rotate_left; (focus (first | rfl | omega | (simp; done) | (simp; omega))))))
                  clear ofc off ofz
                  replace oat : Own (wr.alloc (.cells #[.int .i64 y0, .int .i64 y1, .int .i64 y2] 24)) (w.heap.size + 1 + 1 + 1) #[.int .i64 p0, .int .i64 p1, .int .i64 p2] := (by repeat' (first | ((refine Own.new ?_); (focus (first | rfl | omega | (simp; done) | (simp; omega)))) | assumption | refine Own.alloc ?_ _ | refine Own.drew ?_ | (refine Own.far ?_ ?_ _; rotate_left; (focus (first | rfl | omega | (simp; done) | (simp; omega))))))
                  clear oatc oatf oatz
                  replace os : Own (wr.alloc (.cells #[.int .i64 y0, .int .i64 y1, .int .i64 y2] 24)) (osb) ck := (by repeat' (first | ((refine Own.new ?_); (focus (first | rfl | omega | (simp; done) | (simp; omega)))) | assumption | refine Own.alloc ?_ _ | refine Own.drew ?_ | (refine Own.far ?_ ?_ _; rotate_left; (focus (first | rfl | omega | (simp; done) | (simp; omega))))))
                  clear osc osf osz
                  replace ox : Own (wr.alloc (.cells #[.int .i64 y0, .int .i64 y1, .int .i64 y2] 24)) (oxb) #[.int .i64 x0, .int .i64 x1, .int .i64 x2, .int .i64 xn0, .int .i64 xn1, .int .i64 xn2, .int .i64 xm, .int .i64 xd] := (by repeat' (first | ((refine Own.new ?_); (focus (first | rfl | omega | (simp; done) | (simp; omega)))) | assumption | refine Own.alloc ?_ _ | refine Own.drew ?_ | (refine Own.far ?_ ?_ _; rotate_left; (focus (first | rfl | omega | (simp; done) | (simp; omega))))))
                  clear oxc oxf oxz
                  replace ov : Own (wr.alloc (.cells #[.int .i64 y0, .int .i64 y1, .int .i64 y2] 24)) (ovb) cv := (by repeat' (first | ((refine Own.new ?_); (focus (first | rfl | omega | (simp; done) | (simp; omega)))) | assumption | refine Own.alloc ?_ _ | refine Own.drew ?_ | (refine Own.far ?_ ?_ _; rotate_left; (focus (first | rfl | omega | (simp; done) | (simp; omega))))))
                  clear ovc ovf ovz
                  replace hw : Below w.heap.size w (wr.alloc (.cells #[.int .i64 y0, .int .i64 y1, .int .i64 y2] 24)) := (by repeat' (first | exact Below.refl _ _ | assumption | (refine Below.alloc ?_ ?_ _; rotate_left; (focus (first | rfl | omega | (simp; done) | (simp; omega)))) | (refine Below.setCell ?_ ?_ _; rotate_left; (focus (first | rfl | omega | (simp; done) | (simp; omega)))) | refine Below.drew ?_))
                  generalize wr.alloc (.cells #[.int .i64 y0, .int .i64 y1, .int .i64 y2] 24) = wy at *
                  have ofc := of.cell
                  have off := of.thaw
                  have ofz := of.lt
                  have oatc := oat.cell
                  have oatf := oat.thaw
                  have oatz := oat.lt
                  have osc := os.cell
                  have osf := os.thaw
                  have osz := os.lt
                  have oxc := ox.cell
                  have oxf := ox.thaw
                  have oxz := ox.lt
                  have ovc := ov.cell
                  have ovf := ov.thaw
                  have ovz := ov.lt
                  have oyc := oy.cell
                  have oyf := oy.thaw
                  have oyz := oy.lt
                  replace hz := hw.size
                  clear e0 e1 e2
                  generalize wr.heap.size = oyb at *
                  obtain ⟨hb, hhb⟩ : ∃ b, cHas ⟨⟨x0, x1, x2⟩, ⟨xn0, xn1, xn2⟩, xm, xd⟩ ⟨y0, y1, y2⟩ = b := ⟨_, rfl⟩
                  have HHB := Lib.hid (congrArg Value.bool hhb)
                  clear hhb
                  obtain ⟨⟨m0, m1, m2⟩, hM⟩ : ∃ M, vCross ⟨p0, p1, p2⟩ ⟨y0, y1, y2⟩ = M := ⟨_, rfl⟩
                  have HM := Lib.hid hM
                  clear hM
                  refine region_gen (T := []) [.make 10 [] (ownB [] #[.int .i64 y0, .int .i64 y1, .int .i64 y2, .int .i64 m0, .int .i64 m1, .int .i64 m2] (fun p => .slice (some ⟨p, 0, none⟩) 6 6)), .make 13 [] (ownB [] #[.int .i64 y0, .int .i64 y1, .int .i64 y2, .int .i64 m0, .int .i64 m1, .int .i64 m2] (fun p => .slice (some ⟨p, 0, none⟩) 6 6))] 14 0 30 (fun _ _ => True) (fun _ _ _ _ _ => trivial) trivial (by kernel_rfl) (by kernel_rfl) (by rfl) ?_
                  unfold genWalk
                  apply Exists.intro
                  apply And.intro
                  · apply Piece.mk
                    · intro f v hv hr hne
                      simp only [List.take_succ_cons, List.take_zero, List.drop_zero, Nat.reduceSub]
                      have dox := fun x => (ox.later (v := v) (T := []) (by first | (simp; done) | (simp; omega)) x).cell
                      have doy := fun x => (oy.later (v := v) (T := []) (by first | (simp; done) | (simp; omega)) x).cell
                      have doat := fun x => (oat.later (v := v) (T := []) (by first | (simp; done) | (simp; omega)) x).cell
                      repeat (go_big_quiet_step ((first | (go_at_call 59; with_reducible exact lateB (callv (contact_Has _ _ _ _ _ _ _ _ _ _ _ _) HHB.out)) | (go_at_call 60; with_reducible exact lateB (callv (ref25_Has _ _ _ _ _ _ _ _ _ _ _ _) HHB.out)))))
                      refine wpQuiet_nil ?_
                      exact rfl
                    · intro f; kernel_rfl
                    · intro f f' hf; kernel_rfl
                  simp only [List.take_succ_cons, List.take_zero, List.drop_succ_cons, List.drop_zero, Nat.reduceAdd, oneOp]
                  refine ⟨fun f => ⟨rfl, fun u hu _ => ?_⟩, ?_⟩
                  · refine make_call (f := 62) (args := #[vV p0 p1 p2, vV y0 y1 y2]) (by (try simp only [Act.put, List.setIfInBounds_toArray, List.set_cons_zero, List.set_cons_succ]); (try simp only [ownB_val]); go_simp) ?_
                    refine (contact_Wrench p0 p1 p2 y0 y1 y2 _).mono ?_
                    rintro e wx ⟨g, rfl, hg1, hbx, hgo⟩
                    exact ⟨(g, 0), rfl, hg1, hgo.lt, hbx, by simp, by rw [HM.out] at hgo; exact hgo⟩
                  unfold genWalk
                  apply Exists.intro
                  apply And.intro
                  · apply Piece.mk
                    · intro f v hv hr hne
                      simp only [List.take_succ_cons, List.take_zero, List.drop_succ_cons, List.drop_zero, Nat.reduceSub]
                      (try simp only [Act.put, List.setIfInBounds_toArray, List.set_cons_zero, List.set_cons_succ])
                      (try simp only [ownB_val])
                      have dox := fun x => (ox.later (v := v) (T := []) (by first | (simp; done) | (simp; omega)) x).cell
                      have doy := fun x => (oy.later (v := v) (T := []) (by first | (simp; done) | (simp; omega)) x).cell
                      have doat := fun x => (oat.later (v := v) (T := []) (by first | (simp; done) | (simp; omega)) x).cell
                      repeat (go_big_quiet_step (fail))
                      refine wpQuiet_nil ?_
                      exact rfl
                    · intro f; kernel_rfl
                    · intro f f' hf; simp
                  simp only [List.take_succ_cons, List.take_zero, List.drop_succ_cons, List.drop_zero, Nat.reduceAdd, oneOp]
                  refine ⟨fun f => ⟨rfl, fun u hu _ => ?_⟩, ?_⟩
                  · refine make_call (f := 63) (args := #[vV p0 p1 p2, vV y0 y1 y2]) (by (try simp only [Act.put, List.setIfInBounds_toArray, List.set_cons_zero, List.set_cons_succ]); (try simp only [ownB_val]); go_simp) ?_
                    refine (ref25_Wrench p0 p1 p2 y0 y1 y2 _).mono ?_
                    rintro e wx ⟨g, rfl, hg1, hbx, hgo⟩
                    exact ⟨(g, 0), rfl, hg1, hgo.lt, hbx, by simp, by rw [HM.out] at hgo; exact hgo⟩
                  unfold genWalk
                  apply Exists.intro
                  apply And.intro
                  · apply Piece.mk
                    · intro f v hv hr hne
                      simp only [List.take_zero, List.drop_succ_cons, List.drop_zero, Nat.reduceSub]
                      (try simp only [Act.put, List.setIfInBounds_toArray, List.set_cons_zero, List.set_cons_succ])
                      (try simp only [ownB_val])
                      refine wpQuiet_nil ?_
                      exact rfl
                    · intro f; kernel_rfl
                    · intro f f' hf; simp
                  intro f u' hup hp hmade hdist
                  obtain ⟨⟨hT1, h21⟩, hlo1, hhi1⟩ := hmade 10 (by omega) rfl
                  obtain ⟨⟨hT2, h22⟩, hlo2, hhi2⟩ := hmade 13 (by omega) rfl
                  simp only
                  (try simp only [Act.put, List.setIfInBounds_toArray, List.set_cons_zero, List.set_cons_succ])
                  (try simp only [ownB_val])
                  have hra := reads_own (n := 6) (zs := fun i => ([y0, y1, y2, m0, m1, m2] : List Int).getD i 0) (show Own u' (f 10).1 (([y0, y1, y2, m0, m1, m2] : List Int).map (Value.int .i64)).toArray from h21) (cells_ints [y0, y1, y2, m0, m1, m2])
                  have hrb := reads_own (n := 6) (zs := fun i => ([y0, y1, y2, m0, m1, m2] : List Int).getD i 0) (show Own u' (f 13).1 (([y0, y1, y2, m0, m1, m2] : List Int).map (Value.int .i64)).toArray from h22) (cells_ints [y0, y1, y2, m0, m1, m2])
                  clear hmade hdist h21 h22 hT1 hT2 hp
                  replace of := of.upd hup (by simp)
                  replace oat := oat.upd hup (by simp)
                  replace os := os.upd hup (by simp)
                  replace ox := ox.upd hup (by simp)
                  replace ov := ov.upd hup (by simp)
                  replace oy := oy.upd hup (by simp)
                  replace hw : Below w.heap.size w u' := Upd.below hw hup (by simp)
                  refine effc_mem (by rfl) (fun K hK => ?_)
                  go_simp
                  refine (ref4_SameInts (some ⟨(f 10).1, 0, none⟩) (some ⟨(f 13).1, 0, none⟩) 6 6 6 (fun i => ([y0, y1, y2, m0, m1, m2] : List Int).getD i 0) _ (by omega) hra hrb).mono ?_
                  rintro e wx ⟨rfl, hbx⟩
                  refine ⟨_, rfl, hK _ _ ((Upd.keeps (Keeps.refl _ _) hup).later hbx) (fun u2 hu2 => ?_)⟩
                  clear hK K hra hrb
                  replace hw := Below.hop (Below.hop hw hbx) hu2
                  have hk := ((Upd.keeps (Keeps.refl _ _) hup).later hbx).later hu2
                  replace of := (of.below hbx).below hu2
                  replace oat := (oat.below hbx).below hu2
                  replace os := (os.below hbx).below hu2
                  replace ox := (ox.below hbx).below hu2
                  replace ov := (ov.below hbx).below hu2
                  replace oy := (oy.below hbx).below hu2
                  clear hup hbx hu2
                  refine effc_mem (by rfl) (fun K hK => ?_)
                  go_simp
                  refine hK _ _ hk (fun u3 hu => ?_)
                  clear hK K
                  replace hw := Below.hop hw hu
                  replace hk := hk.later hu
                  replace of := of.below hu
                  replace oat := oat.below hu
                  replace os := os.below hu
                  replace ox := ox.below hu
                  replace ov := ov.below hu
                  replace oy := oy.below hu
                  clear hu
                  refine effc_mem (by rfl) (fun K hK => ?_)
                  go_simp
                  refine hK _ _ hk (fun u4 hu => ?_)
                  clear hK K
                  replace hw := Below.hop hw hu
                  replace hk := hk.later hu
                  replace of := of.below hu
                  replace oat := oat.below hu
                  replace os := os.below hu
                  replace ox := ox.below hu
                  replace ov := ov.below hu
                  replace oy := oy.below hu
                  clear hu
                  clear hk
                  refine effc_nil ?_
                  (try simp only [Act.put, List.setIfInBounds_toArray, List.set_cons_zero, List.set_cons_succ])
                  replace ofc := of.cell
                  replace off := of.thaw
                  replace ofz := of.lt
                  replace oatc := oat.cell
                  replace oatf := oat.thaw
                  replace oatz := oat.lt
                  replace osc := os.cell
                  replace osf := os.thaw
                  replace osz := os.lt
                  replace oxc := ox.cell
                  replace oxf := ox.thaw
                  replace oxz := ox.lt
                  replace ovc := ov.cell
                  replace ovf := ov.thaw
                  replace ovz := ov.lt
                  replace oyc := oy.cell
                  replace oyf := oy.thaw
                  replace oyz := oy.lt
                  replace hz := hw.size
                  clear hlo1 hhi1 hlo2 hhi2
                  generalize (f 10).1 = ga at *
                  generalize (f 13).1 = gb at *
                  clear f
                  go_wp2
                  go_roundw
                  case rel => exact ⟨k2 + 1, by omega, by go_num, hw, of, oat, os, ox, ov⟩
                  case measure => simp [intOf]; omega
                · obtain rfl : k2 = 5 := by omega
                  go_wp2
                  go_roundw
                  case rel => exact ⟨k + 1, by omega, by go_num, hw, of, oat, os⟩
                  case measure => simp [intOf]; omega
        · obtain ⟨len, hlen⟩ : ∃ n, LX.length = n := ⟨_, rfl⟩
          have hpos : 0 < len := by rw [← hlen]; exact List.length_pos_iff.2 hne
          have hle : len ≤ 1000 := by rw [← hlen, ← HLX.out]; exact coneL_len _
          have HLN := Lib.hid hlen
          clear hlen hne
          refine region_gen (T := []) [.make 7 [] (rdB [] len (fun i => (flatI LX).getD i 0)), .make 9 [] (rdB [] len (fun i => (flatI LX).getD i 0))] 10 0 30 (fun _ _ => True) (fun _ _ _ _ _ => trivial) trivial (by kernel_rfl) (by kernel_rfl) (by rfl) ?_
          unfold genWalk
          apply Exists.intro
          apply And.intro
          · apply Piece.mk
            · intro f v hv hr hne
              simp only [List.take_succ_cons, List.take_zero, List.drop_zero, Nat.reduceSub]
              have dox := fun x => (ox.later (v := v) (T := []) (by first | (simp; done) | (simp; omega)) x).cell
              repeat (go_big_quiet_step ((first | (go_at_call 52; with_reducible exact lateB (callv (contact_Check _ _ _ _ _ _ _ _ _) HCK.out)) | (go_at_call 53; with_reducible exact lateB (callv (ref25_Check _ _ _ _ _ _ _ _ _) HCK.out)))))
              refine wpQuiet_nil ?_
              exact rfl
            · intro f; kernel_rfl
            · intro f f' hf; kernel_rfl
          simp only [List.take_succ_cons, List.take_zero, List.drop_succ_cons, List.drop_zero, Nat.reduceAdd, oneOp]
          refine ⟨fun f => ⟨rfl, fun u hu _ => ?_⟩, ?_⟩
          · exact make_call (f := 55) (args := #[Ct.v ⟨⟨x0, x1, x2⟩, ⟨xn0, xn1, xn2⟩, xm, xd⟩]) (by (try simp only [Act.put, List.setIfInBounds_toArray, List.set_cons_zero, List.set_cons_succ]); (try simp only [rdB_val]); go_simp) (cone_make (c := ⟨⟨x0, x1, x2⟩, ⟨xn0, xn1, xn2⟩, xm, xd⟩) contact_Cone HLX.out HLN.out hpos _)
          unfold genWalk
          apply Exists.intro
          apply And.intro
          · apply Piece.mk
            · intro f v hv hr hne
              simp only [List.take_succ_cons, List.take_zero, List.drop_succ_cons, List.drop_zero, Nat.reduceSub]
              (try simp only [Act.put, List.setIfInBounds_toArray, List.set_cons_zero, List.set_cons_succ])
              (try simp only [rdB_val])
              have dox := fun x => (ox.later (v := v) (T := []) (by first | (simp; done) | (simp; omega)) x).cell
              repeat (go_big_quiet_step (fail))
              refine wpQuiet_nil ?_
              exact rfl
            · intro f; kernel_rfl
            · intro f f' hf; simp
          simp only [List.take_succ_cons, List.take_zero, List.drop_succ_cons, List.drop_zero, Nat.reduceAdd, oneOp]
          refine ⟨fun f => ⟨rfl, fun u hu _ => ?_⟩, ?_⟩
          · exact make_call (f := 56) (args := #[Ct.v ⟨⟨x0, x1, x2⟩, ⟨xn0, xn1, xn2⟩, xm, xd⟩]) (by (try simp only [Act.put, List.setIfInBounds_toArray, List.set_cons_zero, List.set_cons_succ]); (try simp only [rdB_val]); go_simp) (cone_make (c := ⟨⟨x0, x1, x2⟩, ⟨xn0, xn1, xn2⟩, xm, xd⟩) ref25_Cone HLX.out HLN.out hpos _)
          unfold genWalk
          apply Exists.intro
          apply And.intro
          · apply Piece.mk
            · intro f v hv hr hne
              simp only [List.take_zero, List.drop_succ_cons, List.drop_zero, Nat.reduceSub]
              (try simp only [Act.put, List.setIfInBounds_toArray, List.set_cons_zero, List.set_cons_succ])
              (try simp only [rdB_val])
              refine wpQuiet_nil ?_
              exact rfl
            · intro f; kernel_rfl
            · intro f f' hf; simp
          intro f u' hup hp hmade hdist
          obtain ⟨⟨hT1, hra⟩, hlo1, hhi1⟩ := hmade 7 (by omega) rfl
          obtain ⟨⟨hT2, hrb⟩, hlo2, hhi2⟩ := hmade 9 (by omega) rfl
          simp only
          (try simp only [Act.put, List.setIfInBounds_toArray, List.set_cons_zero, List.set_cons_succ])
          (try simp only [rdB_val])
          clear hmade hdist hT1 hT2 hp
          replace of := of.upd hup (by simp)
          replace oat := oat.upd hup (by simp)
          replace os := os.upd hup (by simp)
          replace ox := ox.upd hup (by simp)
          replace hw : Below w.heap.size w u' := Upd.below hw hup (by simp)
          refine effc_mem (by rfl) (fun K hK => ?_)
          go_simp
          refine (ref25_SameVecs (some ⟨(f 7).1, 0, none⟩) (some ⟨(f 9).1, 0, none⟩) len (f 7).2 (f 9).2 (fun i => (flatI LX).getD i 0) _ hle hra hrb).mono ?_
          rintro e wx ⟨rfl, hbx⟩
          refine ⟨_, rfl, hK _ _ ((Upd.keeps (Keeps.refl _ _) hup).later hbx) (fun u2 hu2 => ?_)⟩
          clear hK K hra hrb
          replace hw := Below.hop (Below.hop hw hbx) hu2
          have hk := ((Upd.keeps (Keeps.refl _ _) hup).later hbx).later hu2
          replace of := (of.below hbx).below hu2
          replace oat := (oat.below hbx).below hu2
          replace os := (os.below hbx).below hu2
          replace ox := (ox.below hbx).below hu2
          clear hup hbx hu2
          refine effc_mem (by rfl) (fun K hK => ?_)
          go_simp
          refine hK _ _ hk (fun u3 hu => ?_)
          clear hK K
          replace hw := Below.hop hw hu
          replace hk := hk.later hu
          replace of := of.below hu
          replace oat := oat.below hu
          replace os := os.below hu
          replace ox := ox.below hu
          clear hu
          refine effc_mem (by rfl) (fun K hK => ?_)
          go_simp
          refine hK _ _ hk (fun u4 hu => ?_)
          clear hK K
          replace hw := Below.hop hw hu
          replace hk := hk.later hu
          replace of := of.below hu
          replace oat := oat.below hu
          replace os := os.below hu
          replace ox := ox.below hu
          clear hu
          clear hk
          refine effc_nil ?_
          (try simp only [Act.put, List.setIfInBounds_toArray, List.set_cons_zero, List.set_cons_succ])
          replace ofc := of.cell
          replace off := of.thaw
          replace ofz := of.lt
          replace oatc := oat.cell
          replace oatf := oat.thaw
          replace oatz := oat.lt
          replace osc := os.cell
          replace osf := os.thaw
          replace osz := os.lt
          replace oxc := ox.cell
          replace oxf := ox.thaw
          replace oxz := ox.lt
          replace hz := hw.size
          clear hlo1 hhi1 hlo2 hhi2
          generalize f 7 = ga at *
          generalize f 9 = gb at *
          clear f
          go_wp2
          refine region_mid 18 2 [] (by kernel_rfl) (by kernel_rfl) (by rfl) ?_
          apply Exists.intro
          refine ⟨fun v hv hne => ?_, fun ub hu => ?_⟩
          · simp only [List.take_succ_cons, List.take_zero, List.drop_succ_cons, List.drop_zero, Nat.reduceAdd, List.cons_append, List.nil_append]
            have dof := fun x => (of.later (v := v) (T := []) (by first | (simp; done) | (simp; omega)) x).cell
            have doat := fun x => (oat.later (v := v) (T := []) (by first | (simp; done) | (simp; omega)) x).cell
            have dos := fun x => (os.later (v := v) (T := []) (by first | (simp; done) | (simp; omega)) x).cell
            have dox := fun x => (ox.later (v := v) (T := []) (by first | (simp; done) | (simp; omega)) x).cell
            repeat (go_big_quiet_step ((first | (go_at_call 57; with_reducible exact lateB (callv (law25_small _ _ _ _) HSM.out)) | (go_at_call 58; with_reducible exact lateB (law25_vec _ _ _ _)))))
            refine wpQuiet_nil ?_
            exact rfl
          · simp only [List.drop_succ_cons, List.drop_zero]
            refine late_mem (fun K hK => ?_)
            go_simp
            refine hK _ _ ((Keeps.of_below hu).alloc _) (fun ub2 hu2 => ?_)
            clear hK K
            have hk : Keeps [] u4 ub2 := ((Keeps.of_below (T := []) hu).alloc _).later hu2
            have ov : Own ub2 ub.heap.size #[.int .i64 f0, .int .i64 f1, .int .i64 f2, .int .i64 s0, .int .i64 s1, .int .i64 s2, .int .i64 (f0.tmod 4), .int .i64 (f1.tmod 4), .int .i64 (f2.tmod 9), .int .i64 2147483648, .int .i64 0, .int .i64 (f2.tmod 9), .int .i64 0, .int .i64 (-2147483648), .int .i64 2147483648] := Own.below (Own.new rfl) hu2
            have ovg : u4.heap.size ≤ ub.heap.size := hu.size
            replace hw := Below.hop ((Below.hop hw hu).alloc (by have := hw.size; have := hu.size; omega) _) hu2
            have ovy : w.heap.size ≤ ub.heap.size := by omega
            clear hu hu2
            refine late_mem (fun K hK => ?_)
            go_simp
            refine hK _ _ hk (fun ub3 hu3 => ?_)
            clear hK K
            replace ov := ov.below hu3
            replace hw := Below.hop hw hu3
            replace hk := hk.later hu3
            clear hu3
            replace of : Own ub3 (w.heap.size + 1 + 1) #[.int .i64 f0, .int .i64 f1, .int .i64 f2] := of.keeps hk (by simp)
            replace oat : Own ub3 (w.heap.size + 1 + 1 + 1) #[.int .i64 p0, .int .i64 p1, .int .i64 p2] := oat.keeps hk (by simp)
            replace os : Own ub3 (osb) ck := os.keeps hk (by simp)
            replace ox : Own ub3 (oxb) #[.int .i64 x0, .int .i64 x1, .int .i64 x2, .int .i64 xn0, .int .i64 xn1, .int .i64 xn2, .int .i64 xm, .int .i64 xd] := ox.keeps hk (by simp)
            refine late_nil ?_
            (try simp only [Act.put, List.setIfInBounds_toArray, List.set_cons_zero, List.set_cons_succ])
            clear hk
            generalize ub.heap.size = ovb at *
            replace hz := hw.size
            replace ofc := of.cell
            replace off := of.thaw
            replace ofz := of.lt
            replace oatc := oat.cell
            replace oatf := oat.thaw
            replace oatz := oat.lt
            replace osc := os.cell
            replace osf := os.thaw
            replace osz := os.lt
            replace oxc := ox.cell
            replace oxf := ox.thaw
            replace oxz := ox.lt
            replace ovc := ov.cell
            replace ovf := ov.thaw
            replace ovz := ov.lt
            obtain ⟨cv, hcv, hvi⟩ : ∃ cv : Array Value, Own ub3 ovb cv ∧ ∀ i, i < 15 → ∃ m, cv[i]? = some (.int .i64 m) := ⟨_, ov, fun i hi => rowSome [f0, f1, f2, s0, s1, s2, (f0.tmod 4), (f1.tmod 4), (f2.tmod 9), 2147483648, 0, (f2.tmod 9), 0, (-2147483648), 2147483648] i hi⟩
            have HVI := Lib.hid hvi
            clear hvi
            clear ovc ovf ovz ov
            have ov := hcv
            clear hcv
            have ovc := ov.cell
            have ovf := ov.thaw
            have ovz := ov.lt
            go_wp2
            go_loopw [71] (fun i wr => ∃ k2 : Nat, k2 ≤ 5 ∧ i = .int .i64 k2 ∧ Below w.heap.size w wr ∧ Own wr (w.heap.size + 1 + 1) #[.int .i64 f0, .int .i64 f1, .int .i64 f2] ∧ Own wr (w.heap.size + 1 + 1 + 1) #[.int .i64 p0, .int .i64 p1, .int .i64 p2] ∧ Own wr (osb) ck ∧ Own wr (oxb) #[.int .i64 x0, .int .i64 x1, .int .i64 x2, .int .i64 xn0, .int .i64 xn1, .int .i64 xn2, .int .i64 xm, .int .i64 xd] ∧ Own wr (ovb) cv) (fun i _ => 5 - (intOf i).toNat)
            case atStart => exact ⟨0, by omega, rfl, hw, of, oat, os, ox, ov⟩
            case round =>
              clear hw hz of ofc off ofz oat oatc oatf oatz os osc osf osz ox oxc oxf oxz ov ovc ovf ovz
              obtain ⟨k2, hk, rfl, hw, of, oat, os, ox, ov⟩ := hrel
              have hz := hw.size
              have ofc := of.cell
              have off := of.thaw
              have ofz := of.lt
              have oatc := oat.cell
              have oatf := oat.thaw
              have oatz := oat.lt
              have osc := os.cell
              have osf := os.thaw
              have osz := os.lt
              have oxc := ox.cell
              have oxf := ox.thaw
              have oxz := ox.lt
              have ovc := ov.cell
              have ovf := ov.thaw
              have ovz := ov.lt
              by_cases hlt : k2 < 5
              · have hlt3 : (k2 : Int) < 5 := by omega
                obtain ⟨y0, e0⟩ := HVI.out (k2 * 3) (by omega)
                obtain ⟨y1, e1⟩ := HVI.out (k2 * 3 + 1) (by omega)
                obtain ⟨y2, e2⟩ := HVI.out (k2 * 3 + 2) (by omega)
                go_wp2
                have oy : Own (wr.alloc (.cells #[.int .i64 y0, .int .i64 y1, .int .i64 y2] 24)) (wr.heap.size) #[.int .i64 y0, .int .i64 y1, .int .i64 y2] := Own.new rfl
                replace of : Own (wr.alloc (.cells #[.int .i64 y0, .int .i64 y1, .int .i64 y2] 24)) (w.heap.size + 1 + 1) #[.int .i64 f0, .int .i64 f1, .int .i64 f2] := (by repeat' (first | ((refine Own.new ?_); (focus (first | rfl | omega | (simp; done) | (simp; omega)))) | assumption | refine Own.alloc ?_ _ | refine Own.drew ?_ | (refine Own.far ?_ ?_ _; rotate_left; (focus (first | rfl | omega | (simp; done) | (simp; omega))))))
                clear ofc off ofz
                replace oat : Own (wr.alloc (.cells #[.int .i64 y0, .int .i64 y1, .int .i64 y2] 24)) (w.heap.size + 1 + 1 + 1) #[.int .i64 p0, .int .i64 p1, .int .i64 p2] := (by repeat' (first | ((refine Own.new ?_); (focus (first | rfl | omega | (simp; done) | (simp; omega)))) | assumption | refine Own.alloc ?_ _ | refine Own.drew ?_ | (refine Own.far ?_ ?_ _; rotate_left; (focus (first | rfl | omega | (simp; done) | (simp; omega))))))
                clear oatc oatf oatz
                replace os : Own (wr.alloc (.cells #[.int .i64 y0, .int .i64 y1, .int .i64 y2] 24)) (osb) ck := (by repeat' (first | ((refine Own.new ?_); (focus (first | rfl | omega | (simp; done) | (simp; omega)))) | assumption | refine Own.alloc ?_ _ | refine Own.drew ?_ | (refine Own.far ?_ ?_ _; rotate_left; (focus (first | rfl | omega | (simp; done) | (simp; omega))))))
                clear osc osf osz
                replace ox : Own (wr.alloc (.cells #[.int .i64 y0, .int .i64 y1, .int .i64 y2] 24)) (oxb) #[.int .i64 x0, .int .i64 x1, .int .i64 x2, .int .i64 xn0, .int .i64 xn1, .int .i64 xn2, .int .i64 xm, .int .i64 xd] := (by repeat' (first | ((refine Own.new ?_); (focus (first | rfl | omega | (simp; done) | (simp; omega)))) | assumption | refine Own.alloc ?_ _ | refine Own.drew ?_ | (refine Own.far ?_ ?_ _; rotate_left; (focus (first | rfl | omega | (simp; done) | (simp; omega))))))
                clear oxc oxf oxz
                replace ov : Own (wr.alloc (.cells #[.int .i64 y0, .int .i64 y1, .int .i64 y2] 24)) (ovb) cv := (by repeat' (first | ((refine Own.new ?_); (focus (first | rfl | omega | (simp; done) | (simp; omega)))) | assumption | refine Own.alloc ?_ _ | refine Own.drew ?_ | (refine Own.far ?_ ?_ _; rotate_left; (focus (first | rfl | omega | (simp; done) | (simp; omega))))))
                clear ovc ovf ovz
                replace hw : Below w.heap.size w (wr.alloc (.cells #[.int .i64 y0, .int .i64 y1, .int .i64 y2] 24)) := (by repeat' (first | exact Below.refl _ _ | assumption | (refine Below.alloc ?_ ?_ _; rotate_left; (focus (first | rfl | omega | (simp; done) | (simp; omega)))) | (refine Below.setCell ?_ ?_ _; rotate_left; (focus (first | rfl | omega | (simp; done) | (simp; omega)))) | refine Below.drew ?_))
                generalize wr.alloc (.cells #[.int .i64 y0, .int .i64 y1, .int .i64 y2] 24) = wy at *
                have ofc := of.cell
                have off := of.thaw
                have ofz := of.lt
                have oatc := oat.cell
                have oatf := oat.thaw
                have oatz := oat.lt
                have osc := os.cell
                have osf := os.thaw
                have osz := os.lt
                have oxc := ox.cell
                have oxf := ox.thaw
                have oxz := ox.lt
                have ovc := ov.cell
                have ovf := ov.thaw
                have ovz := ov.lt
                have oyc := oy.cell
                have oyf := oy.thaw
                have oyz := oy.lt
                replace hz := hw.size
                clear e0 e1 e2
                generalize wr.heap.size = oyb at *
                obtain ⟨hb, hhb⟩ : ∃ b, cHas ⟨⟨x0, x1, x2⟩, ⟨xn0, xn1, xn2⟩, xm, xd⟩ ⟨y0, y1, y2⟩ = b := ⟨_, rfl⟩
                have HHB := Lib.hid (congrArg Value.bool hhb)
                clear hhb
                obtain ⟨⟨m0, m1, m2⟩, hM⟩ : ∃ M, vCross ⟨p0, p1, p2⟩ ⟨y0, y1, y2⟩ = M := ⟨_, rfl⟩
                have HM := Lib.hid hM
                clear hM
                refine region_gen (T := []) [.make 10 [] (ownB [] #[.int .i64 y0, .int .i64 y1, .int .i64 y2, .int .i64 m0, .int .i64 m1, .int .i64 m2] (fun p => .slice (some ⟨p, 0, none⟩) 6 6)), .make 13 [] (ownB [] #[.int .i64 y0, .int .i64 y1, .int .i64 y2, .int .i64 m0, .int .i64 m1, .int .i64 m2] (fun p => .slice (some ⟨p, 0, none⟩) 6 6))] 14 0 30 (fun _ _ => True) (fun _ _ _ _ _ => trivial) trivial (by kernel_rfl) (by kernel_rfl) (by rfl) ?_
                unfold genWalk
                apply Exists.intro
                apply And.intro
                · apply Piece.mk
                  · intro f v hv hr hne
                    simp only [List.take_succ_cons, List.take_zero, List.drop_zero, Nat.reduceSub]
                    have dox := fun x => (ox.later (v := v) (T := []) (by first | (simp; done) | (simp; omega)) x).cell
                    have doy := fun x => (oy.later (v := v) (T := []) (by first | (simp; done) | (simp; omega)) x).cell
                    have doat := fun x => (oat.later (v := v) (T := []) (by first | (simp; done) | (simp; omega)) x).cell
                    repeat (go_big_quiet_step ((first | (go_at_call 59; with_reducible exact lateB (callv (contact_Has _ _ _ _ _ _ _ _ _ _ _ _) HHB.out)) | (go_at_call 60; with_reducible exact lateB (callv (ref25_Has _ _ _ _ _ _ _ _ _ _ _ _) HHB.out)))))
                    refine wpQuiet_nil ?_
                    exact rfl
                  · intro f; kernel_rfl
                  · intro f f' hf; kernel_rfl
                simp only [List.take_succ_cons, List.take_zero, List.drop_succ_cons, List.drop_zero, Nat.reduceAdd, oneOp]
                refine ⟨fun f => ⟨rfl, fun u hu _ => ?_⟩, ?_⟩
                · refine make_call (f := 62) (args := #[vV p0 p1 p2, vV y0 y1 y2]) (by (try simp only [Act.put, List.setIfInBounds_toArray, List.set_cons_zero, List.set_cons_succ]); (try simp only [ownB_val]); go_simp) ?_
                  refine (contact_Wrench p0 p1 p2 y0 y1 y2 _).mono ?_
                  rintro e wx ⟨g, rfl, hg1, hbx, hgo⟩
                  exact ⟨(g, 0), rfl, hg1, hgo.lt, hbx, by simp, by rw [HM.out] at hgo; exact hgo⟩
                unfold genWalk
                apply Exists.intro
                apply And.intro
                · apply Piece.mk
                  · intro f v hv hr hne
                    simp only [List.take_succ_cons, List.take_zero, List.drop_succ_cons, List.drop_zero, Nat.reduceSub]
                    (try simp only [Act.put, List.setIfInBounds_toArray, List.set_cons_zero, List.set_cons_succ])
                    (try simp only [ownB_val])
                    have dox := fun x => (ox.later (v := v) (T := []) (by first | (simp; done) | (simp; omega)) x).cell
                    have doy := fun x => (oy.later (v := v) (T := []) (by first | (simp; done) | (simp; omega)) x).cell
                    have doat := fun x => (oat.later (v := v) (T := []) (by first | (simp; done) | (simp; omega)) x).cell
                    repeat (go_big_quiet_step (fail))
                    refine wpQuiet_nil ?_
                    exact rfl
                  · intro f; kernel_rfl
                  · intro f f' hf; simp
                simp only [List.take_succ_cons, List.take_zero, List.drop_succ_cons, List.drop_zero, Nat.reduceAdd, oneOp]
                refine ⟨fun f => ⟨rfl, fun u hu _ => ?_⟩, ?_⟩
                · refine make_call (f := 63) (args := #[vV p0 p1 p2, vV y0 y1 y2]) (by (try simp only [Act.put, List.setIfInBounds_toArray, List.set_cons_zero, List.set_cons_succ]); (try simp only [ownB_val]); go_simp) ?_
                  refine (ref25_Wrench p0 p1 p2 y0 y1 y2 _).mono ?_
                  rintro e wx ⟨g, rfl, hg1, hbx, hgo⟩
                  exact ⟨(g, 0), rfl, hg1, hgo.lt, hbx, by simp, by rw [HM.out] at hgo; exact hgo⟩
                unfold genWalk
                apply Exists.intro
                apply And.intro
                · apply Piece.mk
                  · intro f v hv hr hne
                    simp only [List.take_zero, List.drop_succ_cons, List.drop_zero, Nat.reduceSub]
                    (try simp only [Act.put, List.setIfInBounds_toArray, List.set_cons_zero, List.set_cons_succ])
                    (try simp only [ownB_val])
                    refine wpQuiet_nil ?_
                    exact rfl
                  · intro f; kernel_rfl
                  · intro f f' hf; simp
                intro f u' hup hp hmade hdist
                obtain ⟨⟨hT1, h21⟩, hlo1, hhi1⟩ := hmade 10 (by omega) rfl
                obtain ⟨⟨hT2, h22⟩, hlo2, hhi2⟩ := hmade 13 (by omega) rfl
                simp only
                (try simp only [Act.put, List.setIfInBounds_toArray, List.set_cons_zero, List.set_cons_succ])
                (try simp only [ownB_val])
                have hra := reads_own (n := 6) (zs := fun i => ([y0, y1, y2, m0, m1, m2] : List Int).getD i 0) (show Own u' (f 10).1 (([y0, y1, y2, m0, m1, m2] : List Int).map (Value.int .i64)).toArray from h21) (cells_ints [y0, y1, y2, m0, m1, m2])
                have hrb := reads_own (n := 6) (zs := fun i => ([y0, y1, y2, m0, m1, m2] : List Int).getD i 0) (show Own u' (f 13).1 (([y0, y1, y2, m0, m1, m2] : List Int).map (Value.int .i64)).toArray from h22) (cells_ints [y0, y1, y2, m0, m1, m2])
                clear hmade hdist h21 h22 hT1 hT2 hp
                replace of := of.upd hup (by simp)
                replace oat := oat.upd hup (by simp)
                replace os := os.upd hup (by simp)
                replace ox := ox.upd hup (by simp)
                replace ov := ov.upd hup (by simp)
                replace oy := oy.upd hup (by simp)
                replace hw : Below w.heap.size w u' := Upd.below hw hup (by simp)
                refine effc_mem (by rfl) (fun K hK => ?_)
                go_simp
                refine (ref4_SameInts (some ⟨(f 10).1, 0, none⟩) (some ⟨(f 13).1, 0, none⟩) 6 6 6 (fun i => ([y0, y1, y2, m0, m1, m2] : List Int).getD i 0) _ (by omega) hra hrb).mono ?_
                rintro e wx ⟨rfl, hbx⟩
                refine ⟨_, rfl, hK _ _ ((Upd.keeps (Keeps.refl _ _) hup).later hbx) (fun u2 hu2 => ?_)⟩
                clear hK K hra hrb
                replace hw := Below.hop (Below.hop hw hbx) hu2
                have hk := ((Upd.keeps (Keeps.refl _ _) hup).later hbx).later hu2
                replace of := (of.below hbx).below hu2
                replace oat := (oat.below hbx).below hu2
                replace os := (os.below hbx).below hu2
                replace ox := (ox.below hbx).below hu2
                replace ov := (ov.below hbx).below hu2
                replace oy := (oy.below hbx).below hu2
                clear hup hbx hu2
                refine effc_mem (by rfl) (fun K hK => ?_)
                go_simp
                refine hK _ _ hk (fun u3 hu => ?_)
                clear hK K
                replace hw := Below.hop hw hu
                replace hk := hk.later hu
                replace of := of.below hu
                replace oat := oat.below hu
                replace os := os.below hu
                replace ox := ox.below hu
                replace ov := ov.below hu
                replace oy := oy.below hu
                clear hu
                refine effc_mem (by rfl) (fun K hK => ?_)
                go_simp
                refine hK _ _ hk (fun u4 hu => ?_)
                clear hK K
                replace hw := Below.hop hw hu
                replace hk := hk.later hu
                replace of := of.below hu
                replace oat := oat.below hu
                replace os := os.below hu
                replace ox := ox.below hu
                replace ov := ov.below hu
                replace oy := oy.below hu
                clear hu
                clear hk
                refine effc_nil ?_
                (try simp only [Act.put, List.setIfInBounds_toArray, List.set_cons_zero, List.set_cons_succ])
                replace ofc := of.cell
                replace off := of.thaw
                replace ofz := of.lt
                replace oatc := oat.cell
                replace oatf := oat.thaw
                replace oatz := oat.lt
                replace osc := os.cell
                replace osf := os.thaw
                replace osz := os.lt
                replace oxc := ox.cell
                replace oxf := ox.thaw
                replace oxz := ox.lt
                replace ovc := ov.cell
                replace ovf := ov.thaw
                replace ovz := ov.lt
                replace oyc := oy.cell
                replace oyf := oy.thaw
                replace oyz := oy.lt
                replace hz := hw.size
                clear hlo1 hhi1 hlo2 hhi2
                generalize (f 10).1 = ga at *
                generalize (f 13).1 = gb at *
                clear f
                go_wp2
                go_roundw
                case rel => exact ⟨k2 + 1, by omega, by go_num, hw, of, oat, os, ox, ov⟩
                case measure => simp [intOf]; omega
              · obtain rfl : k2 = 5 := by omega
                go_wp2
                go_roundw
                case rel => exact ⟨k + 1, by omega, by go_num, hw, of, oat, os⟩
                case measure => simp [intOf]; omega
      · obtain rfl : k = 4 := by omega
        go_wp2
        go_ret
        exact ⟨rfl, hw⟩
end Go.Proofs.Ythijnggeoinlfaa
