/- One step of a long division: the plain law. No program in sight. -/
import Derived.Test.YtflgngjocgiojaaGreatNumE
import Derived.Test.YtflgngjocgiojaaGreatNumT
import Derived.Test.YtflgngjocgiojaaGreatLift
import Derived.Laws.CopyOwn
namespace Go.Proofs.YtflgngjocgiojaaGreat
open Go.RowKit
attribute [local go_sem] Oper.semAt_some

theorem OwnD.far {w : World} {b : Nat} {L : List Nat} (h : OwnD w b L) {p : Addr} (hp : b ≠ p.block) (x : Value) : OwnD (w.setCell p x) b L := Own.far h hp x
theorem drop_set {L : List Nat} {j d : Nat} (h : j < L.length) : (L.set j d).drop j = d :: L.drop (j + 1) := by
 rw [List.drop_eq_getElem_cons (by rw [List.length_set]; exact h), List.getElem_set_self, List.drop_set_of_lt (by omega)]
theorem boxB {w w' : World} {b : Nat} {t : TypeId} {v : Value} (h : Boxed w b t v) (hb : Below w.heap.size w w') : Boxed w' b t v := (hb.block b h.lt).trans h
theorem boxF {w : World} {b : Nat} {t : TypeId} {v : Value} (h : Boxed w b t v) {p : Addr} (hp : b ≠ p.block) (x : Value) : Boxed (w.setCell p x) b t v := (Below.heap_setCell w p x b hp).trans h
theorem ownD_lt {w : World} {b : Nat} {L : List Nat} (h : OwnD w b L) : b < w.heap.size := Own.lt h
set_option maxRecDepth 100000 in
set_option maxHeartbeats 4000000 in
theorem mag_small {w : World} {A : Option Addr} {n : Nat} {D : List Nat} (c o : Nat) (hv : DigsAt w A n D) (hn : n ≤ 1000) (hc1 : n ≤ c) (hc2 : c ≤ 9223372036854775807) (ho0 : 0 < o) (ho1 : o < 4294967296) :
  Calls Tryz.prog 106 #[.slice A n c, .int .u32 o] w fun r w' => (∃ v, r = .returned (.tuple #[v, .int .u32 (vD D % o : Nat)]) ∧ SlD w' v (vD D / o)) ∧ Below w.heap.size w w' := by
 have hl := hv.len
 have HV := Lib.hid hv
 have HL := Lib.hid hl
 have HA := Lib.hid hv.under
 clear hv hl
 have hmi : (n : Int) ≤ 1000 := by omega
 have hoi : (o : Int) < 4294967296 := by omega
 have hmk := fun w => make_mag n (by omega) w
 refine (callsIn_wide (n := 5)).1 ?_
 refine callsIn_of_wp_marks Tryz.func106 rfl trivial ?_ rfl
 simp only [Tryz.ntmps106, List.size_toArray, List.length_cons, List.length_nil, Nat.reduceAdd, Nat.reduceSub, Array.replicate_succ, Array.replicate_zero, List.push_toArray, List.append_toArray, List.nil_append, List.cons_append]
 gi_wp2_with fail
 refine ⟨trivial, (callsIn_wide.2 (mag_down A n c _)).mono ?_⟩
 rintro e w2 ⟨rfl, rfl⟩
 gi_wp2
 have bO := ((((Boxed.new w 97 (.int .u32 (o : Nat))).alloc (.cells (encU (List.replicate n 0)) 97)).alloc (.cells #[.slice (some ⟨w.heap.size + 1, 0, none⟩) n n] 99)).alloc (.cells #[.int .u32 0] 97)).alloc (.cells #[.slice A n c] 99)
 have bQ := (((OwnD.new (w := w.alloc (.cells #[.int .u32 (o : Nat)] 97)) (List.replicate n 0) 97).alloc (.cells #[.slice (some ⟨w.heap.size + 1, 0, none⟩) n n] 99)).alloc (.cells #[.int .u32 0] 97)).alloc (.cells #[.slice A n c] 99)
 have bS := ((Boxed.new ((w.alloc (.cells #[.int .u32 (o : Nat)] 97)).alloc (.cells (encU (List.replicate n 0)) 97)) 99 (.slice (some ⟨w.heap.size + 1, 0, none⟩) n n)).alloc (.cells #[.int .u32 0] 97)).alloc (.cells #[.slice A n c] 99)
 have bR := (Boxed.new (((w.alloc (.cells #[.int .u32 (o : Nat)] 97)).alloc (.cells (encU (List.replicate n 0)) 97)).alloc (.cells #[.slice (some ⟨w.heap.size + 1, 0, none⟩) n n] 99)) 97 (.int .u32 0)).alloc (.cells #[.slice A n c] 99)
 have bN := Boxed.new ((((w.alloc (.cells #[.int .u32 (o : Nat)] 97)).alloc (.cells (encU (List.replicate n 0)) 97)).alloc (.cells #[.slice (some ⟨w.heap.size + 1, 0, none⟩) n n] 99)).alloc (.cells #[.int .u32 0] 97)) 99 (.slice A n c)
 simp only [World.size_alloc] at bQ bS bR bN
 have hB0 : Below w.heap.size w (((((w.alloc (.cells #[.int .u32 (o : Nat)] 97)).alloc (.cells (encU (List.replicate n 0)) 97)).alloc (.cells #[.slice (some ⟨w.heap.size + 1, 0, none⟩) n n] 99)).alloc (.cells #[.int .u32 0] 97)).alloc (.cells #[.slice A n c] 99)) := (((((Below.refl _ _).alloc (Nat.le_refl _) _).alloc (by simp) _).alloc (by simp; omega) _).alloc (by simp; omega) _).alloc (by simp; omega) _
 have hsz : (((((w.alloc (.cells #[.int .u32 (o : Nat)] 97)).alloc (.cells (encU (List.replicate n 0)) 97)).alloc (.cells #[.slice (some ⟨w.heap.size + 1, 0, none⟩) n n] 99)).alloc (.cells #[.int .u32 0] 97)).alloc (.cells #[.slice A n c] 99)).heap.size = w.heap.size + 1 + 1 + 1 + 1 + 1 := by simp
 have hv1 := HV.out.below hB0
 generalize (((((w.alloc (.cells #[.int .u32 (o : Nat)] 97)).alloc (.cells (encU (List.replicate n 0)) 97)).alloc (.cells #[.slice (some ⟨w.heap.size + 1, 0, none⟩) n n] 99)).alloc (.cells #[.int .u32 0] 97)).alloc (.cells #[.slice A n c] 99)) = W0 at *
 clear hmk
 have hdg := hv1.dg
 have hseq := down_fix (5 - 1) (w.heap.size + 1 + 1 + 1 + 1) n c (by omega) A D W0 bN hv1 hn hc1 hc2
 clear HV
 refine wpIn_rangeFunc_ownH rfl (by omega) (gf := 132) (lb := #[.pointer (some ⟨w.heap.size + 1 + 1 + 1 + 1, 0, none⟩)]) rfl trivial (enters_of Tryz.func132 (by kernel_rfl) rfl)
  hseq (fun h k x => k (h x)) (fun W l o o' hl ho hc _ h => ⟨box_put h.1 (by omega), digs_put h.2 ho hc⟩) (Below.refl _ _) (fun _ => rfl)
  (fun pre W => ∃ (r : Nat) (L : List Nat), Boxed W w.heap.size 97 (.int .u32 (o : Nat)) ∧ OwnD W (w.heap.size + 1) L ∧ Boxed W (w.heap.size + 1 + 1) 99 (.slice (some ⟨w.heap.size + 1, 0, none⟩) n n) ∧ Boxed W (w.heap.size + 1 + 1 + 1) 97 (.int .u32 (r : Nat)) ∧ r < o ∧ L.length = n ∧ Dg L ∧
   (∀ j, pre.map Fin.val ++ dn j = dn n → vD (D.drop j) = vD (L.drop j) * o + r) ∧ Below w.heap.size w W)
  (fun _ _ _ => False)
  (fun _ _ _ _ ⟨r, L, h1, h2, h3, h4, h5, h6, h7, h8, h9⟩ hg hr => ⟨r, L, boxed_own' () _ _ _ h1 hg hr, own_own () _ _ _ h2 hg hr, boxed_own' () _ _ _ h3 hg hr, boxed_own' () _ _ _ h4 hg hr, h5, h6, h7, h8, ownFrom_below (Nat.le_refl _) (by omega) () _ _ _ h9 hg hr⟩)
  (fun _ _ _ _ _ h _ _ => h)
  ⟨0, List.replicate n 0, bO, bQ, bS, bR, ho0, List.length_replicate, Dg.zeros _, (fun j hj => by
   have e : j = n := by
    have := congrArg List.length hj
    rw [List.map_nil, List.nil_append, dn_len, dn_len] at this
    exact this
   rw [e, List.drop_of_length_le (by rw [HL.out]; exact Nat.le_refl _), List.drop_of_length_le (by rw [List.length_replicate]; exact Nat.le_refl _)]; simp [vD_nil]), hB0⟩
  (fun x a' W => a' = { tmps := #[.slice A n c, .int .u32 (o : Nat), undef, .pointer (some ⟨w.heap.size, 0, none⟩), .slice none 0 0, .int .u32 0, .pointer (some ⟨w.heap.size + 1 + 1, 0, none⟩), .pointer (some ⟨w.heap.size + 1 + 1 + 1, 0, none⟩), .int .i64 (x.val : Nat), .int .u32 (dAt D x.val : Nat), .slice A n c, .int .i64 (n : Nat), .slice (some ⟨w.heap.size + 1, 0, none⟩) n n, .slice A n c, .func (.func 132) #[] #[.pointer (some ⟨w.heap.size + 1 + 1 + 1 + 1, 0, none⟩)], .int .i64 (x.val : Nat), .int .u32 (dAt D x.val : Nat), undef, undef, undef, undef, undef, undef, undef, undef, undef, undef, undef, undef, undef], defers := [] })
  (fun x a' _ X Y row hs hg hr => hs)
  ?assign ?body ?done ?stop
 case assign =>
  rintro l pre x W K ⟨r, L, h1, h2, h3, h4, h5, h6, h7, h8, h9⟩ hK
  gi_wp2
  exact hK _ _ ((KeepsOthers.refl _).from _) (fun h => h) ⟨r, L, h1, h2, h3, h4, h5, h6, h7, h8, h9⟩ rfl
 case body =>
  rintro l pre x a' W hl ⟨_, _⟩ ⟨r, L, h1, h2, h3, h4, h5, h6, h7, h8, h9⟩ rfl hlt
  have HX := Lib.hid x.isLt
  obtain ⟨d, hd⟩ : ∃ d, dAt D x.val = d := ⟨_, rfl⟩
  have hd1 : d < 4294967296 := by rw [← hd]; exact hdg.at_ _
  rw [hd]
  obtain ⟨k, hk⟩ : ∃ k, x.val = k := ⟨_, rfl⟩
  rw [hk] at HX hd ⊢
  have hkn : (k : Int) < (n : Int) := by have := HX.out; omega
  have hkn2 : k < n := HX.out
  obtain ⟨q, hq⟩ : ∃ q, (r * 4294967296 + d) / o = q := ⟨_, rfl⟩
  obtain ⟨e, he⟩ : ∃ e, (r * 4294967296 + d) % o = e := ⟨_, rfl⟩
  have hdiv := fun W => bits_Div32 r d o h5 hd1 ho1 W
  rw [hq, he] at hdiv
  have hq1 : q < 4294967296 := by rw [← hq]; exact (Nat.div_lt_iff_lt_mul ho0).2 (by have := Nat.mul_le_mul_right 4294967296 (show r + 1 ≤ o by omega); omega)
  have he1 : e < o := by rw [← he]; exact Nat.mod_lt _ ho0
  have HE : Hid (r * 4294967296 + d = q * o + e) := Lib.hid (by have := Nat.div_add_mod (r * 4294967296 + d) o; rw [hq, he] at this; rw [Nat.mul_comm q o]; exact this.symm)
  have HDIV := Lib.hid hdiv
  have HH := Lib.hid h8
  have HD := Lib.hid hd
  have HK := Lib.hid hk
  clear hdiv h8 hd hk hq he
  have z2 := ownD_lt h2
  have b2 := h9.size
  gi_wp2
  refine region_sink_round 10 [w.heap.size + 1] (by kernel_rfl) (by kernel_rfl) (by rfl) (by kernel_rfl) (by rintro ⟨_, _, h⟩; exact h) ?_
  apply Exists.intro
  refine ⟨fun v hv hne => ?_, fun u hu => ?_⟩
  ·simp only [List.take_succ_cons, List.take_zero]
   have d1 := fun y => ((box_own h1).later (v := v) (T := [w.heap.size + 1]) (by first | (simp; done) | (simp; omega)) y).cell
   have d3 := fun y => ((box_own h3).later (v := v) (T := [w.heap.size + 1]) (by first | (simp; done) | (simp; omega)) y).cell
   have d4 := fun y => ((box_own h4).later (v := v) (T := [w.heap.size + 1]) (by first | (simp; done) | (simp; omega)) y).cell
   repeat (go_big_quiet_step ((go_at_call 130; with_reducible exact lateB (HDIV.out _))))
   refine wpQuiet_nil ?_
   exact rfl
  ·simp only [List.drop_succ_cons, List.drop_zero]
   have u1 := boxB h1 hu
   have u2 := OwnD.below h2 hu
   have u3 := boxB h3 hu
   have u4 := boxB h4 hu
   obtain ⟨z, hz⟩ : ∃ z, dAt L k = z := ⟨_, rfl⟩
   have c2 := u2.cell (by rw [h6]; exact hkn2) hz
   have f2 := Own.thaw u2
   have hbu := h9.trans (hu.mono b2)
   refine sink_mem (fun K hK => ?_)
   go_simp
   refine hK _ _ ((Keeps.of_below hu).set (by simp) _) (fun u5 hu5 => ?_)
   clear hK K
   have v2 := OwnD.below (u2.set (L' := L.set k q) rfl) hu5
   have v1 := boxB (boxF (p := ⟨w.heap.size + 1, k, none⟩) u1 (by simp) (.int .u32 (q : Nat))) hu5
   have v3 := boxB (boxF (p := ⟨w.heap.size + 1, k, none⟩) u3 (by simp) (.int .u32 (q : Nat))) hu5
   have v4 := boxB (boxF (p := ⟨w.heap.size + 1, k, none⟩) u4 (by simp; omega) (.int .u32 (q : Nat))) hu5
   have hbv : Below w.heap.size w u5 := (hbu.setCell (p := ⟨w.heap.size + 1, k, none⟩) (by simp) (.int .u32 (q : Nat))).trans (hu5.mono (by simp [World.setCell]; have := hu.size; omega))
   have hkp : ∀ X : World, Below W.heap.size W X → KeepsOthers W X := fun X hX => KeepsOthers.of_grownBy (below_grown hX) (fun _ _ e => by cases e)
   have hk1 : KeepsOthers W u5 := ((hkp u hu).trans (KeepsOthers.setCell u ⟨w.heap.size + 1, k, none⟩ (.int .u32 (q : Nat)))).trans (KeepsOthers.of_grownBy (below_grown hu5) (fun _ _ e => by cases e))
   have hA1 : ∀ Y : World, DigsAt Y A n D → ∀ p : Addr, w.heap.size ≤ p.block → DigsAt (Y.setCell p (.int .u32 (q : Nat))) A n D := fun Y h p hp => h.far (fun b off e h1 => by have := HA.out b off e h1; omega) _
   have hA2 : ∀ Y : World, DigsAt Y A n D → ∀ p : Addr, w.heap.size ≤ p.block → DigsAt (Y.setCell p (.int .u32 (e : Nat))) A n D := fun Y h p hp => h.far (fun b off e h1 => by have := HA.out b off e h1; omega) _
   have hG : Boxed W (w.heap.size + 1 + 1 + 1 + 1) 99 (.slice A n c) ∧ DigsAt W A n D → Boxed u5 (w.heap.size + 1 + 1 + 1 + 1) 99 (.slice A n c) ∧ DigsAt u5 A n D := fun h =>
    ⟨boxB (boxF (p := ⟨w.heap.size + 1, k, none⟩) (boxB h.1 hu) (by simp; omega) (.int .u32 (q : Nat))) hu5, (hA1 _ (h.2.below hu) ⟨w.heap.size + 1, k, none⟩ (by simp)).below hu5⟩
   have HG := Lib.hid hG
   have HK1 := Lib.hid hk1
   clear u1 u2 u3 u4 hG hk1 hbu c2 f2
   have c4 := v4.cell
   have f4 := v4.frozen
   refine sink_all (by kernel_rfl) (fun K hK => ?_)
   go_simp
   refine hK _ _ ?_
   clear hK K
   refine sink_nil ?_
   (try simp only [Act.put])
   gi_wp2
   refine ⟨(HK1.out.trans (KeepsOthers.setCell _ _ _)).from _, fun h => ⟨boxF (HG.out h).1 (by simp) _, hA2 _ (HG.out h).2 _ (by simp; omega)⟩, e, L.set k q, boxF v1 (by simp; omega) _, OwnD.far v2 (by simp) _, boxF v3 (by simp) _, v4.set _, he1, by rw [List.length_set]; exact h6, h7.set _ _ hq1, ?_, hbv.setCell (by simp; omega) _⟩
   intro j hj
   rw [List.map_append, List.map_cons, List.map_nil, HK.out] at hj
   obtain ⟨j1, rfl, j3⟩ := dn_step hj
   have hz := HH.out (k + 1) j1
   rw [drop_dAt (by rw [HL.out]; exact j3), drop_set (by rw [h6]; exact j3), vD_cons, vD_cons, HD.out, hz]
   have := HE.out
   grind
 case done =>
  rintro D' ys W hD hys ⟨r, L, h1, h2, h3, h4, h5, h6, h7, h8, h9⟩ hK
  have hv := h8 0 (by rw [hys]; exact List.append_nil _)
  rw [List.drop_zero, List.drop_zero] at hv
  obtain ⟨hq, hr⟩ := div_of hv h5
  have HQ := Lib.hid (And.intro hq hr)
  have hdig := h2.digs h7
  rw [h6] at hdig
  have HT := Lib.hid hdig
  have b2 := h9.size
  have hDl := (Array.getElem?_eq_some_iff.1 hK).1
  clear hv hq hr h8 hdig
  gi_wp2
  refine wpIn_wide.2 ?_
  refine region_late 5 [] (by kernel_rfl) (by kernel_rfl) (by rfl) ?_
  apply Exists.intro
  refine ⟨fun v hv hne => ?_, fun u hu => ?_⟩
  ·simp only [List.take_succ_cons, List.take_zero]
   have d3 := fun y => ((box_own h3).later (v := v) (T := []) (by simp) y).cell
   have d4 := fun y => ((box_own h4).later (v := v) (T := []) (by simp) y).cell
   repeat (go_big_quiet_step ((go_at_call 103; with_reducible exact lateB (mag_trim n (HT.out.later _) (Nat.le_refl _) (by omega)))))
   refine wpQuiet_nil ?_
   exact rfl
  ·simp only [List.drop_succ_cons, List.drop_zero]
   refine late_nil ?_
   (try simp only [Act.put, List.setIfInBounds_toArray, List.set_cons_zero, List.set_cons_succ])
   have hK2 := (hu.block D' hDl).trans hK
   have hdg2 := HT.out.below hu
   have hb9 := h9.trans (hu.mono b2)
   gi_wp2
   refine ⟨by simp, .inl ⟨_, _, rfl, run_takeDeferred hK2, ?_⟩⟩
   refine ⟨_, by simp [results, Tryz.results106, go_sem]; exact rfl, ?_⟩
   obtain ⟨hq, hr⟩ := HQ.out
   rw [hq, hr]
   exact ⟨⟨_, rfl, trim_sl (digs_put hdg2 hK2 rfl) (Nat.le_refl _) (by omega)⟩, hb9.trans (belowK_b (w := w) (Nat.le_refl _) _ D' _ _ (by have := h9.size; omega) hK2 rfl rfl)⟩
 case stop =>
  rintro D' cd pre W hD hpre hf hK
  exact hf.elim
end Go.Proofs.YtflgngjocgiojaaGreat
namespace Go.Proofs.YtflgngjocgiojaaGreat
open Go.RowKit

def cellU (d : Nat) : Value := .int .u32 ((d : Nat) : Int)
theorem wpList_copy_digs {ops : Array Oper} {rest : List Oper} {o : Oper} {a : Act} {w : World} {Q : Exit → Act → World → Prop} (hgd : o.guard = none) (d s : Operand) (dT sT : TypeId)
  (ho : o.op = .call { callee := .builtin .copy, args := #[d, s], argTypes := #[dT, sT] }) (hu : Tryz.prog.underlying dT = some (.slice 97)) (hsz : (Tryz.prog.info? 97).map (·.size) = some 1)
  (b n cd : Nat) (A : Option Addr) (m cs : Nat) (hd : a.eval d = .slice (some ⟨b, 0, none⟩) n cd) (hs : a.eval s = .slice A m cs) (L D : List Nat) (hL : OwnD w b L) (hLn : L.length = n) (hv : DigsAt w A m D) (hm : m ≤ n)
  (B : Nat) (w0 : World) (hb : Below B w0 w) (hB : B ≤ b) (h : ∀ w', OwnD w' b (D ++ L.drop m) → Below B w0 w' → wpList Tryz.prog ops Q rest (a.put o.dst (goInt m)) w') : wpList Tryz.prog ops Q (o :: rest) a w := by
 obtain ⟨T, hT⟩ := hL
 have hlD := hv.len
 refine wpList_copy_splice hgd d s dT sT ho 97 hu hsz (some ⟨b, 0, none⟩) A n cd m cs hd hs b 0 (L.map cellU) T hT (D.map cellU) ?_ ?_ ?_ ?_ B w0 hb hB ?_
 ·rw [List.length_map, hlD]; exact (Nat.min_eq_left hm).symm
 ·intro h0
  rw [List.length_map, hlD] at h0
  obtain ⟨b', off, rfl, hlt, hc⟩ := hv.row h0
  refine ⟨rfl, _, rfl, fun j v hj => ?_⟩
  rw [List.getElem?_map] at hj
  have hjl : j < D.length := by
   rcases Nat.lt_or_ge j D.length with h | h
   ·exact h
   ·rw [List.getElem?_eq_none h] at hj; cases hj
  rw [List.getElem?_eq_getElem hjl, dAt_in hjl] at hj
  obtain rfl := Option.some.inj hj
  have e : (⟨b', off, none⟩ : Addr).add j = ⟨b', off + j, none⟩ := by unfold Addr.add; split <;> simp_all
  rw [e]
  exact hc j (by omega)
 ·rw [List.length_map, List.length_map, hlD, hLn]; omega
 ·intro v hv
  obtain ⟨d, _, rfl⟩ := List.mem_map.1 hv
  rfl
 ·intro w' hh hb'
  have e : splice (L.map cellU) 0 (D.map cellU) = (D ++ L.drop m).map cellU := by
   unfold splice
   rw [List.take_zero, List.nil_append, Nat.zero_add, List.length_map, hlD, ← List.map_drop, ← List.map_append]
  have hh2 := hh.out
  rw [e] at hh2
  rw [List.length_map, hlD]
  exact h w' ⟨T, hh2⟩ hb'
theorem shl_or {d c t : Nat} (by_ : Nat) (ht : by_ < 32) (hc : c < 2 ^ by_) : bits .or .u32 (((d * 2 ^ by_ % 4294967296 : Nat) : Int)) (c : Int) = ((d * 2 ^ by_ % 4294967296 + c : Nat) : Int) := by
 have hp : 2 ^ by_ * 2 ^ (32 - by_) = 4294967296 := by rw [← Nat.pow_add, show by_ + (32 - by_) = 32 by omega]
 have h1 : d * 2 ^ by_ % 4294967296 % 2 ^ by_ = 0 := by
  rw [← hp, Nat.mod_mul_right_mod, Nat.mul_mod_left]
 have hle : 2 ^ by_ ≤ 2 ^ 31 := Nat.pow_le_pow_right (by omega) (by omega)
 rw [u32_or_nat _ _ (Nat.mod_lt _ (by omega)) (by omega), nat_join by_ _ _ h1 hc]
theorem set_drop {R D0 : List Nat} {n k : Nat} (hR : R.length = k) (hD : D0.length = n) (hk : k < n) (r : Nat) : (R ++ D0.drop k).set k r = (R ++ [r]) ++ D0.drop (k + 1) := by
 rw [List.set_append_right _ _ (by omega), hR, Nat.sub_self, drop_dAt (by omega), List.set_cons_zero, List.append_assoc]
 rfl
/-- One digit of a shift. -/
theorem up_step {s d cr v x p : Nat} (hs : s < 32) (hval : v + p * cr = x * 2 ^ s) : (v + p * (d * 2 ^ s % 4294967296 + cr)) + p * 4294967296 * (d / 2 ^ (32 - s)) = (x + p * d) * 2 ^ s := by
 have e : d / 2 ^ (32 - s) = d * 2 ^ s / 4294967296 := by
  have hp : 2 ^ (32 - s) * 2 ^ s = 4294967296 := by rw [← Nat.pow_add, show 32 - s + s = 32 by omega]
  rw [← hp, Nat.mul_div_mul_right _ _ (Nat.two_pow_pos s)]
 rw [e]
 have h2 := Nat.div_add_mod (d * 2 ^ s) 4294967296
 generalize d * 2 ^ s / 4294967296 = q at *
 generalize d * 2 ^ s % 4294967296 = r at *
 have e2 : (x + p * d) * 2 ^ s = x * 2 ^ s + p * (d * 2 ^ s) := by rw [Nat.add_mul, Nat.mul_assoc]
 rw [e2, ← h2, ← hval]
 grind
set_option maxRecDepth 100000 in
set_option maxHeartbeats 2000000 in
theorem mag_up {w : World} {A : Option Addr} {m : Nat} {D : List Nat} (c s n : Nat) (hv : DigsAt w A m D) (hm : m ≤ n) (hn : n ≤ 1000) (hs : s < 32) :
  Calls Tryz.prog 108 #[.slice A m c, .int .i64 (s : Nat), .int .i64 (n : Nat)] w fun e w' => (e = .returned (.slice (some ⟨w.heap.size, 0, none⟩) n n) ∧ ∃ L cr, OwnD w' w.heap.size L ∧ L.length = n ∧ Dg L ∧ vD L + 4294967296 ^ n * cr = vD D * 2 ^ s) ∧ Below w.heap.size w w' := by
 have hl := hv.len
 have HV := Lib.hid hv
 have HL := Lib.hid hl
 clear hv hl
 have hni : (n : Int) ≤ 1000 := by omega
 have hsi : (s : Int) < 32 := by omega
 have hmk := fun w => make_mag n (by omega) w
 go_enter Tryz.func108, Tryz.ntmps108
 have hO : OwnD (w.alloc (.cells (encU (List.replicate n 0)) 97)) w.heap.size (List.replicate n 0) := OwnD.new _ _
 have hW := (Below.refl w.heap.size w).alloc (Nat.le_refl _) (.cells (encU (List.replicate n 0)) 97)
 have HOW := Lib.hid (And.intro hO (And.intro hW (HV.out.below hW)))
 clear hO hW
 go_wp2_with (refine wpList_copy_digs rfl (.tmp 13) (.tmp 14) 99 99 (by rfl) (by kernel_rfl) (by kernel_rfl) w.heap.size n n A m c (by rfl) (by rfl) (List.replicate n 0) D HOW.out.1 List.length_replicate HOW.out.2.2 hm w.heap.size w HOW.out.2.1 (Nat.le_refl _) ?_)
 intro w1 oo hw
 clear hmk HOW
 obtain ⟨D0, hD0⟩ : ∃ D0, D ++ List.replicate (n - m) 0 = D0 := ⟨_, rfl⟩
 have hD0l : D0.length = n := by rw [← hD0, List.length_append, List.length_replicate, HL.out]; omega
 have hD0a : ∀ k, dAt D0 k = dAt D k := fun k => by
  rw [← hD0]
  rcases Nat.lt_or_ge k D.length with h | h
  ·unfold dAt; rw [List.getD_eq_getElem?_getD, List.getD_eq_getElem?_getD, List.getElem?_append_left h]
  ·rw [dAt_out h]
   unfold dAt
   rw [List.getD_eq_getElem?_getD, List.getElem?_append_right h, List.getElem?_replicate]
   split <;> rfl
 rw [hD0] at oo
 have HD0 := Lib.hid (And.intro hD0l hD0a)
 clear hD0 hD0l hD0a
 go_wp2
 go_loopw [8, 18] (fun c i wr => ∃ (k cr : Nat) (R : List Nat), k ≤ n ∧ i = .int .i64 k ∧ c = .int .u32 cr ∧ cr < 2 ^ s ∧ R.length = k ∧ Dg R ∧ vD R + 4294967296 ^ k * cr = vD (D.take k) * 2 ^ s ∧ Below w.heap.size w wr ∧ OwnD wr w.heap.size (R ++ D0.drop k)) (fun _ i _ => n - (intOf i).toNat)
 case atStart => exact ⟨0, 0, [], by omega, rfl, rfl, Nat.two_pow_pos _, rfl, Dg.nil, by simp [vD_nil], hw, oo⟩
 case round =>
  clear hw oo
  obtain ⟨k, cr, R, hk, rfl, rfl, hcr, hR, hdg, hval, hw, oo⟩ := hrel
  have HVL := Lib.hid hval
  have HD := Lib.hid (And.intro hR hdg)
  clear hval hR hdg
  have ooz := Own.lt oo
  have oof := Own.thaw oo
  by_cases hlt : k < n
  ·have hlt2 : (k : Int) < (n : Int) := by omega
   obtain ⟨d, hd⟩ : ∃ d, dAt D k = d := ⟨_, rfl⟩
   have hd1 : d < 4294967296 := by rw [← hd]; exact HV.out.dg.at_ k
   have hdL : dAt (R ++ D0.drop k) k = d := by
    unfold dAt
    rw [List.getD_eq_getElem?_getD, List.getElem?_append_right (by rw [HD.out.1]; exact Nat.le_refl _), HD.out.1, Nat.sub_self, List.getElem?_drop, Nat.add_zero]
    have := HD0.out.2 k
    unfold dAt at this hd
    rw [List.getD_eq_getElem?_getD] at this
    rw [this]; exact hd
   have oc := oo.cell (by rw [List.length_append, List.length_drop, HD.out.1, HD0.out.1]; omega) hdL
   have HDD := Lib.hid hd
   clear hd hdL
   have hdi : (d : Int) < 4294967296 := by omega
   obtain ⟨r, hr⟩ : ∃ r, d * 2 ^ s % 4294967296 + cr = r := ⟨_, rfl⟩
   obtain ⟨t, ht⟩ : ∃ t, d / 2 ^ (32 - s) = t := ⟨_, rfl⟩
   have hor : bits .or .u32 ((d : Int) * 2 ^ s % 4294967296) (cr : Int) = (r : Int) := by
    have e : (d : Int) * 2 ^ s % 4294967296 = ((d * 2 ^ s % 4294967296 : Nat) : Int) := by rw [Int.natCast_emod, Int.natCast_mul, Int.natCast_pow]; rfl
    rw [e, shl_or (t := 0) s hs hcr, hr]
   have hsh : (d : Int) / 2 ^ (32 - s) = (t : Int) := by rw [← ht, Int.natCast_ediv, Int.natCast_pow]; rfl
   have ht1 : t < 2 ^ s := by
    rw [← ht]
    have hp : 2 ^ s * 2 ^ (32 - s) = 4294967296 := by rw [← Nat.pow_add, show s + (32 - s) = 32 by omega]
    exact (Nat.div_lt_iff_lt_mul (Nat.two_pow_pos _)).2 (by rw [hp]; exact hd1)
   have hr1 : r < 4294967296 := by
    have hp : 2 ^ s * 2 ^ (32 - s) = 4294967296 := by rw [← Nat.pow_add, show s + (32 - s) = 32 by omega]
    have h1 : d * 2 ^ s % 4294967296 % 2 ^ s = 0 := by rw [← hp, Nat.mod_mul_right_mod, Nat.mul_mod_left]
    have h2 : d * 2 ^ s % 4294967296 < 2 ^ 32 := Nat.mod_lt _ (by omega)
    have h3 : cr < 2 ^ 32 := Nat.lt_of_lt_of_le hcr (Nat.pow_le_pow_right (by omega) (by omega))
    have h4 := Nat.or_lt_two_pow h2 h3
    rw [nat_join s _ _ h1 hcr, hr] at h4
    exact h4
   have HT1 := Lib.hid ht1
   have hst := up_step (d := d) (p := 4294967296 ^ k) hs HVL.out
   rw [hr, ht] at hst
   have HNV : Hid (vD (R ++ [r]) + 4294967296 ^ (k + 1) * t = vD (D.take (k + 1)) * 2 ^ s) := Lib.hid (by
    rw [vD_snoc, vD_take', HD.out.1, HDD.out, Nat.pow_succ]; exact hst)
   have HNR : Hid ((R ++ [r]).length = k + 1 ∧ Dg (R ++ [r])) := Lib.hid ⟨by rw [List.length_append, HD.out.1]; rfl, HD.out.2.append (Dg.one hr1)⟩
   have HSE := Lib.hid (set_drop (r := r) HD.out.1 HD0.out.1 hlt)
   clear hr ht ht1 hst hr1 hcr HVL HD HDD
   go_wp2
   go_roundw
   case rel => exact ⟨k + 1, t, R ++ [r], by omega, by go_num, rfl, HT1.out, HNR.out.1, HNR.out.2, HNV.out, hw.setCell (Nat.le_refl _) _, oo.set HSE.out⟩
   case measure => simp [intOf]; omega
  ·obtain rfl : k = n := by omega
   have hval := HVL.out
   rw [List.take_of_length_le (by rw [HL.out]; exact hm)] at hval
   rw [List.drop_of_length_le (by rw [HD0.out.1]; exact Nat.le_refl _), List.append_nil] at oo
   have HVV := Lib.hid hval
   clear hval HVL
   go_wp2
   go_ret
   exact ⟨⟨rfl, R, cr, oo, HD.out.1, HD.out.2, HVV.out⟩, hw⟩
end Go.Proofs.YtflgngjocgiojaaGreat
namespace Go.Proofs.YtflgngjocgiojaaGreat

/-- k digits of v times g have been taken off; cb is what is still to be taken off above them. -/
structure SubAt (W0 W V : List Nat) (n k g cb : Nat) : Prop where
 len : W.length = n + 1
 dg : Dg W
 val : vD W + g * vD (V.take k) = vD W0 + 4294967296 ^ k * cb
 same : ∀ j, k ≤ j → dAt W j = dAt W0 j
theorem SubAt.start {W V : List Nat} {n g : Nat} (hl : W.length = n + 1) (hd : Dg W) : SubAt W W V n 0 g 0 := ⟨hl, hd, by simp [vD_nil], fun _ _ => rfl⟩
theorem SubAt.step {W0 W V : List Nat} {n k g c b d u r lo hi b' : Nat} (t : SubAt W0 W V n k g (c + b)) (hk : k < n) (hd : dAt V k = d) (hu : dAt W k = u) (hr : r < 4294967296) (hc : c + g * d = lo + 4294967296 * hi) (hs : r + lo + b = u + 4294967296 * b') :
  SubAt W0 (W.set k r) V n (k + 1) g (hi + b') := by
 have hkl : k < W.length := by rw [t.len]; omega
 refine ⟨by rw [List.length_set]; exact t.len, t.dg.set _ _ hr, ?_, fun j hj => ?_⟩
 ·have h1 := vD_set (L := W) (j := k) r hkl
  rw [hu] at h1
  have h2 := t.val
  rw [vD_take', hd, Nat.pow_succ]
  generalize 4294967296 ^ k = p at *
  generalize vD (W.set k r) = x at *
  generalize vD (V.take k) = y at *
  have e1 : p * (c + g * d) = p * (lo + 4294967296 * hi) := by rw [hc]
  have e2 : p * (r + lo + b) = p * (u + 4294967296 * b') := by rw [hs]
  have e3 : x + p * u + g * y + p * (c + g * d) + p * (r + lo + b) = vD W0 + p * (c + b) + p * r + p * (lo + 4294967296 * hi) + p * (u + 4294967296 * b') := by
   rw [e1, e2, h1, Nat.add_right_comm (vD W), h2]
  grind
 ·rw [dAt_set hkl, if_neg (by omega)]
  exact t.same j (by omega)
theorem SubAt.top {W0 W V : List Nat} {n g c u r neg : Nat} (t : SubAt W0 W V n n g c) (hV : V.length = n) (hu : dAt W n = u) (hr : r < 4294967296) (hs : r + c = u + 4294967296 * neg) :
  (W.set n r).length = n + 1 ∧ Dg (W.set n r) ∧ vD (W.set n r) + g * vD V = vD W0 + 4294967296 ^ (n + 1) * neg := by
 have hkl : n < W.length := by rw [t.len]; omega
 refine ⟨by rw [List.length_set]; exact t.len, t.dg.set _ _ hr, ?_⟩
 have h1 := vD_set (L := W) (j := n) r hkl
 rw [hu] at h1
 have h2 := t.val
 rw [List.take_of_length_le (by omega)] at h2
 rw [Nat.pow_succ]
 generalize 4294967296 ^ n = p at *
 generalize vD (W.set n r) = x at *
 have e2 : p * (r + c) = p * (u + 4294967296 * neg) := by rw [hs]
 have e3 : x + p * u + g * vD V + p * (r + c) = vD W0 + p * c + p * r + p * (u + 4294967296 * neg) := by
  rw [e2, h1, Nat.add_right_comm (vD W), h2]
 grind
/-- k digits of v have been added. -/
structure AddAt (W0 W V : List Nat) (n k m : Nat) : Prop where
 len : W.length = n + 1
 dg : Dg W
 val : vD W + 4294967296 ^ k * m = vD W0 + vD (V.take k)
 same : ∀ j, k ≤ j → dAt W j = dAt W0 j
theorem AddAt.start {W V : List Nat} {n : Nat} (hl : W.length = n + 1) (hd : Dg W) : AddAt W W V n 0 0 := ⟨hl, hd, by simp [vD_nil], fun _ _ => rfl⟩
theorem AddAt.step {W0 W V : List Nat} {n k m d u r m' : Nat} (t : AddAt W0 W V n k m) (hk : k ≤ n) (hd : dAt V k = d) (hu : dAt W k = u) (hr : r < 4294967296) (hs : r + 4294967296 * m' = u + d + m) :
  AddAt W0 (W.set k r) V n (k + 1) m' := by
 have hkl : k < W.length := by rw [t.len]; omega
 refine ⟨by rw [List.length_set]; exact t.len, t.dg.set _ _ hr, ?_, fun j hj => ?_⟩
 ·have h1 := vD_set (L := W) (j := k) r hkl
  rw [hu] at h1
  have h2 := t.val
  rw [vD_take', hd, Nat.pow_succ]
  generalize 4294967296 ^ k = p at *
  generalize vD (W.set k r) = x at *
  generalize vD (V.take k) = y at *
  have e2 : p * (r + 4294967296 * m') = p * (u + d + m) := by rw [hs]
  grind
 ·rw [dAt_set hkl, if_neg (by omega)]
  exact t.same j (by omega)
/-- Where the estimate stands. -/
structure EstAt (W0 W V : List Nat) (n g neg : Nat) : Prop where
 len : W.length = n + 1
 dg : Dg W
 val : vD W + g * vD V = vD W0 + 4294967296 ^ (n + 1) * neg
 ge : min (vD W0 / vD V) 4294967295 ≤ g
 le : g ≤ 4294967295
theorem EstAt.less {W0 W V : List Nat} {n g : Nat} (t : EstAt W0 W V n g 1) (hv : 0 < vD V) : vD W0 / vD V < g ∧ 0 < g := by
 have h1 := vD_lt t.dg
 rw [t.len] at h1
 have h2 := t.val
 have h3 : vD W0 < g * vD V := by omega
 have h4 : vD W0 / vD V < g := (Nat.div_lt_iff_lt_mul hv).2 h3
 exact ⟨h4, Nat.lt_of_le_of_lt (Nat.zero_le _) h4⟩
theorem EstAt.back {W0 W W' V : List Nat} {n g m : Nat} (t : EstAt W0 W V n g 1) (hv : 0 < vD V) (a : AddAt W W' V n (n + 1) m) (hV : V.length = n) (hm : m ≤ 1) : EstAt W0 W' V n (g - 1) (1 - m) := by
 obtain ⟨h1, h2⟩ := t.less hv
 refine ⟨a.len, a.dg, ?_, by have := t.ge; omega, by have := t.le; omega⟩
 have h3 := a.val
 rw [List.take_of_length_le (by omega)] at h3
 have h4 := t.val
 have e : g * vD V = (g - 1) * vD V + vD V := by
  have : g = (g - 1) + 1 := by omega
  rw [this, Nat.add_mul, Nat.one_mul]; rfl
 rw [e] at h4
 generalize 4294967296 ^ (n + 1) = p at *
 have h5 : m = 0 ∨ m = 1 := by omega
 rcases h5 with rfl | rfl
 ·omega
 ·simp at h3 ⊢; omega
theorem EstAt.done {W0 W V : List Nat} {n g : Nat} (t : EstAt W0 W V n g 0) (hv : 0 < vD V) : g = min (vD W0 / vD V) 4294967295 ∧ vD W + g * vD V = vD W0 := by
 have h := t.val
 rw [Nat.mul_zero, Nat.add_zero] at h
 have h1 : g ≤ vD W0 / vD V := (Nat.le_div_iff_mul_le hv).2 (by omega)
 have h2 := t.ge
 have h3 := t.le
 exact ⟨by omega, h⟩
/-- The first estimate is not too small. -/
theorem est_first {W V : List Nat} {n : Nat} (hW : W.length = n + 1) (hV : V.length = n) (hn : 1 ≤ n) (gW : Dg W) (gV : Dg V) (hv : 0 < dAt V (n - 1)) : vD W / vD V ≤ (dAt W n * 4294967296 + dAt W (n - 1)) / dAt V (n - 1) := by
 have sW : vD W = (dAt W n * 4294967296 + dAt W (n - 1)) * 4294967296 ^ (n - 1) + vD (W.take (n - 1)) := by
  have h1 := vD_take' W n
  rw [List.take_of_length_le (by omega)] at h1
  have h2 := vD_take' W (n - 1)
  rw [show n - 1 + 1 = n by omega] at h2
  rw [h1, h2]
  have e : 4294967296 ^ n = 4294967296 * 4294967296 ^ (n - 1) := by rw [← Nat.pow_succ', show (n - 1).succ = n by omega]
  rw [e]
  grind
 have sV : vD V = dAt V (n - 1) * 4294967296 ^ (n - 1) + vD (V.take (n - 1)) := by
  have h2 := vD_take' V (n - 1)
  rw [show n - 1 + 1 = n by omega, List.take_of_length_le (by omega)] at h2
  rw [h2, Nat.mul_comm]; omega
 have hl := vD_lt (gW.take (n - 1))
 rw [List.length_take, Nat.min_eq_left (by omega)] at hl
 exact guess_hi sV sW hl hv
theorem val_pos {V : List Nat} {k : Nat} (hk : k < V.length) (h : 0 < dAt V k) : 0 < vD V := by
 rw [vD_split V k hk]
 have := Nat.mul_pos (Nat.pow_pos (n := k) (show 0 < 4294967296 by omega)) h
 omega
end Go.Proofs.YtflgngjocgiojaaGreat
