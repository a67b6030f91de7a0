/- Package hull: Faces returns the facets. -/
import Derived.Test.YtccnlnkgoaelpaaHullK
namespace Go.Proofs.Ytccnlnkgoaelpaa
open Go.RowKit Go.Shelf Go.Maps
attribute [local go_sem] Oper.semAt_some

/-- The datum of the map of planes seen: it has just the planes of a list. -/
def SeenD (S : List Pl) (D : DataW Unit) : Prop := ∀ (p : Pl) kl, keyOf Try.prog 33 (Pl.v p) = some kl → D.atKey kl (.lit (.bool false)) = .lit (.bool (decide (p ∈ S)))
theorem SeenD.empty : SeenD [] (.map []) := fun _ _ _ => rfl
theorem pl_v_inj {p q : Pl} (h : Pl.v p = Pl.v q) : p = q := by
  obtain ⟨⟨a, b, c⟩, d⟩ := p
  obtain ⟨⟨a', b', c'⟩, d'⟩ := q
  simp at h
  obtain ⟨rfl, rfl, rfl, rfl⟩ := h
  rfl
theorem SeenD.put {S : List Pl} {D : DataW Unit} (h : SeenD S D) (hm : IsMap D) {p : Pl} {kl : Lit} (hk : keyOf Try.prog 33 (Pl.v p) = some kl) : SeenD (S ++ [p]) (D.put kl (.lit (.bool true))) := fun q kq hq => by
  by_cases e : q = p
  · subst e
    rw [hk] at hq; cases hq
    rw [atKey_put_same hm (key_law.key hk)]
    simp
  · rw [atKey_put_other (fun ek => e (pl_v_inj (key_law.inj (show _ = some kl by rw [← ek]; exact hq) hk))), h q kq hq]
    simp [e]
theorem SeenD.again {S : List Pl} {D : DataW Unit} (h : SeenD S D) {p : Pl} (hp : p ∈ S) : SeenD (S ++ [p]) D := fun q kq hq => by
  rw [h q kq hq]
  by_cases e : q = p
  · subst e; simp [hp]
  · simp [e]
set_option maxRecDepth 100000 in
theorem look_bool {w : World} {b n : Nat} {D : DataW Unit} {S : List Pl} (hown : w.ownsMap Try.prog 33 (plainElem Try.prog 4) b n D) (hS : SeenD S D) {p : Pl} {kl : Lit} (hk : keyOf Try.prog 33 (Pl.v p) = some kl) :
    (Instr.lookup 58 (.map (some b)) (Pl.v p) false).run Try.prog w = .ok (.bool (decide (p ∈ S))) w := by
  obtain ⟨v, ps, hrun, hv⟩ := hown.lookup key_law Try.underlying58 (Try.zeroValue4 w) (plainElem_bool Try.underlying4 false) hk
  rw [hS p kl hk] at hv
  unfold plainElem at hv
  rw [Try.underlying4] at hv
  cases v <;> simp at hv
  obtain ⟨rfl, _⟩ := hv
  exact hrun

theorem KeepR.grown {Bf r : Nat} {X Y : World} (h : X.grownBy Y (some r)) (hB : Bf < X.heap.size) (hr : r ≠ Bf) (hc : ∀ cs T f, X.heap[r]? ≠ some (.cells cs T f)) : KeepR Bf X Y := by
  have e : Y.heap[Bf]? = X.heap[Bf]? := h.block Bf hB (fun e => hr (by injection e with e; exact e.symm))
  exact ⟨h.size, fun n x hx => Nat.lt_of_lt_of_le (n x ((pts_same e).1 hx)) h.size, fun x hx => .inl ((pts_same e).1 hx), fun x cs T f _ _ h3 =>
    (h.block x (Array.getElem?_eq_some_iff.1 h3).1 (fun e => by injection e with e; subst e; exact hc _ _ _ h3)).trans h3⟩
theorem KeepR.appended {Bf g' n' c' : Nat} {W w1 : World} {t : TypeId} {v : Value} {tmp : Obj} (hg : (W.alloc tmp).grownBy w1 v.ownBlock) (hv0 : ∀ r, v.ownBlock = some r → Pts W Bf r)
    (hat : Value.ownBlock (.slice (some ⟨g', 0, none⟩) n' c') = v.ownBlock ∨ Value.ownBlock (.slice (some ⟨g', 0, none⟩) n' c') = some (W.alloc tmp).heap.size) (hlt : g' < w1.heap.size) (hb1 : Boxed w1 Bf t v) :
    KeepR Bf W (w1.setCell ⟨Bf, 0, none⟩ (.slice (some ⟨g', 0, none⟩) n' c')) := by
  have hc := (box_own (box_set hb1 (.slice (some ⟨g', 0, none⟩) n' c'))).cell 0
  have hp : ∀ x, Pts (w1.setCell ⟨Bf, 0, none⟩ (.slice (some ⟨g', 0, none⟩) n' c')) Bf x → x = g' := fun x ⟨off, a, b, hx⟩ => by
    rw [hc] at hx
    simp at hx
    exact hx.1.1.symm
  have hs := hg.size
  simp only [World.size_alloc] at hs
  refine ⟨by simp; omega, fun _ x hx => by rw [hp x hx]; simpa using hlt, fun x hx => ?_, fun x cs T f hx1 hx2 hx3 => ?_⟩
  · rw [hp x hx]
    rcases hat with h | h
    · exact .inl (hv0 g' (by rw [← h]; rfl))
    · refine .inr ?_
      have : g' = (W.alloc tmp).heap.size := by simpa [Value.ownBlock] using h
      rw [this]; simp
  · have hlx := (Array.getElem?_eq_some_iff.1 hx3).1
    have e1 : (W.alloc tmp).heap[x]? = some (.cells cs T f) := (Below.heap_alloc W tmp x hlx).trans hx3
    have e2 := (hg.block x (by simp; omega) (fun e => hx2 (hv0 x e.symm))).trans e1
    exact (Below.heap_setCell w1 ⟨Bf, 0, none⟩ _ x hx1).trans e2
def flatP (F : List Pl) : List Value := F.flatMap encP
theorem flatP_snoc (F : List Pl) (p : Pl) : flatP (F ++ [p]) = flatP F ++ [.int .i64 p.n.x, .int .i64 p.n.y, .int .i64 p.n.z, .int .i64 p.b] := by simp [flatP, encP]
theorem flatP_len (F : List Pl) : (flatP F).length = F.length * 4 := by
  unfold flatP
  induction F with
  | nil => rfl
  | cons x L ih => simp [encP, ih]; omega
theorem flatP_at : ∀ (L : List Pl) (i c : Nat), i < L.length → c < 4 → (flatP L)[i * 4 + c]? = (encP (pAt L i))[c]?
  | [], i, _, h, _ => by simp at h
  | x :: L, 0, c, _, hc => by
    unfold flatP
    rw [List.flatMap_cons, List.getElem?_append_left (by simp [encP]; omega), Nat.zero_mul, Nat.zero_add]; rfl
  | x :: L, i + 1, c, h, hc => by
    have ih := flatP_at L i c (by simpa using h) hc
    unfold flatP at ih ⊢
    rw [List.flatMap_cons, List.getElem?_append_right (by simp [encP]; omega)]
    rw [show (i + 1) * 4 + c - (encP x).length = i * 4 + c by simp [encP]; omega, ih]
    rfl
theorem infoPl : (Try.prog.info? 33).map (fun i => (i.zero, i.size, i.bytes)) = some (some (.agg #[.int .i64 0, .int .i64 0, .int .i64 0, .int .i64 0]), 4, 32) := by kernel_rfl
theorem row_own {base : Nat} {e : TypeId} {size : Nat} {v : Value} {n : Nat} {xs : List Value} {B : Nat} : OwnFrom B (fun (_ : Unit) W => W.ownsRow base e size v n xs) := fun _ X Y row hs hg hr => by
  have hs : X.ownsRow base e size v n xs := hs
  refine hs.kept hg ?_
  rcases hs.2 with ⟨rfl, _⟩ | ⟨g', cap, cur, rfl, _, hgb, _⟩
  · exact .inl rfl
  · refine .inr fun e => ?_
    obtain ⟨_, o, ho, hc⟩ := hr g' e.symm
    rw [hgb] at ho; cases ho; cases hc
theorem rowO_own {g : Nat} {M : List V3} {B : Nat} : OwnFrom B (fun (_ : Unit) W => RowO W g M) := fun _ X Y row hs hg hr => by
  have hs : RowO X g M := hs
  obtain ⟨cs, ⟨T, ho⟩, hc⟩ := id hs
  exact hs.same (hg.block g hs.lt (fun e => by obtain ⟨_, o, ho2, hcl⟩ := hr g e.symm; rw [ho] at ho2; cases ho2; cases hcl))
/-- Between two rounds of Faces' loop. -/
structure FacesI (w : World) (g m : Nat) (sl : Value) (D : List V3) (pre : List Pl) (W : World) (F : List Pl) (v : Value) (Dm : DataW Unit) : Prop where
  b0 : Boxed W w.heap.size 24 sl
  bS : Boxed W (m + 1) 58 (.map (some m))
  bF : Boxed W (m + 1 + 1) 26 v
  row : W.ownsRow w.heap.size 33 4 v F.length (flatP F)
  nil : v = .slice none 0 0 ↔ F = []
  rd : RowO W g D
  mp : W.ownsMap Try.prog 33 (plainElem Try.prog 4) m pre.length Dm
  seen : SeenD (pre.map cl) Dm
  nd : F.Nodup
  len : F.length ≤ pre.length
  mem : ∀ p, p ∈ F ↔ p ∈ pre.map cl ∧ insideB D p = true
  bel : Below w.heap.size w W
  sep : v.ownBlock ≠ some g
theorem FacesI.from {w : World} {g m : Nat} {sl : Value} {D : List V3} {B : Nat} (hm : m < B) (hB : w.heap.size ≤ B) : OwnFrom B (fun pre W => ∃ F v Dm, FacesI w g m sl D pre W F v Dm) := fun _ X Y _ ⟨F, v, Dm, h⟩ hg hr =>
  ⟨F, v, Dm, boxed_own' () _ _ _ h.b0 hg hr, boxed_own' () _ _ _ h.bS hg hr, boxed_own' () _ _ _ h.bF hg hr, row_own () _ _ _ h.row hg hr, h.nil, rowO_own () _ _ _ h.rd hg hr,
    h.mp.kept hg (fun e => by have := (hr _ e.symm).1; omega), h.seen, h.nd, h.len, h.mem, ownFrom_below (Nat.le_refl _) hB () _ _ _ h.bel hg hr, h.sep⟩
theorem FacesI.alloc {w : World} {g m : Nat} {sl : Value} {D : List V3} {pre : List Pl} {W : World} {F : List Pl} {v : Value} {Dm : DataW Unit} (h : FacesI w g m sl D pre W F v Dm) (o : Obj) : FacesI w g m sl D pre (W.alloc o) F v Dm :=
  ⟨h.b0.alloc _, h.bS.alloc _, h.bF.alloc _, h.row.alloc _, h.nil, h.rd.below ((Below.refl _ _).alloc (Nat.le_refl _) _), h.mp.alloc _, h.seen, h.nd, h.len, h.mem, h.bel.alloc h.bel.size _, h.sep⟩
theorem own_row_pts {W : World} {Bf : Nat} {t : TypeId} {base n : Nat} {e : TypeId} {size : Nat} {v : Value} {xs : List Value} (hb : Boxed W Bf t v) (hr : W.ownsRow base e size v n xs) (r : Nat) (h : v.ownBlock = some r) : Pts W Bf r := by
  rcases hr.2 with ⟨rfl, _⟩ | ⟨g, cap, cur, rfl, _⟩
  · simp [Value.ownBlock] at h
  · obtain rfl : g = r := by simpa [Value.ownBlock] using h
    exact ⟨0, n, cap, hb.cell⟩
theorem own_row_cells {W : World} {base n : Nat} {e : TypeId} {size : Nat} {v : Value} {xs : List Value} (hr : W.ownsRow base e size v n xs) (r : Nat) (h : v.ownBlock = some r) : ∃ cs T f, W.heap[r]? = some (.cells cs T f) := by
  rcases hr.2 with ⟨rfl, _⟩ | ⟨g, cap, cur, rfl, _, hg, _⟩
  · simp [Value.ownBlock] at h
  · obtain rfl : g = r := by simpa [Value.ownBlock] using h
    exact ⟨_, _, _, hg⟩
/-- A slice of planes, in memory of the call's own. -/
def SlP (B : Nat) (w : World) (v : Value) (F : List Pl) : Prop := ∃ A c, v = .slice A F.length c ∧ F.length ≤ c ∧ c ≤ 9223372036854775807 ∧ PlsAt w A F.length F ∧ ∀ b off, A = some ⟨b, off, none⟩ → B ≤ b
theorem SlP.nil (B : Nat) (w : World) : SlP B w (.slice none 0 0) [] := ⟨none, 0, rfl, by simp, by omega, ⟨rfl, by simp, fun h => by simp at h⟩, fun _ _ h => by cases h⟩
set_option maxRecDepth 100000 in
set_option maxHeartbeats 1000000 in
theorem hull_Faces_bad {w : World} {A : Option Addr} {n : Nat} {L : List V3} (c : Nat) (hv : VecsAt w A n L) (hnc : n ≤ c) (hc : c ≤ 9223372036854775807) (hbad : ¬ hCheck L = 0) :
    Calls Try.prog 8 #[.slice A n c] w fun e w' => ∃ v, e = .returned (.tuple #[v, .int .i64 (hCheck L)]) ∧ SlP w.heap.size w' v [] ∧ Below w.heap.size w w' := by
  have hb0 := (Below.refl w.heap.size w).alloc (Nat.le_refl _) (.cells #[.slice A n c] 24)
  have hcon := hull_Check c (hv.below hb0) hnc hc
  generalize hCheck L = r at hbad hcon ⊢
  have hr : (r == 0) = false := by simpa using hbad
  have HCON := Lib.hid hcon
  clear hcon hv
  go_enter Try.func8, Try.ntmps8
  go_wp2_with fail
  refine HCON.out.mono ?_
  rintro e w1 ⟨rfl, hb1⟩
  have hw := Below.hop hb0 hb1
  clear HCON hb0 hb1
  go_wp2
  refine bodyPost_ret (results_tmp2 rfl _ _ _) rfl ?_
  exact ⟨_, rfl, SlP.nil _ _, hw⟩
set_option maxRecDepth 100000 in
set_option maxHeartbeats 8000000 in
theorem hull_Faces_ok {w : World} {A : Option Addr} {n : Nat} {L : List V3} (c : Nat) (hv : VecsAt w A n L) (hnc : n ≤ c) (hc : c ≤ 9223372036854775807) (hok : hCheck L = 0) :
    Calls Try.prog 8 #[.slice A n c] w fun e w' => ∃ v, e = .returned (.tuple #[v, .int .i64 0]) ∧ SlP w.heap.size w' v (facets L) ∧ Below w.heap.size w w' := by
  have hl := hv.len
  have h48 : n ≤ 48 := by
    unfold hCheck at hok
    by_cases h : 48 < L.length
    · rw [if_pos h] at hok; simp at hok
    · omega
  have hin : L.all vIn = true := by
    unfold hCheck at hok
    rw [if_neg (by omega)] at hok
    by_cases h : L.all vIn = true
    · exact h
    · rw [if_neg h] at hok; simp at hok
  have hn0 : 0 < n := by
    rcases Nat.eq_zero_or_pos n with h | h
    · subst h
      obtain rfl : L = [] := List.eq_nil_of_length_eq_zero hl
      exact absurd hok (by decide)
    · exact h
  have hb0 := (Below.refl w.heap.size w).alloc (Nat.le_refl _) (.cells #[.slice A n c] 24)
  have o1 := Boxed.new w 24 (.slice A n c)
  have hcon := hull_Check c (hv.below hb0) hnc hc
  rw [hok] at hcon
  have HCON := Lib.hid hcon
  have HV := Lib.hid (hv.below hb0)
  have HIN := Lib.hid hin
  have HO1 := Lib.hid o1
  have HB0 := Lib.hid hb0
  have hDl := distinctL_len L
  have HDL := Lib.hid (show (distinctL L).length ≤ 48 by omega)
  clear hcon hv hok hin o1 hb0 hDl
  refine (callsIn_wide (n := 5)).1 ?_
  refine callsIn_of_wp_marks Try.func8 rfl trivial ?_ rfl
  simp only [Try.ntmps8, List.size_toArray, List.length_cons, List.length_nil, Nat.reduceAdd, Nat.reduceSub, Array.replicate_succ, Array.replicate_zero, List.push_toArray, List.append_toArray, List.nil_append, List.cons_append]
  gi_wp2_with fail
  refine ⟨trivial, (callsIn_wide.2 HCON.out).mono ?_⟩
  rintro e w1 ⟨rfl, hb1⟩
  have p1 : Boxed w1 w.heap.size 24 (.slice A n c) := (hb1.block _ HO1.out.lt).trans HO1.out
  have HV1 := Lib.hid (HV.out.below hb1)
  have HB1 := Lib.hid (Below.hop HB0.out hb1)
  have P1 := Lib.hid p1
  have c1 := (box_own p1).cell
  have f1 := (box_own p1).thaw
  clear hb1 HCON HV HO1 HB0 p1
  gi_wp2_with fail
  refine ⟨trivial, (callsIn_wide.2 (hull_distinct c HV1.out hn0 (by omega))).mono ?_⟩
  rintro e w2 ⟨g, cap, rfl, hg, hDc, hDc2, hrow, hb2⟩
  have p2 : Boxed w2 w.heap.size 24 (.slice A n c) := (hb2.block _ P1.out.lt).trans P1.out
  have HB2 := Lib.hid (Below.hop HB1.out hb2)
  have HROW := Lib.hid hrow
  have P2 := Lib.hid p2
  have HG := Lib.hid (show w.heap.size < g by have := P1.out.lt; omega)
  have hz2 := P2.out.lt
  clear c1 f1 hb2 HB1 HV1 P1 hrow hg
  have c2 := (box_own p2).cell
  have f2 := (box_own p2).thaw
  clear p2
  obtain ⟨D, hD⟩ : ∃ D, distinctL L = D := ⟨_, rfl⟩
  rw [hD] at HROW HDL hDc ⊢
  have HDD := Lib.hid hD
  clear hD
  have hmm := @run_makeMap Try.prog
  have b1 := (((box_set P2.out (.slice (some ⟨g, 0, none⟩) D.length cap)).alloc (.map #[] 0)).alloc (.cells #[.map (some w2.heap.size)] 58)).alloc (.cells #[.slice none 0 0] 26)
  have q1 := b1.cell
  gi_wp2_with fail
  refine ⟨trivial, (callsIn_wide.2 (hull_triples _ _ _ _)).mono ?_⟩
  rintro e W1 ⟨rfl, rfl⟩
  have hDn : D.length ≤ 48 := HDL.out
  have rw1 : RowO (w2.setCell ⟨w.heap.size, 0, none⟩ (.slice (some ⟨g, 0, none⟩) D.length cap)) g D := HROW.out.same (Below.heap_setCell w2 ⟨w.heap.size, 0, none⟩ _ g (by have := HG.out; simp; omega))
  have hsz2 : (w2.setCell ⟨w.heap.size, 0, none⟩ (.slice (some ⟨g, 0, none⟩) D.length cap)).heap.size = w2.heap.size := by simp
  have hB3 : Below w.heap.size w (w2.setCell ⟨w.heap.size, 0, none⟩ (.slice (some ⟨g, 0, none⟩) D.length cap)) := HB2.out.setCell (by simp) _
  have mp1 := World.ownsMap_made (H := Unit) (w2.setCell ⟨w.heap.size, 0, none⟩ (.slice (some ⟨g, 0, none⟩) D.length cap)) Try.prog 33 (plainElem Try.prog 4)
  have hbx := box_set P2.out (.slice (some ⟨g, 0, none⟩) D.length cap)
  have hgw := HROW.out.lt
  have HGW := Lib.hid hgw
  clear q1 b1 c2 f2 hgw HROW P2
  rw [hsz2] at mp1
  generalize w2.setCell ⟨w.heap.size, 0, none⟩ (.slice (some ⟨g, 0, none⟩) D.length cap) = w3 at *
  rw [← hsz2] at hz2
  have hgw3 : g < w3.heap.size := by rw [hsz2]; exact HGW.out
  have I0 : ∃ F v Dm, FacesI w g w2.heap.size (.slice (some ⟨g, 0, none⟩) D.length cap) D [] ((((w3.alloc (.map #[] 0)).alloc (.cells #[.map (some w2.heap.size)] 58)).alloc (.cells #[.slice none 0 0] 26)).alloc (.cells #[.slice (some ⟨g, 0, none⟩) D.length cap] 24)) F v Dm := by
    have bS := Boxed.new (w3.alloc (.map #[] 0)) 58 (.map (some w2.heap.size))
    have bF := Boxed.new ((w3.alloc (.map #[] 0)).alloc (.cells #[.map (some w2.heap.size)] 58)) 26 (.slice none 0 0)
    simp only [World.size_alloc, hsz2] at bS bF
    exact ⟨[], .slice none 0 0, .map [], (((hbx.alloc _).alloc _).alloc _).alloc _, (bS.alloc _).alloc _, bF.alloc _, World.ownsRow_nil _ _ _ _, by simp, rw1.below (((((Below.refl _ _).alloc (Nat.le_refl _) _).alloc (by simp) _).alloc (by simp; omega) _).alloc (by simp; omega) _),
      ((mp1.alloc _).alloc _).alloc _, SeenD.empty, List.nodup_nil, Nat.le_refl _, by simp, (((hB3.alloc (by omega) _).alloc (by simp; omega) _).alloc (by simp; omega) _).alloc (by simp; omega) _, by simp [Value.ownBlock]⟩
  have bN : Boxed ((((w3.alloc (.map #[] 0)).alloc (.cells #[.map (some w2.heap.size)] 58)).alloc (.cells #[.slice none 0 0] 26)).alloc (.cells #[.slice (some ⟨g, 0, none⟩) D.length cap] 24)) (w2.heap.size + 1 + 1 + 1) 24 (.slice (some ⟨g, 0, none⟩) D.length cap) := by
    have := Boxed.new (((w3.alloc (.map #[] 0)).alloc (.cells #[.map (some w2.heap.size)] 58)).alloc (.cells #[.slice none 0 0] 26)) 24 (.slice (some ⟨g, 0, none⟩) D.length cap)
    simpa only [World.size_alloc, hsz2] using this
  have hszX : (((w3.alloc (.map #[] 0)).alloc (.cells #[.map (some w2.heap.size)] 58)).alloc (.cells #[.slice none 0 0] 26)).heap.size = w2.heap.size + 1 + 1 + 1 := by simp [hsz2]
  rw [hszX]
  have hsz0 : ((((w3.alloc (.map #[] 0)).alloc (.cells #[.map (some w2.heap.size)] 58)).alloc (.cells #[.slice none 0 0] 26)).alloc (.cells #[.slice (some ⟨g, 0, none⟩) D.length cap] 24)).heap.size = w2.heap.size + 1 + 1 + 1 + 1 := by rw [World.size_alloc, hszX]
  clear hszX mp1 hbx rw1 hB3
  rw [hsz2] at hgw3 hz2
  clear hsz2
  generalize (((w3.alloc (.map #[] 0)).alloc (.cells #[.map (some w2.heap.size)] 58)).alloc (.cells #[.slice none 0 0] 26)).alloc (.cells #[.slice (some ⟨g, 0, none⟩) D.length cap] 24) = W0 at *
  clear w3 HB2 HGW
  generalize w2.heap.size = m at *
  clear w2
  gi_wp2
  have hBf : m + 1 + 1 < W0.heap.size := by omega
  have hseq : SeqStopsK Fence.wide (5 - 1) Try.prog 50 #[.pointer (some ⟨m + 1 + 1 + 1, 0, none⟩)] (fun x : Pl => #[Pl.v (cl x)]) (KeepR (m + 1 + 1)) (fun ys => ys = triL D) (fun pre => pre <+: triL D) 230000 W0 := by
    obtain ⟨F, v, Dm, hI⟩ := I0
    have hrd := hI.rd
    have hvs := hrd.vecs (Nat.le_refl _) (by omega)
    rw [List.take_length] at hvs
    refine triples_seq (5 - 1) (m + 1 + 1 + 1) (m + 1 + 1) D.length cap (by omega) (some ⟨g, 0, none⟩) D W0 bN hvs hBf (by omega) (fun b off e => by cases e; omega) (fun x ⟨off, a, b, hx⟩ => ?_) HDL.out hDc hDc2
    have := hI.mem
    have hF : F = [] := List.eq_nil_iff_forall_not_mem.2 fun p hp => by have := (hI.mem p).1 hp; simp at this
    rw [(box_own hI.bF).cell 0, hI.nil.2 hF] at hx
    simp at hx
  obtain ⟨i0, hi, hz0, hz1, hz2'⟩ := info_parts infoPl
  refine wpIn_rangeFunc_ownH rfl (by omega) (gf := 50) (lb := #[.pointer (some ⟨m + 1 + 1 + 1, 0, none⟩)]) rfl trivial (enters_of Try.func50 (by kernel_rfl) rfl)
    hseq KeepR.trans (KeepR.putObj (w := W0) hBf) (Below.refl _ _) (fun _ => rfl)
    (fun pre W => ∃ F v Dm, FacesI w g m (.slice (some ⟨g, 0, none⟩) D.length cap) D pre W F v Dm)
    (fun _ _ _ => False)
    (FacesI.from (by omega) (by omega))
    (fun _ _ _ _ _ h _ _ => h)
    I0
    (fun x a' W => ∃ Bx, OwnT W Bx #[.int .i64 (cl x).n.x, .int .i64 (cl x).n.y, .int .i64 (cl x).n.z, .int .i64 (cl x).b] 33 ∧ m + 1 + 1 < Bx ∧ a' = { tmps := #[.slice A n c, .pointer (some ⟨w.heap.size, 0, none⟩), .slice none 0 0, .int .i64 0, .int .i64 0, .pointer (some ⟨m + 1, 0, none⟩), .pointer (some ⟨m + 1 + 1, 0, none⟩), .pointer (some ⟨Bx, 0, none⟩), .slice A n c, .int .i64 0, .int .i64 0, .bool false, undef, .slice A n c, .slice (some ⟨g, 0, none⟩) D.length cap, .map (some m), .slice (some ⟨g, 0, none⟩) D.length cap, .func (.func 50) #[] #[.pointer (some ⟨m + 1 + 1 + 1, 0, none⟩)], Pl.v (cl x), undef, undef, undef, undef, undef, undef, undef, undef, undef, undef, undef, undef, undef, undef, undef, undef], defers := [] })
    (fun x a' _ X Y row hs hg hr => by obtain ⟨Bx, h2, h3, h4⟩ := hs; exact ⟨Bx, ownT_own () X Y row h2 hg hr, h3, h4⟩)
    ?assign ?body ?done ?stop
  case assign =>
    rintro l pre x W K ⟨F, v, Dm, hI⟩ hK
    have hz := hI.bF.lt
    gi_wp2
    exact hK _ _ ((KeepsOthers.alloc _ _).from _) (KeepR.below ((Below.refl _ W).alloc (Nat.le_refl _) _) hz) ⟨F, v, Dm, hI.alloc _⟩ ⟨W.heap.size, OwnT.new, hz, rfl⟩
  case body =>
    rintro l pre x a' W hl ⟨r, hr⟩ ⟨F, v, Dm, hI⟩ ⟨Bx, bX, hBx, rfl⟩ hlt
    have hx := cl_i64 x
    obtain ⟨X, hX⟩ : ∃ X, cl x = X := ⟨_, rfl⟩
    rw [hX] at hx bX ⊢
    obtain ⟨⟨x0, x1, x2⟩, x3⟩ := X
    obtain ⟨kl, hkl⟩ := key_plane x0 x1 x2 x3 hx.1 hx.2.1 hx.2.2.1 hx.2.2.2
    have hrun := look_bool hI.mp hI.seen (p := ⟨⟨x0, x1, x2⟩, x3⟩) hkl
    have HI := Lib.hid hI
    have HX := Lib.hid hX
    have cS := (box_own hI.bS).cell
    have cX := bX.own.cell
    have hpm : (pre ++ [x]).map cl = pre.map cl ++ [⟨⟨x0, x1, x2⟩, x3⟩] := by rw [List.map_append, List.map_cons, List.map_nil, hX]
    have HPM := Lib.hid hpm
    clear hI hX hseq I0 hpm
    by_cases hmem : (⟨⟨x0, x1, x2⟩, x3⟩ : Pl) ∈ pre.map cl
    · have hd : decide ((⟨⟨x0, x1, x2⟩, x3⟩ : Pl) ∈ pre.map cl) = true := decide_eq_true hmem
      rw [hd] at hrun
      have HM := Lib.hid hmem
      clear hd hmem
      gi_wp2
      have hI := HI.out
      refine ⟨(KeepsOthers.refl _).from _, KeepR.refl _ _, F, v, Dm, hI.b0, hI.bS, hI.bF, hI.row, hI.nil, hI.rd, hI.mp.mono (by simp), ?_, hI.nd, ?_, fun p => ?_, hI.bel, hI.sep⟩
      · rw [HPM.out]; exact hI.seen.again HM.out
      · have := hI.len
        simp; omega
      · rw [hI.mem p, HPM.out, List.mem_append, List.mem_singleton]
        have := HM.out
        constructor
        · rintro ⟨h1, h2⟩; exact ⟨.inl h1, h2⟩
        · rintro ⟨h1 | rfl, h2⟩
          · exact ⟨h1, h2⟩
          · exact ⟨this, h2⟩
    · have hd : decide ((⟨⟨x0, x1, x2⟩, x3⟩ : Pl) ∈ pre.map cl) = false := decide_eq_false hmem
      rw [hd] at hrun
      have HM := Lib.hid hmem
      clear hd hmem
      obtain ⟨es, clock, hmap, _⟩ := id HI.out.mp
      have hmc : ∀ cs T f, W.heap[m]? ≠ some (.cells cs T f) := fun cs T f h => by rw [hmap] at h; cases h
      have HMC := Lib.hid hmc
      have hr1 : ∀ r, some m = some r → 0 ≤ r ∧ ∃ o : Obj, W.heap[r]? = some o ∧ o.isCells = false := fun r e => by cases e; exact ⟨Nat.zero_le _, _, hmap, rfl⟩
      have HR1 := Lib.hid hr1
      have hdone : ∀ (w1 w3 : World), W.grownBy w1 (some m) → Below w1.heap.size w1 w3 → Boxed w3 w.heap.size 24 (.slice (some ⟨g, 0, none⟩) D.length cap) ∧ Boxed w3 (m + 1) 58 (.map (some m)) ∧ Boxed w3 (m + 1 + 1) 26 v ∧ w3.ownsRow w.heap.size 33 4 v F.length (flatP F) ∧ RowO w3 g D ∧ OwnT w3 Bx #[.int .i64 x0, .int .i64 x1, .int .i64 x2, .int .i64 x3] 33 ∧ Below w.heap.size w w3 ∧ KeepsFrom W0.heap.size W w3 ∧ KeepR (m + 1 + 1) W w3 := fun w1 w3 hg1 hb3 => by
        have hI := HI.out
        have hg3 := below_grown hb3
        have hn : ∀ {X : World} (r : Nat), none = some r → 0 ≤ r ∧ ∃ o : Obj, X.heap[r]? = some o ∧ o.isCells = false := fun r e => by cases e
        have k1 := KeepR.grown hg1 hI.bF.lt (by omega) HMC.out
        exact ⟨boxed_own' (B := 0) () _ _ _ (boxed_own' (B := 0) () _ _ _ hI.b0 hg1 HR1.out) hg3 hn, boxed_own' (B := 0) () _ _ _ (boxed_own' (B := 0) () _ _ _ hI.bS hg1 HR1.out) hg3 hn, boxed_own' (B := 0) () _ _ _ (boxed_own' (B := 0) () _ _ _ hI.bF hg1 HR1.out) hg3 hn,
          row_own (B := 0) () _ _ _ (row_own (B := 0) () _ _ _ hI.row hg1 HR1.out) hg3 hn, rowO_own (B := 0) () _ _ _ (rowO_own (B := 0) () _ _ _ hI.rd hg1 HR1.out) hg3 hn, ownT_own (B := 0) () _ _ _ (ownT_own (B := 0) () _ _ _ bX hg1 HR1.out) hg3 hn,
          Below.hop (hI.bel.grown hg1 hI.bel.size (fun k e => by cases e; omega)) hb3, (KeepsFrom.of_grownBy hg1 (fun j e => by cases e; omega)).trans ((KeepsOthers.of_grownBy hg3 (fun _ _ e => by cases e)).from _), k1.trans (KeepR.below hb3 (by have := hI.bF.lt; have := hg1.size; omega))⟩
      have HDONE := Lib.hid hdone
      clear hmap hmc hr1 hdone
      gi_wp2_with (gi_at_mapUpdate; refine wpListIn_mapUpdate_own _ rfl _ _ _ 58 rfl 33 4 key_law Try.underlying58 _ m pre.length Dm rfl HI.out.mp (by unfold maxLen; omega) _ _ kl rfl rfl hkl (.lit (.bool true)) [] (plainElem_bool Try.underlying4 true) ?_; intro w1 hown1 hgrow1; have hd1 := HDONE.out w1 w1 hgrow1 (Below.refl _ _); have c0 := (box_own hd1.1).cell; have cF := (box_own hd1.2.2.1).cell; have cX2 := hd1.2.2.2.2.2.1.own.cell)
      have hvs := hd1.2.2.2.2.1.vecs (Nat.le_refl _) (by have := HDL.out; omega)
      rw [List.take_length] at hvs
      have hby := hull_beyond (some ⟨g, 0, none⟩) D.length cap D x0 x1 x2 x3 hx.1 hx.2.1 hx.2.2.1 w1 hvs
      have HO1 := Lib.hid hown1
      have HG1 := Lib.hid hgrow1
      clear hvs hd1 hown1 hgrow1
      cases hin : insideB D ⟨⟨x0, x1, x2⟩, x3⟩ with
      | false =>
        rw [hin] at hby
        have HBY := Lib.hid hby
        have HIN2 := Lib.hid hin
        clear hby hin
        refine ⟨trivial, (CallsIn.inRound l (callsIn_wide.2 HBY.out)).mono ?_⟩
        rintro e w3 ⟨rfl, hb3⟩
        have HB3 := Lib.hid hb3
        clear c0 cF cX2 hb3
        gi_wp2
        have hI := HI.out
        obtain ⟨q1, q2, q3, q4, q5, q6, q7, q8, q9⟩ := HDONE.out w1 w3 HG1.out HB3.out
        refine ⟨q8, q9, F, v, _, q1, q2, q3, q4, hI.nil, q5, (HO1.out.kept (below_grown HB3.out) (by simp)).mono (by simp), ?_, hI.nd, ?_, fun p => ?_, q7, hI.sep⟩
        · rw [HPM.out]; exact hI.seen.put hI.mp.isMap hkl
        · have := hI.len
          simp; omega
        · rw [hI.mem p, HPM.out, List.mem_append, List.mem_singleton]
          have := HIN2.out
          constructor
          · rintro ⟨h1, h2⟩; exact ⟨.inl h1, h2⟩
          · rintro ⟨h1 | rfl, h2⟩
            · exact ⟨h1, h2⟩
            · rw [this] at h2; cases h2
      | true =>
        rw [hin] at hby
        have HBY := Lib.hid hby
        have HIN2 := Lib.hid hin
        clear hby hin
        refine ⟨trivial, (CallsIn.inRound l (callsIn_wide.2 HBY.out)).mono ?_⟩
        rintro e w3 ⟨rfl, hb3⟩
        have HB3 := Lib.hid hb3
        have hd3 := HDONE.out w1 w3 HG1.out hb3
        have HD3 := Lib.hid hd3
        have cF := (box_own hd3.2.2.1).cell
        have cX2 := hd3.2.2.2.2.2.1.own.cell
        have hfl : F.length ≤ pre.length := HI.out.len
        have hz3 : w.heap.size ≤ w3.heap.size := hd3.2.2.2.2.2.2.1.size
        clear c0 hb3 hd3
        gi_wp2_with (gi_at_builtin; refine wpListIn_append_own_at _ rfl _ _ 26 rfl w.heap.size 33 i0 (.agg #[.int .i64 0, .int .i64 0, .int .i64 0, .int .i64 0]) 4 32 Try.underlying26 hi hz0 hz1 hz2' rfl (by decide) v F.length (flatP F) rfl (HD3.out.2.2.2.1.alloc _) ⟨w3.heap.size, 0, none⟩ 1 1 [.int .i64 x0, .int .i64 x1, .int .i64 x2, .int .i64 x3] rfl rfl (World.news_of_block (heap_alloc_new w3 _)) (by intro u hu; simp at hu; rcases hu with rfl | rfl | rfl | rfl <;> rfl) (by unfold maxLen; omega) (by omega) (by simp; omega) ?_; intro v' w4 hown' hgrow _ hat; obtain ⟨g', cap', rfl⟩ := ownsRow_succ hown'; obtain ⟨hv1, hv2, hr2, hk2, hb2⟩ := HD3.out.2.2.1.appended (by decide) HD3.out.2.2.2.1 hz3 (by omega) hown' hgrow; have hc1 := hv1.cell; have hf1 := hv1.frozen)
        have hI := HI.out
        obtain ⟨q1, q2, q3, q4, q5, q6, q7, q8, q9⟩ := HD3.out
        have hgs := hgrow.size
        simp only [World.size_alloc] at hgs
        have ne0 : (⟨w.heap.size, 0, none⟩ : Addr).block ≠ m + 1 + 1 := by simp; omega
        have z0 := q1.lt
        have z1 := q2.lt
        have z5 := q5.lt
        have k0 := (q1.alloc (.cells #[.int .i64 x0, .int .i64 x1, .int .i64 x2, .int .i64 x3] 33)).kept hgrow (q1.not_row (by decide) q4)
        have k1 := (q2.alloc (.cells #[.int .i64 x0, .int .i64 x1, .int .i64 x2, .int .i64 x3] 33)).kept hgrow (q2.not_row (by decide) q4)
        have hga : (w3.alloc (.cells #[.int .i64 x0, .int .i64 x1, .int .i64 x2, .int .i64 x3] 33)).heap[g]? = w3.heap[g]? := Below.block ((Below.refl _ _).alloc (Nat.le_refl _) _) g z5
        have hgb : w4.heap[g]? = w3.heap[g]? := (hgrow.block g (by simp; omega) (fun e => hI.sep e.symm)).trans hga
        have hgne : g ≠ m + 1 + 1 := by have := HG.out; omega
        have hgc := (Below.heap_setCell w4 ⟨m + 1 + 1, 0, none⟩ (.slice (some ⟨g', 0, none⟩) (F.length + 1) cap') g hgne).trans hgb
        have hmp1 := HO1.out.kept (below_grown HB3.out) (by simp)
        have hmne : some m ≠ v.ownBlock := fun e => by
          obtain ⟨cs, T, f, h1⟩ := own_row_cells q4 m e.symm
          obtain ⟨es, clock, h2, _⟩ := id hmp1
          rw [h1] at h2; cases h2
        have hmp2 := (((hmp1.alloc (.cells #[.int .i64 x0, .int .i64 x1, .int .i64 x2, .int .i64 x3] 33)).kept hgrow hmne).setCell (a := ⟨m + 1 + 1, 0, none⟩) (by simp; omega) (.slice (some ⟨g', 0, none⟩) (F.length + 1) cap')).mono (n' := (pre ++ [x]).length) (by simp)
        have hlt4 : g' < w4.heap.size := by
          obtain ⟨cs, T, f, h1⟩ := own_row_cells hown' g' rfl
          exact (Array.getElem?_eq_some_iff.1 h1).1
        have kr := KeepR.appended hgrow (own_row_pts q3 q4) hat hlt4 hv1
        have hnm : ¬ (⟨⟨x0, x1, x2⟩, x3⟩ : Pl) ∈ F := fun h => HM.out ((hI.mem _).1 h).1
        refine ⟨q8.trans (hk2.from _), q9.trans kr, F ++ [⟨⟨x0, x1, x2⟩, x3⟩], _, _, (Below.heap_setCell w4 ⟨m + 1 + 1, 0, none⟩ _ _ (by simp; omega)).trans k0, (Below.heap_setCell w4 ⟨m + 1 + 1, 0, none⟩ _ _ (by simp)).trans k1, hv2, ?_, by simp, q5.same hgc, hmp2, ?_, ?_, ?_, fun p => ?_, q7.trans hb2, ?_⟩
        · rw [flatP_snoc, List.length_append, List.length_cons, List.length_nil]
          exact hr2
        · rw [HPM.out]; exact hI.seen.put hI.mp.isMap hkl
        · rw [List.nodup_append]
          exact ⟨hI.nd, by simp, fun a ha b hb e => by rw [List.mem_singleton] at hb; subst hb; subst e; exact hnm ha⟩
        · have := hI.len
          simp; omega
        · rw [List.mem_append, hI.mem p, HPM.out, List.mem_append, List.mem_singleton]
          have := HIN2.out
          constructor
          · rintro (⟨h1, h2⟩ | rfl)
            · exact ⟨.inl h1, h2⟩
            · exact ⟨.inr rfl, this⟩
          · rintro ⟨h1 | rfl, h2⟩
            · exact .inl ⟨h1, h2⟩
            · exact .inr rfl
        · rcases hat with e | e
          · rw [e]; exact hI.sep
          · rw [e]; intro e2; injection e2 with e2; simp at e2; omega
  case done =>
    rintro D2 ys W hD2 rfl ⟨F, v, Dm, hI⟩ hK
    have hmem : ∀ p, p ∈ F ↔ p ∈ triL D ∧ insideB D p = true := fun p => by
      rw [hI.mem p]
      have e : (triL D).map cl = triL D := by
        conv => rhs; rw [← List.map_id (triL D)]
        exact List.map_congr_left fun q hq => triL_cl hq
      rw [e]
    have hfac : ∀ M : List Pl, M.Perm F → M.Pairwise (fun a b => pLt b a = false) → M = facets L := fun M hp hs => by
      refine facets_of HIN.out ?_ (fun p => by rw [hp.mem_iff, hmem, HDD.out])
      have hnd : M.Nodup := hp.nodup_iff.2 hI.nd
      have := List.Pairwise.and hs hnd
      exact this.imp fun {a b} ⟨h1, h2⟩ => by
        rcases pLt_strict.tri a b with e | e | e
        · exact e
        · exact absurd e h2
        · rw [h1] at e; cases e
    have hFlen : F.length ≤ 230000 := by
      have h1 := triI_len D D.length HDL.out
      have h2 := hI.len
      have h3 := HDL.out
      unfold triL at h2
      omega
    have HFAC := Lib.hid hfac
    have HI := Lib.hid hI
    have cF := (box_own hI.bF).cell
    clear hI hseq I0 hfac hmem
    by_cases hF : F = []
    · have hv0 := HI.out.nil.2 hF
      subst hv0
      subst hF
      gi_wp2_with fail
      refine ⟨trivial, (callsIn_wide.2 (sortP_none none 0 W)).mono ?_⟩
      rintro e W2 ⟨rfl, rfl⟩
      gi_wp2
      refine ⟨by simp, .inl ⟨_, _, rfl, run_takeDeferred hK, ?_⟩⟩
      have e := HFAC.out [] (List.Perm.refl _) List.Pairwise.nil
      rw [← e]
      exact ⟨_, results_tmp2 rfl _ _ _, _, rfl, SlP.nil _ _, HI.out.bel.trans (belowK_b (w := w) (Nat.le_refl _) _ D2 _ _ (by have := HI.out.bel.size; omega) hK rfl rfl)⟩
    · have hpos : 0 < F.length := List.length_pos_iff.2 hF
      have hrow := HI.out.row
      obtain ⟨gF, capF, rfl⟩ := ownsRow_pos' hrow hpos
      obtain ⟨hg1, hg2, hg3, cs, hgo, hgc⟩ := ownsRow_own hrow hpos
      have hq : RowQ W gF F := ⟨cs, hgo, fun i hi => by
        have q := fun k (hk : k < 4) => (hgc (i * 4 + k) (by omega)).trans (flatP_at F i k hi hk)
        exact ⟨q 0 (by omega), q 1 (by omega), q 2 (by omega), q 3 (by omega)⟩⟩
      have hKc : ∀ cs' T f, W.heap[D2]? ≠ some (.cells cs' T f) := fun cs' T f h => by rw [hK] at h; cases h
      have hD2g : D2 ≠ gF := fun e => by
        obtain ⟨T, h⟩ := hgo
        exact hKc _ _ _ (e ▸ h)
      have hsort := sortP_own capF hq (by omega)
      have HS := Lib.hid hsort
      have HK := Lib.hid hK
      clear hsort hq hgo hgc hKc hK hrow
      gi_wp2_with fail
      refine ⟨trivial, (callsIn_wide.2 HS.out).mono ?_⟩
      rintro e W2 ⟨rfl, M, hp, hpw, hrow2, hup⟩
      have hbF : Boxed W2 (m + 1 + 1) 26 (.slice (some ⟨gF, 0, none⟩) F.length capF) := (hup.block _ HI.out.bF.lt (by simp; intro e; exact HI.out.bF.not_row (by decide) HI.out.row (by rw [e]; rfl))).trans HI.out.bF
      have hM := HFAC.out M hp hpw
      have hML := hp.length_eq
      have hK2 : W2.heap[D2]? = some (.deferred (some [])) := (hup.block D2 (Array.getElem?_eq_some_iff.1 HK.out).1 (by simpa using hD2g)).trans HK.out
      have hbel := Upd.below HI.out.bel hup (fun b hb => by simp at hb; omega)
      have HM := Lib.hid hM
      have HROW2 := Lib.hid hrow2
      have HUP := Lib.hid hup
      have hcF2 := (box_own hbF).cell
      clear hM hrow2 hup hp hpw HS cF hbF
      gi_wp2
      refine ⟨by simp, .inl ⟨_, _, rfl, run_takeDeferred hK2, ?_⟩⟩
      have hpl := HROW2.out.pls (by omega)
      unfold maxLen at hg3
      have hq2 : RowQ (W2.putObj D2 (.deferred none)) gF M := HROW2.out.same (World.putObj_heap_other (by omega))
      have hpl2 := hq2.pls (by omega)
      rw [← HM.out]
      exact ⟨_, results_tmp2 rfl _ _ _, _, rfl, ⟨some ⟨gF, 0, none⟩, capF, by rw [hML]; rfl, by omega, by omega, hpl2, fun b off e => by cases e; exact hg1⟩, hbel.trans (belowK_b (w := w) (Nat.le_refl _) _ D2 _ _ (by have := HI.out.bel.size; omega) hK2 rfl rfl)⟩
  case stop =>
    rintro D2 cd pre W _ _ h _
    exact h.elim
theorem hull_Faces {w : World} {A : Option Addr} {n : Nat} {L : List V3} (c : Nat) (hv : VecsAt w A n L) (hnc : n ≤ c) (hc : c ≤ 9223372036854775807) :
    Calls Try.prog 8 #[.slice A n c] w fun e w' => ∃ v, e = .returned (.tuple #[v, .int .i64 (hCheck L)]) ∧ SlP w.heap.size w' v (hFaces L) ∧ Below w.heap.size w w' := by
  by_cases h : hCheck L = 0
  · unfold hFaces
    rw [if_pos h, h]
    exact hull_Faces_ok c hv hnc hc h
  · unfold hFaces
    rw [if_neg h]
    exact hull_Faces_bad c hv hnc hc h
end Go.Proofs.Ytccnlnkgoaelpaa
