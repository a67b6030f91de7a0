/- Package hull: rows of vectors and of planes of one's own; slices.SortFunc over them. -/
import Derived.Shelf.SlSortCmp.NoneTotal
import Derived.Test.YtccnlnkgoaelpaaHullE
import Derived.Test.YtccnlnkgoaelpaaDraw
namespace Go.Proofs.Ytccnlnkgoaelpaa
open Go.RowKit Go.Sort LG

/-- Block g holds the vectors M from its start on. -/
def RowO (w : World) (g : Nat) (M : List V3) : Prop := ∃ cs, Own w g cs ∧ ∀ i, i < M.length → cs[i * 3]? = some (.int .i64 (vAt M i).x) ∧ cs[i * 3 + 1]? = some (.int .i64 (vAt M i).y) ∧ cs[i * 3 + 2]? = some (.int .i64 (vAt M i).z)
def RowQ (w : World) (g : Nat) (M : List Pl) : Prop := ∃ cs, Own w g cs ∧ ∀ i, i < M.length → cs[i * 4]? = some (.int .i64 (pAt M i).n.x) ∧ cs[i * 4 + 1]? = some (.int .i64 (pAt M i).n.y) ∧ cs[i * 4 + 2]? = some (.int .i64 (pAt M i).n.z) ∧ cs[i * 4 + 3]? = some (.int .i64 (pAt M i).b)
theorem RowO.lt {w : World} {g : Nat} {M : List V3} (h : RowO w g M) : g < w.heap.size := by obtain ⟨_, ho, _⟩ := h; exact ho.lt
theorem RowQ.lt {w : World} {g : Nat} {M : List Pl} (h : RowQ w g M) : g < w.heap.size := by obtain ⟨_, ho, _⟩ := h; exact ho.lt
theorem RowO.same {w w' : World} {g : Nat} {M : List V3} (h : RowO w g M) (e : w'.heap[g]? = w.heap[g]?) : RowO w' g M := by obtain ⟨cs, ho, hc⟩ := h; exact ⟨cs, ho.of_block e, hc⟩
theorem RowQ.same {w w' : World} {g : Nat} {M : List Pl} (h : RowQ w g M) (e : w'.heap[g]? = w.heap[g]?) : RowQ w' g M := by obtain ⟨cs, ho, hc⟩ := h; exact ⟨cs, ho.of_block e, hc⟩
theorem RowO.below {w w' : World} {g : Nat} {M : List V3} (h : RowO w g M) (hb : Below w.heap.size w w') : RowO w' g M := h.same (hb.block _ h.lt)
theorem RowQ.below {w w' : World} {g : Nat} {M : List Pl} (h : RowQ w g M) (hb : Below w.heap.size w w') : RowQ w' g M := h.same (hb.block _ h.lt)
theorem vAt_take {M : List V3} {m i : Nat} (h : i < m) : vAt (M.take m) i = vAt M i := by
  unfold vAt; rw [List.getD_eq_getElem?_getD, List.getD_eq_getElem?_getD, List.getElem?_take_of_lt h]
theorem RowO.vecs {w : World} {g : Nat} {M : List V3} (h : RowO w g M) {m : Nat} (hm : m ≤ M.length) (hx : M.length ≤ 9223372036854775807) : VecsAt w (some ⟨g, 0, none⟩) m (M.take m) := by
  obtain ⟨cs, ho, hc⟩ := h
  refine ⟨by simp; omega, by omega, fun _ => ⟨g, 0, rfl, ho.lt, fun i hi => ?_⟩⟩
  rw [vAt_take hi, Nat.zero_add]
  obtain ⟨h1, h2, h3⟩ := hc i (by omega)
  exact ⟨(ho.cell _).trans h1, (ho.cell _).trans h2, (ho.cell _).trans h3⟩
theorem RowQ.pls {w : World} {g : Nat} {M : List Pl} (h : RowQ w g M) (hx : M.length ≤ 9223372036854775807) : PlsAt w (some ⟨g, 0, none⟩) M.length M := by
  obtain ⟨cs, ho, hc⟩ := h
  refine ⟨rfl, hx, fun _ => ⟨g, 0, rfl, ho.lt, fun i hi => ?_⟩⟩
  rw [Nat.zero_add]
  obtain ⟨h1, h2, h3, h4⟩ := hc i hi
  exact ⟨(ho.cell _).trans h1, (ho.cell _).trans h2, (ho.cell _).trans h3, (ho.cell _).trans h4⟩
theorem own_map {w : World} {g : Nat} {cs : Array Value} (f : Array Value → Array Value) (h : Own w g cs) : Own (mapBlock w g f) g (f cs) := by
  obtain ⟨T, h⟩ := h
  exact ⟨T, by simp [mapBlock, Array.getElem?_modify, h, onCells]⟩
theorem own_grow {w : World} {g : Nat} {cs : Array Value} (os : Array Obj) (h : Own w g cs) : Own (grow w os) g cs := by
  have hl := h.lt
  obtain ⟨T, h⟩ := h
  exact ⟨T, by simp only [grow]; rw [Array.getElem?_append_left hl]; exact h⟩
theorem arr_at {α : Type} [Inhabited α] (d : Array α) {i : Nat} (h : i < d.size) : d[i]! = d.toList[i]'(by simpa using h) := by
  rw [getElem!_pos d i h]; rfl
theorem arr_v (d : Array V3) {i : Nat} (h : i < d.size) : d[i]! = vAt d.toList i := by
  unfold vAt; rw [List.getD_eq_getElem?_getD, List.getElem?_eq_getElem (by simpa using h)]; exact arr_at d h
theorem arr_p (d : Array Pl) {i : Nat} (h : i < d.size) : d[i]! = pAt d.toList i := by
  unfold pAt; rw [List.getD_eq_getElem?_getD, List.getElem?_eq_getElem (by simpa using h)]; exact arr_at d h
theorem swo_of {α : Type} {lt : α → α → Bool} (S : Strict lt) : SWO lt where
  irrefl x := S.irr x
  trans x y z h1 h2 := S.trans x y z h1 h2
  ntrans x y z h1 h2 := by
    rw [Bool.eq_false_iff]; intro h3
    rcases S.tri x y with e | e | e
    · rw [h1] at e; cases e
    · subst e; rw [h2] at h3; cases h3
    · have := S.trans _ _ _ e h3; rw [h2] at this; cases this
theorem sortWorld_upd {α : Type} [Inhabited α] (enc : α → List Value) (k : Nat) (w : World) (g n : Nat) (d : Array α) (os : Array Obj) : Upd [g] w (sortWorldK enc k w g 0 n d os) := by
  refine ⟨rfl, rfl, rfl, by simp [sortWorldK, grow, putRowK, putRow, mapBlock, Sort.ahead], fun b hb hg => ?_⟩
  have hne : g ≠ b := fun e => hg (by simp [e])
  simp only [sortWorldK, grow, putRowK, putRow, mapBlock, Sort.ahead]
  rw [Array.getElem?_append_left (by simpa using hb), Array.getElem?_modify, if_neg hne]
theorem holdsV {w : World} {g : Nat} {M : List V3} (h : RowO w g M) : HoldsK encV 3 w g 0 M.toArray := by
  obtain ⟨cs, ho, hc⟩ := h
  intro j hj
  rw [size_flatK] at hj
  have hj' : j < M.length * 3 := by simpa using hj
  rw [get_flatK _ _ _ _ hj]
  obtain ⟨i, c, hc3, rfl⟩ : ∃ i c, c < 3 ∧ j = i * 3 + c := ⟨j / 3, j % 3, by omega, by omega⟩
  rw [show (i * 3 + c) / 3 = i by omega, show (i * 3 + c) % 3 = c by omega, arr_v _ (by simp; omega)]
  simp only [List.toList_toArray, Nat.zero_add, id]
  refine ⟨?_, ho.thaw _⟩
  obtain ⟨h0, h1, h2⟩ := hc i (by omega)
  rw [ho.cell]
  rcases (show c = 0 ∨ c = 1 ∨ c = 2 by omega) with rfl | rfl | rfl
  · simpa [encV] using h0
  · simpa [encV] using h1
  · simpa [encV] using h2
theorem of_holdsV {w : World} {g : Nat} {M : List V3} (h : RowO w g M) (n : Nat) (d : Array V3) (hd : d.size = M.length) (os : Array Obj) : RowO (sortWorldK encV 3 w g 0 n d os) g d.toList := by
  have hH := holdsV h
  have hl := h.lt
  obtain ⟨cs, ho, hc⟩ := h
  have o1 : Own (Sort.ahead w n) g cs := ho
  have o2 := own_grow os (own_map (putCells id 0 (flatK encV 3 d)) o1)
  have h2 : HoldsK encV 3 (sortWorldK encV 3 w g 0 n d os) g 0 d :=
    holdsK_grow encV 3 _ os g 0 d (by simpa [putRowK, putRow, mapBlock, Sort.ahead] using hl) (holdsK_putRowK encV 3 _ g 0 M.toArray d (holdsK_ahead encV 3 w n g 0 _ hH) (by simpa using hd))
  refine ⟨_, o2, fun i hi => ?_⟩
  have hi' : i < d.size := by simpa using hi
  have e := fun c hc => (HoldsK.cell h2 (i := i) (c := c) hi' hc).1
  have q : ∀ j, (sortWorldK encV 3 w g 0 n d os).cell? ⟨g, j, none⟩ = _ := o2.cell
  rw [← arr_v d hi']
  refine ⟨?_, ?_, ?_⟩
  · have := e 0 (by omega)
    simp only [Nat.zero_add, Nat.add_zero] at this
    exact (q (i * 3)).symm.trans (by simpa [encV] using this)
  · have := e 1 (by omega)
    simp only [Nat.zero_add] at this
    exact (q (i * 3 + 1)).symm.trans (by simpa [encV] using this)
  · have := e 2 (by omega)
    simp only [Nat.zero_add] at this
    exact (q (i * 3 + 2)).symm.trans (by simpa [encV] using this)
theorem holdsP {w : World} {g : Nat} {M : List Pl} (h : RowQ w g M) : HoldsK encP 4 w g 0 M.toArray := by
  obtain ⟨cs, ho, hc⟩ := h
  intro j hj
  rw [size_flatK] at hj
  have hj' : j < M.length * 4 := by simpa using hj
  rw [get_flatK _ _ _ _ hj]
  obtain ⟨i, c, hc3, rfl⟩ : ∃ i c, c < 4 ∧ j = i * 4 + c := ⟨j / 4, j % 4, by omega, by omega⟩
  rw [show (i * 4 + c) / 4 = i by omega, show (i * 4 + c) % 4 = c by omega, arr_p _ (by simp; omega)]
  simp only [List.toList_toArray, Nat.zero_add, id]
  refine ⟨?_, ho.thaw _⟩
  obtain ⟨h0, h1, h2, h3⟩ := hc i (by omega)
  rw [ho.cell]
  rcases (show c = 0 ∨ c = 1 ∨ c = 2 ∨ c = 3 by omega) with rfl | rfl | rfl | rfl
  · simpa [encP] using h0
  · simpa [encP] using h1
  · simpa [encP] using h2
  · simpa [encP] using h3
theorem of_holdsP {w : World} {g : Nat} {M : List Pl} (h : RowQ w g M) (n : Nat) (d : Array Pl) (hd : d.size = M.length) (os : Array Obj) : RowQ (sortWorldK encP 4 w g 0 n d os) g d.toList := by
  have hH := holdsP h
  have hl := h.lt
  obtain ⟨cs, ho, hc⟩ := h
  have o1 : Own (Sort.ahead w n) g cs := ho
  have o2 := own_grow os (own_map (putCells id 0 (flatK encP 4 d)) o1)
  have h2 : HoldsK encP 4 (sortWorldK encP 4 w g 0 n d os) g 0 d :=
    holdsK_grow encP 4 _ os g 0 d (by simpa [putRowK, putRow, mapBlock, Sort.ahead] using hl) (holdsK_putRowK encP 4 _ g 0 M.toArray d (holdsK_ahead encP 4 w n g 0 _ hH) (by simpa using hd))
  refine ⟨_, o2, fun i hi => ?_⟩
  have hi' : i < d.size := by simpa using hi
  have e := fun c hc => (HoldsK.cell h2 (i := i) (c := c) hi' hc).1
  have q : ∀ j, (sortWorldK encP 4 w g 0 n d os).cell? ⟨g, j, none⟩ = _ := o2.cell
  rw [← arr_p d hi']
  refine ⟨?_, ?_, ?_, ?_⟩
  · have := e 0 (by omega)
    simp only [Nat.zero_add, Nat.add_zero] at this
    exact (q (i * 4)).symm.trans (by simpa [encP] using this)
  · have := e 1 (by omega)
    simp only [Nat.zero_add] at this
    exact (q (i * 4 + 1)).symm.trans (by simpa [encP] using this)
  · have := e 2 (by omega)
    simp only [Nat.zero_add] at this
    exact (q (i * 4 + 2)).symm.trans (by simpa [encP] using this)
  · have := e 3 (by omega)
    simp only [Nat.zero_add] at this
    exact (q (i * 4 + 3)).symm.trans (by simpa [encP] using this)

set_option maxHeartbeats 1000000 in
/-- slices.SortFunc by compare over a row of vectors of one's own. -/
theorem sortV_own {w : World} {g : Nat} {M : List V3} (cap : Nat) (h : RowO w g M) (hlen : M.length < 1000000000) :
    Calls Try.prog 47 #[.slice (some ⟨g, 0, none⟩) M.length cap, .func (.func 48) #[] #[]] w fun e w' => e = .returned (.tuple #[]) ∧ ∃ M', M'.Perm M ∧ M'.Pairwise (fun a b => vLt b a = false) ∧ RowO w' g M' ∧ Upd [g] w w' := by
  have eg : ∀ args w, (callFunc 48 args).run Try.prog w = .ok (.enter 48 args) w := enters_of Try.func48 (by kernel_rfl) rfl
  have e : ltOf cmpV = vLt := funext fun a => funext fun b => cmpV_lt a b
  have hcon := AnyQ.slices_SortFunc Try.sortV 3 Try.isAgg31 Try.sizeOf31 encV (fun _ => rfl) (fun x v hv => by simp [encV] at hv; rcases hv with rfl | rfl | rfl <;> rfl) cmpV (by rw [e]; exact swo_of vLt_strict) 48 #[] g 0 cap M.toArray w eg (fun _ _ _ _ x y => hull_compare x y _) (holdsV h) h.lt (by simp; omega)
  simp only [List.size_toArray] at hcon
  refine hcon.mono ?_
  rintro e1 w' ⟨rfl, d', n, os, hp, hs, rfl⟩
  obtain ⟨p1, _, p3⟩ := hp
  have p1' : d'.size = M.length := by simpa using p1
  refine ⟨rfl, d'.toList, ?_, ?_, of_holdsV h n d' p1' os, sortWorld_upd _ _ _ _ _ _ _⟩
  · have a1 : d'.extract 0 M.length = d' := by rw [← p1']; simp
    have a2 : M.toArray.extract 0 M.length = M.toArray := by simp
    rw [a1, a2] at p3
    simpa using p3
  · rw [List.pairwise_iff_getElem]
    intro i j hi hj hij
    have hi' : i < d'.size := by simpa using hi
    have hj' : j < d'.size := by simpa using hj
    have := hs i j (by omega) hij (by omega)
    rw [e, arr_at d' hi', arr_at d' hj'] at this
    exact this
end Go.Proofs.Ytccnlnkgoaelpaa
