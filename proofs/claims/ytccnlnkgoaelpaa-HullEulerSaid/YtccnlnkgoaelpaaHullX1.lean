/- The sanity of the laws of package hull returns true. -/
import Derived.Test.YtccnlnkgoaelpaaHullO
import Derived.Test.YtccnlnkgoaelpaaHullY
import Derived.Test.YtccnlnkgoaelpaaHullB
import Derived.Test.YtccnlnkgoaelpaaHullA
import Derived.Test.YtccnlnkgoaelpaaHullU
namespace Go.Proofs.Ytccnlnkgoaelpaa
open Go.RowKit Go.Shelf

def L4 : List V3 := [⟨0, 0, 0⟩, ⟨2, 0, 0⟩, ⟨0, 2, 0⟩, ⟨0, 0, 2⟩]
def L6 : List V3 := [⟨0, 0, 0⟩, ⟨2, 0, 0⟩, ⟨0, 2, 0⟩, ⟨0, 0, 2⟩, ⟨1, 1, 0⟩, ⟨0, 0, 0⟩]
def F4 : List Pl := [⟨⟨-1, 0, 0⟩, 0⟩, ⟨⟨0, -1, 0⟩, 0⟩, ⟨⟨0, 0, -1⟩, 0⟩, ⟨⟨1, 1, 1⟩, 2⟩]
def E4 : List V3 := [⟨0, 0, 0⟩, ⟨0, 0, 2⟩, ⟨0, 2, 0⟩, ⟨2, 0, 0⟩]
theorem chk4 : hCheck L4 = 0 := by decide +kernel
theorem chk6 : hCheck L6 = 0 := by decide +kernel
theorem fac4 : hFaces L4 = F4 := by decide +kernel
theorem ext6 : hExtreme L6 = E4 := by decide +kernel
theorem has_a : hHas L4 ⟨1, 1, 0⟩ = true := by decide +kernel
theorem has_b : hHas L4 ⟨1, 1, 1⟩ = false := by decide +kernel
theorem has_c : hHas L4 ⟨0, 0, 0⟩ = true := by decide +kernel
theorem chk3 : hCheck [⟨0, 0, 0⟩, ⟨2, 0, 0⟩, ⟨0, 2, 0⟩] = 11 := by decide +kernel
theorem chk7 : hCheck (L6 ++ [⟨25, 0, 0⟩]) = 3 := by decide +kernel
theorem chk49 {L : List V3} (h : L.length = 49) : hCheck L = 2 := by unfold hCheck; rw [if_pos (by omega)]
theorem vecs_flat {W : World} {b : Nat} {L : List V3} {cs : Array Value} (ho : Own W b cs) (hc : cs = (L.flatMap encV).toArray) (hl : L.length ≤ 1000000) : VecsAt W (some ⟨b, 0, none⟩) L.length L := by
  subst hc
  have hq : RowO W b L := ⟨_, ho, fun i hi => by
    have q := fun k (hk : k < 3) => flat_at L i k hi hk
    refine ⟨?_, ?_, ?_⟩
    · simpa [encV, encP] using q 0 (by omega)
    · simpa [encV, encP] using q 1 (by omega)
    · simpa [encV, encP] using q 2 (by omega)⟩
  have q := hq.vecs (Nat.le_refl _) (by omega)
  rw [List.take_length] at q
  exact q
theorem pls_flat {W : World} {b : Nat} {L : List Pl} {cs : Array Value} (ho : Own W b cs) (hc : cs = (flatP L).toArray) (hl : L.length ≤ 1000000) : PlsAt W (some ⟨b, 0, none⟩) L.length L := by
  subst hc
  have hq : RowQ W b L := ⟨_, ho, fun i hi => by
    have q := fun k (hk : k < 4) => flatP_at L i k hi hk
    refine ⟨?_, ?_, ?_, ?_⟩
    · simpa [encV, encP] using q 0 (by omega)
    · simpa [encV, encP] using q 1 (by omega)
    · simpa [encV, encP] using q 2 (by omega)
    · simpa [encV, encP] using q 3 (by omega)⟩
  exact hq.pls (by omega)
theorem VecsAt.take {w : World} {A : Option Addr} {n m : Nat} {L : List V3} (h : VecsAt w A n L) (hm : m ≤ n) : VecsAt w A m (L.take m) := by
  refine ⟨by rw [List.length_take, h.len]; omega, by have := h.max; omega, fun h0 => ?_⟩
  obtain ⟨b, off, e, hb, hc⟩ := h.row (by omega)
  refine ⟨b, off, e, hb, fun i hi => ?_⟩
  rw [vAt_take hi]
  exact hc i (by omega)
theorem flatV_one (L : List V3) : ∀ u ∈ L.flatMap encV, u.oneCell' = true := fun u hu => by
  simp only [encV, List.mem_flatMap, List.mem_cons, List.not_mem_nil, or_false] at hu
  obtain ⟨q, _, h | h | h⟩ := hu <;> rw [h] <;> rfl
theorem box_lo : hBoxLo [⟨3, -1, 0⟩, ⟨1, 5, 0⟩] = ⟨1, -1, 0⟩ := by decide +kernel
theorem box_hi : hBoxHi [⟨3, -1, 0⟩, ⟨1, 5, 0⟩] = ⟨3, 5, 0⟩ := by decide +kernel
theorem vecs_nil (w : World) : VecsAt w none 0 [] := ⟨rfl, by omega, fun h => by omega⟩
set_option maxRecDepth 100000 in
theorem law08_vec (x y z : Int) (w : World) :
    Calls Try.prog 20 #[.int .i64 x, .int .i64 y, .int .i64 z] w fun e w' => e = .returned (vV x y z) ∧ Below w.heap.size w w' := by
  go_enter Try.func20, Try.ntmps20
  go_wp2
  refine retC (b := w.heap.size) (v := vV x y z) (by repeat' (first | (with_reducible assumption) | ((with_reducible apply Own.new); (focus (first | rfl | omega | (simp; done) | (simp; omega)))) | (with_reducible apply Own.set) | (with_reducible apply Own.alloc) | (with_reducible apply Own.drew) | ((with_reducible apply Own.far); case hp => (focus (first | rfl | omega | (simp; done) | (simp; omega)))))) (fun w' hw' => by simp [results, Try.results20, go_sem, hw', vV]) rfl ⟨rfl, (by repeat' (first | exact Below.refl _ _ | assumption | (refine Below.alloc ?_ ?_ _; rotate_left; (focus (first | rfl | omega | (simp; done) | (simp; omega)))) | (refine Below.setCell ?_ ?_ _; rotate_left; (focus (first | rfl | omega | (simp; done) | (simp; omega)))) | refine Below.drew ?_))⟩
end Go.Proofs.Ytccnlnkgoaelpaa
namespace Go.Proofs.Ytccnlnkgoaelpaa
open Go.RowKit Go.Shelf

theorem wpList_append_lies_w {P : Program} (w : World) {ops : Array Oper} {rest : List Oper} {o : Oper} {a : Act} {Q : Exit → Act → World → Prop} (hw : Region.wanted o (yielded ops a.tmps) = true) (s x : Operand) (t : TypeId)
    (ho : o.op = .call { callee := .builtin .append, args := #[s, x], argTypes := #[t, t] })
    (base : Nat) (e : TypeId) (i : TypeInfo) (z : Value) (size bytes : Nat) (ht : P.underlying t = some (.slice e)) (hi : P.info? e = some i) (hz : i.zero = some z)
    (hsize : i.size = size) (hby : i.bytes = bytes) (hzs : z.cells.size = size) (hsz : 0 < size)
    (v : Value) (n : Nat) (xs : List Value) (hs : a.eval s = v) (hown : w.ownsRow base e size v n xs)
    (ad : Addr) (m c : Nat) (news : List Value) (hx : a.eval x = .slice (some ad) m c) (hl : news.length = m * size) (hnews : ∀ j u, news[j]? = some u → w.cell? (ad.add j) = some u) (h1 : ∀ u ∈ news, u.oneCell' = true)
    (hm : 0 < m) (h63 : n + m ≤ maxLen) (hbytes : (n + m) * bytes ≤ 140737488355328) (hbase : base ≤ w.heap.size) (H : Nat) (hH : w.heap.size = H)
    (h : ∀ g cap w', w'.ownsRow base e size (.slice (some ⟨g, 0, none⟩) (n + m) cap) (n + m) (xs ++ news) → w.grownBy w' v.ownBlock → (v.ownBlock = some g ∨ g = H) → g < w'.heap.size → wpList P ops Q rest (a.put o.dst (.slice (some ⟨g, 0, none⟩) (n + m) cap)) w') : wpList P ops Q (o :: rest) a w :=
  BigFrame.wpList_want hw fun _ hK => wp_append_lies w s x t ho base e i z size bytes ht hi hz hsize hby hzs hsz v n xs hs hown ad m c news hx hl hnews h1 hm h63 hbytes hbase H hH fun g cap w' h2 h3 h4 h5 => hK _ _ (h g cap w' h2 h3 h4 h5)
set_option maxRecDepth 100000 in
set_option maxHeartbeats 4000000 in
theorem law08_sanity (w : World) :
    Calls Try.prog 6 #[] w fun e w' => e = .returned (.bool true) ∧ Below w.heap.size w w' := by
  obtain ⟨i0, hi, hz0, hz1, hz2⟩ := info_parts infoVe
  go_enter Try.func6, Try.ntmps6
  go_wp2_with fail
  refine Calls.mono (law08_vec 0 0 0 _) ?_
  rintro e w1 ⟨rfl, hbx⟩
  have hw : Below w.heap.size w w1 := hbx
  have hz := hw.size
  clear hbx
  go_wp2_with fail
  refine Calls.mono (law08_vec 2 0 0 _) ?_
  rintro e w2 ⟨rfl, hbx⟩
  replace hw : Below w.heap.size w w2 := Below.hop (by repeat' (first | exact Below.refl _ _ | assumption | (refine Below.alloc ?_ ?_ _; rotate_left; (focus (first | rfl | omega | (simp; done) | (simp; omega)))) | (refine Below.setCell ?_ ?_ _; rotate_left; (focus (first | rfl | omega | (simp; done) | (simp; omega)))) | refine Below.drew ?_)) hbx
  replace hz := hw.size
  clear hbx
  go_wp2_with fail
  refine Calls.mono (law08_vec 0 2 0 _) ?_
  rintro e w3 ⟨rfl, hbx⟩
  replace hw : Below w.heap.size w w3 := Below.hop (by repeat' (first | exact Below.refl _ _ | assumption | (refine Below.alloc ?_ ?_ _; rotate_left; (focus (first | rfl | omega | (simp; done) | (simp; omega)))) | (refine Below.setCell ?_ ?_ _; rotate_left; (focus (first | rfl | omega | (simp; done) | (simp; omega)))) | refine Below.drew ?_)) hbx
  replace hz := hw.size
  clear hbx
  go_wp2_with fail
  refine Calls.mono (law08_vec 0 0 2 _) ?_
  rintro e w4 ⟨rfl, hbx⟩
  replace hw : Below w.heap.size w w4 := Below.hop (by repeat' (first | exact Below.refl _ _ | assumption | (refine Below.alloc ?_ ?_ _; rotate_left; (focus (first | rfl | omega | (simp; done) | (simp; omega)))) | (refine Below.setCell ?_ ?_ _; rotate_left; (focus (first | rfl | omega | (simp; done) | (simp; omega)))) | refine Below.drew ?_)) hbx
  replace hz := hw.size
  clear hbx
  have oL : Own ((w4.alloc (.cells #[.int .i64 0, .int .i64 0, .int .i64 0, .int .i64 2, .int .i64 0, .int .i64 0, .int .i64 0, .int .i64 2, .int .i64 0, .int .i64 0, .int .i64 0, .int .i64 2] 31)).alloc (.cells #[] 31)) w4.heap.size #[.int .i64 0, .int .i64 0, .int .i64 0, .int .i64 2, .int .i64 0, .int .i64 0, .int .i64 0, .int .i64 2, .int .i64 0, .int .i64 0, .int .i64 0, .int .i64 2] := (Own.new rfl).alloc _
  have hrow0 : ((w4.alloc (.cells #[.int .i64 0, .int .i64 0, .int .i64 0, .int .i64 2, .int .i64 0, .int .i64 0, .int .i64 0, .int .i64 2, .int .i64 0, .int .i64 0, .int .i64 0, .int .i64 2] 31)).alloc (.cells #[] 31)).ownsRow (w4.heap.size + 1) 31 3 (.slice (some ⟨w4.heap.size + 1, 0, none⟩) 0 0) 0 [] := by
    have q := World.ownsRow_lit (base := w4.heap.size + 1) (e := 31) (size := 3) (w4.alloc (.cells #[.int .i64 0, .int .i64 0, .int .i64 0, .int .i64 2, .int .i64 0, .int .i64 0, .int .i64 0, .int .i64 2, .int .i64 0, .int .i64 0, .int .i64 0, .int .i64 2] 31)) #[] 0 (by simp) (by unfold maxLen; omega) (by simp)
    simpa using q
  have hwa : Below w.heap.size w ((w4.alloc (.cells #[.int .i64 0, .int .i64 0, .int .i64 0, .int .i64 2, .int .i64 0, .int .i64 0, .int .i64 0, .int .i64 2, .int .i64 0, .int .i64 0, .int .i64 0, .int .i64 2] 31)).alloc (.cells #[] 31)) := (hw.alloc hz _).alloc (by simp; omega) _
  have HOL := Lib.hid oL
  have HROW0 := Lib.hid hrow0
  have HWA := Lib.hid hwa
  clear oL hrow0 hwa
  go_wp2_with (at_builtin; refine wpList_append_lies _ rfl _ _ _ (by rfl) (w4.heap.size + 1) 31 i0 (.agg #[.int .i64 0, .int .i64 0, .int .i64 0]) 3 24 Try.underlying24 hi hz0 hz1 hz2 rfl (by omega) _ 0 [] (by rfl) ?c0 ⟨w4.heap.size, 0, none⟩ 4 4 (L4.flatMap encV) (by rfl) rfl ?c1 ?c2 (by omega) ?c3 ?c4 ?c5 (w4.heap.size + 2) (by simp) ?_)
  case c0 => exact HROW0.out
  case c1 =>
    obtain ⟨T, hT⟩ := HOL.out
    exact World.news_of_block hT
  case c2 => exact flatV_one _
  case c3 => unfold maxLen; omega
  case c4 => omega
  case c5 => simp
  intro g5 c5 w5 ho5 hg5 hat5 hlt5
  have hw' : Below w.heap.size w w5 := HWA.out.grown hg5 (by simp; omega) (fun r e => by have e' : w4.heap.size + 1 = r := (by simpa [Value.ownBlock] using e); omega)
  have oL5 : Own w5 w4.heap.size #[.int .i64 0, .int .i64 0, .int .i64 0, .int .i64 2, .int .i64 0, .int .i64 0, .int .i64 0, .int .i64 2, .int .i64 0, .int .i64 0, .int .i64 0, .int .i64 2] := own_grown HOL.out hg5 (fun r e => by have e' : w4.heap.size + 1 = r := (by simpa [Value.ownBlock] using e); omega)
  have ho5' : w5.ownsRow (w4.heap.size + 1) 31 3 (.slice (some ⟨g5, 0, none⟩) 4 c5) 4 (L4.flatMap encV) := ho5
  have HO5 := Lib.hid ho5'
  have HOL5 := Lib.hid oL5
  have HZB := Lib.hid (show w.heap.size ≤ w4.heap.size from hz)
  clear hw ho5 ho5' oL5 hg5 hat5 hlt5 HOL HROW0 HWA
  have hw := hw'
  clear hw'
  replace hz := hw.size
  have hk : Below w5.heap.size w5 w5 := Below.refl _ _
  clear hz
  have hz := hk.size
  go_wp2_with fail
  refine Calls.mono (law08_vec 1 1 0 _) ?_
  rintro e w6 ⟨rfl, hbx⟩
  replace hk : Below w5.heap.size w5 w6 := Below.hop (by repeat' (first | exact Below.refl _ _ | assumption | (refine Below.alloc ?_ ?_ _; rotate_left; (focus (first | rfl | omega | (simp; done) | (simp; omega)))) | (refine Below.setCell ?_ ?_ _; rotate_left; (focus (first | rfl | omega | (simp; done) | (simp; omega)))) | refine Below.drew ?_)) hbx
  replace hz := hk.size
  clear hbx
  go_wp2_with fail
  refine Calls.mono (law08_vec 0 0 0 _) ?_
  rintro e w7 ⟨rfl, hbx⟩
  replace hk : Below w5.heap.size w5 w7 := Below.hop (by repeat' (first | exact Below.refl _ _ | assumption | (refine Below.alloc ?_ ?_ _; rotate_left; (focus (first | rfl | omega | (simp; done) | (simp; omega)))) | (refine Below.setCell ?_ ?_ _; rotate_left; (focus (first | rfl | omega | (simp; done) | (simp; omega)))) | refine Below.drew ?_)) hbx
  replace hz := hk.size
  clear hbx
  have hka : Below w5.heap.size w5 (w7.alloc (.cells #[.int .i64 1, .int .i64 1, .int .i64 0, .int .i64 0, .int .i64 0, .int .i64 0] 31)) := hk.alloc hz _
  have HKA := Lib.hid hka
  clear hka
  go_wp2_with (at_builtin; refine wpList_append_lies _ rfl _ _ _ (by rfl) (w4.heap.size + 1) 31 i0 (.agg #[.int .i64 0, .int .i64 0, .int .i64 0]) 3 24 Try.underlying24 hi hz0 hz1 hz2 rfl (by omega) _ 4 (L4.flatMap encV) (by rfl) ?c0 ⟨w7.heap.size, 0, none⟩ 2 2 ([(⟨1, 1, 0⟩ : V3), ⟨0, 0, 0⟩].flatMap encV) (by rfl) rfl ?c1 ?c2 (by omega) ?c3 ?c4 ?c5 (w7.heap.size + 1) (by simp) ?_)
  case c0 => exact rowk_below HO5.out HKA.out
  case c1 => exact World.news_of_block (heap_alloc_new w7 _)
  case c2 => exact flatV_one _
  case c3 => unfold maxLen; omega
  case c4 => omega
  case c5 =>
    have q := (HOL5.out.below HKA.out).lt
    omega
  intro g8 c8 w8 ho8 hg8 hat8 hlt8
  have hr5 : ∀ r, (Value.slice (some ⟨g5, 0, none⟩) 4 c5).ownBlock = some r → w4.heap.size + 1 ≤ r := fun r e => ownBlock_ge HO5.out e
  have hw' : Below w.heap.size w w8 := (Below.hop hw HKA.out).grown hg8 (by have q1 := hw.size; have q2 := HKA.out.size; omega) (fun r e => by have := hr5 r e; have := HZB.out; omega)
  have oL8 : Own w8 w4.heap.size #[.int .i64 0, .int .i64 0, .int .i64 0, .int .i64 2, .int .i64 0, .int .i64 0, .int .i64 0, .int .i64 2, .int .i64 0, .int .i64 0, .int .i64 0, .int .i64 2] := own_grown (HOL5.out.below HKA.out) hg8 (fun r e => by have := hr5 r e; omega)
  have ho8' : w8.ownsRow (w4.heap.size + 1) 31 3 (.slice (some ⟨g8, 0, none⟩) 6 c8) 6 (L6.flatMap encV) := ho8
  obtain ⟨A', c', e', hc81, hc82, hm8, _⟩ := vecs_of_row' (by rfl) ho8'
  cases e'
  have hl8 : VecsAt w8 (some ⟨w4.heap.size, 0, none⟩) 4 L4 := vecs_flat (L := L4) oL8 rfl (by decide)
  have HL8 := Lib.hid hl8
  have HM8 := Lib.hid hm8
  have HO8 := Lib.hid ho8'
  clear hw ho8 ho8' oL8 hg8 hat8 hlt8 HO5 HOL5 HKA hr5 hl8 hm8 hk hz
  have HW8 := Lib.hid hw'
  clear hw'
  have hk : Below w8.heap.size w8 w8 := Below.refl _ _
  have hz := hk.size
  have hF := hull_Faces 4 HL8.out (by omega) (by omega)
  rw [chk4, fac4] at hF
  have HF := Lib.hid hF
  clear hF
  go_wp2_with fail
  refine Calls.mono HF.out ?_
  rintro e w9 ⟨v, rfl, ⟨A9, c9, rfl, h91, h92, hp9, _⟩, hbx⟩
  have e9 : F4.length = 4 := rfl
  rw [e9] at h91 hp9 ⊢
  replace hk : Below w8.heap.size w8 w9 := Below.hop hk hbx
  replace hz := hk.size
  have HP9 := Lib.hid hp9
  clear hbx hp9 HF
  have hE := hull_Extreme c8 (HM8.out.below hk) hc81 hc82
  rw [chk6, ext6] at hE
  have HE := Lib.hid hE
  clear hE
  go_wp2_with fail
  refine Calls.mono HE.out ?_
  rintro e w10 ⟨v, rfl, ⟨A10, c10, rfl, h101, h102, hp10, _⟩, hbx⟩
  have e10 : E4.length = 4 := rfl
  rw [e10] at h101 hp10 ⊢
  have HP9' := Lib.hid (HP9.out.below hbx)
  replace hk : Below w8.heap.size w8 w10 := Below.hop hk hbx
  have HP10 := Lib.hid hp10
  clear hbx hp10 HE HP9 hz
  have HK := Lib.hid hk
  clear hk
  have hj : Below w10.heap.size w10 w10 := Below.refl _ _
  have hz := hj.size
  go_wp2_with fail
  refine Calls.mono (law08_vec (-1) 0 0 _) ?_
  rintro e w11 ⟨rfl, hbx⟩
  replace hj : Below w10.heap.size w10 w11 := Below.hop (by repeat' (first | exact Below.refl _ _ | assumption | (refine Below.alloc ?_ ?_ _; rotate_left; (focus (first | rfl | omega | (simp; done) | (simp; omega)))) | (refine Below.setCell ?_ ?_ _; rotate_left; (focus (first | rfl | omega | (simp; done) | (simp; omega)))) | refine Below.drew ?_)) hbx
  replace hz := hj.size
  clear hbx
  go_wp2_with fail
  refine Calls.mono (law08_vec 0 (-1) 0 _) ?_
  rintro e w12 ⟨rfl, hbx⟩
  replace hj : Below w10.heap.size w10 w12 := Below.hop (by repeat' (first | exact Below.refl _ _ | assumption | (refine Below.alloc ?_ ?_ _; rotate_left; (focus (first | rfl | omega | (simp; done) | (simp; omega)))) | (refine Below.setCell ?_ ?_ _; rotate_left; (focus (first | rfl | omega | (simp; done) | (simp; omega)))) | refine Below.drew ?_)) hbx
  replace hz := hj.size
  clear hbx
  go_wp2_with fail
  refine Calls.mono (law08_vec 0 0 (-1) _) ?_
  rintro e w13 ⟨rfl, hbx⟩
  replace hj : Below w10.heap.size w10 w13 := Below.hop (by repeat' (first | exact Below.refl _ _ | assumption | (refine Below.alloc ?_ ?_ _; rotate_left; (focus (first | rfl | omega | (simp; done) | (simp; omega)))) | (refine Below.setCell ?_ ?_ _; rotate_left; (focus (first | rfl | omega | (simp; done) | (simp; omega)))) | refine Below.drew ?_)) hbx
  replace hz := hj.size
  clear hbx
  go_wp2_with fail
  refine Calls.mono (law08_vec 1 1 1 _) ?_
  rintro e w14 ⟨rfl, hbx⟩
  replace hj : Below w10.heap.size w10 w14 := Below.hop (by repeat' (first | exact Below.refl _ _ | assumption | (refine Below.alloc ?_ ?_ _; rotate_left; (focus (first | rfl | omega | (simp; done) | (simp; omega)))) | (refine Below.setCell ?_ ?_ _; rotate_left; (focus (first | rfl | omega | (simp; done) | (simp; omega)))) | refine Below.drew ?_)) hbx
  replace hz := hj.size
  clear hbx
  have hja : Below w10.heap.size w10 (w14.alloc (.cells #[.int .i64 (-1), .int .i64 0, .int .i64 0, .int .i64 0, .int .i64 0, .int .i64 (-1), .int .i64 0, .int .i64 0, .int .i64 0, .int .i64 0, .int .i64 (-1), .int .i64 0, .int .i64 1, .int .i64 1, .int .i64 1, .int .i64 2] 33)) := hj.alloc hz _
  have hpl : PlsAt (w14.alloc (.cells #[.int .i64 (-1), .int .i64 0, .int .i64 0, .int .i64 0, .int .i64 0, .int .i64 (-1), .int .i64 0, .int .i64 0, .int .i64 0, .int .i64 0, .int .i64 (-1), .int .i64 0, .int .i64 1, .int .i64 1, .int .i64 1, .int .i64 2] 33)) (some ⟨w14.heap.size, 0, none⟩) 4 F4 := pls_flat (L := F4) (Own.new rfl) rfl (by decide)
  have HS := Lib.hid (ref8_SamePlanes c9 4 (HP9'.out.below hja) hpl)
  clear hja hpl
  go_wp2_with fail
  refine Calls.mono (HS.out) ?_
  rintro e w15 ⟨rfl, hbx⟩
  replace hj : Below w10.heap.size w10 w15 := Below.hop (by repeat' (first | exact Below.refl _ _ | assumption | (refine Below.alloc ?_ ?_ _; rotate_left; (focus (first | rfl | omega | (simp; done) | (simp; omega)))) | (refine Below.setCell ?_ ?_ _; rotate_left; (focus (first | rfl | omega | (simp; done) | (simp; omega)))) | refine Below.drew ?_)) hbx
  replace hz := hj.size
  clear hbx
  clear HS
  go_wp2_with fail
  refine Calls.mono (law08_vec 0 0 0 _) ?_
  rintro e w16 ⟨rfl, hbx⟩
  replace hj : Below w10.heap.size w10 w16 := Below.hop (by repeat' (first | exact Below.refl _ _ | assumption | (refine Below.alloc ?_ ?_ _; rotate_left; (focus (first | rfl | omega | (simp; done) | (simp; omega)))) | (refine Below.setCell ?_ ?_ _; rotate_left; (focus (first | rfl | omega | (simp; done) | (simp; omega)))) | refine Below.drew ?_)) hbx
  replace hz := hj.size
  clear hbx
  go_wp2_with fail
  refine Calls.mono (law08_vec 0 0 2 _) ?_
  rintro e w17 ⟨rfl, hbx⟩
  replace hj : Below w10.heap.size w10 w17 := Below.hop (by repeat' (first | exact Below.refl _ _ | assumption | (refine Below.alloc ?_ ?_ _; rotate_left; (focus (first | rfl | omega | (simp; done) | (simp; omega)))) | (refine Below.setCell ?_ ?_ _; rotate_left; (focus (first | rfl | omega | (simp; done) | (simp; omega)))) | refine Below.drew ?_)) hbx
  replace hz := hj.size
  clear hbx
  go_wp2_with fail
  refine Calls.mono (law08_vec 0 2 0 _) ?_
  rintro e w18 ⟨rfl, hbx⟩
  replace hj : Below w10.heap.size w10 w18 := Below.hop (by repeat' (first | exact Below.refl _ _ | assumption | (refine Below.alloc ?_ ?_ _; rotate_left; (focus (first | rfl | omega | (simp; done) | (simp; omega)))) | (refine Below.setCell ?_ ?_ _; rotate_left; (focus (first | rfl | omega | (simp; done) | (simp; omega)))) | refine Below.drew ?_)) hbx
  replace hz := hj.size
  clear hbx
  go_wp2_with fail
  refine Calls.mono (law08_vec 2 0 0 _) ?_
  rintro e w19 ⟨rfl, hbx⟩
  replace hj : Below w10.heap.size w10 w19 := Below.hop (by repeat' (first | exact Below.refl _ _ | assumption | (refine Below.alloc ?_ ?_ _; rotate_left; (focus (first | rfl | omega | (simp; done) | (simp; omega)))) | (refine Below.setCell ?_ ?_ _; rotate_left; (focus (first | rfl | omega | (simp; done) | (simp; omega)))) | refine Below.drew ?_)) hbx
  replace hz := hj.size
  clear hbx
  have hja : Below w10.heap.size w10 (w19.alloc (.cells #[.int .i64 0, .int .i64 0, .int .i64 0, .int .i64 0, .int .i64 0, .int .i64 2, .int .i64 0, .int .i64 2, .int .i64 0, .int .i64 2, .int .i64 0, .int .i64 0] 31)) := hj.alloc hz _
  have hpl : VecsAt (w19.alloc (.cells #[.int .i64 0, .int .i64 0, .int .i64 0, .int .i64 0, .int .i64 0, .int .i64 2, .int .i64 0, .int .i64 2, .int .i64 0, .int .i64 2, .int .i64 0, .int .i64 0] 31)) (some ⟨w19.heap.size, 0, none⟩) 4 E4 := vecs_flat (L := E4) (Own.new rfl) rfl (by decide)
  have HS := Lib.hid (ref8_SameVecs c10 4 (HP10.out.below hja) hpl)
  clear hja hpl
  go_wp2_with fail
  refine Calls.mono (HS.out) ?_
  rintro e w20 ⟨rfl, hbx⟩
  replace hj : Below w10.heap.size w10 w20 := Below.hop (by repeat' (first | exact Below.refl _ _ | assumption | (refine Below.alloc ?_ ?_ _; rotate_left; (focus (first | rfl | omega | (simp; done) | (simp; omega)))) | (refine Below.setCell ?_ ?_ _; rotate_left; (focus (first | rfl | omega | (simp; done) | (simp; omega)))) | refine Below.drew ?_)) hbx
  replace hz := hj.size
  clear hbx
  clear HS
  have HL10 := Lib.hid (HL8.out.below HK.out)
  go_wp2_with fail
  refine Calls.mono (law08_vec 1 1 0 _) ?_
  rintro e w21 ⟨rfl, hbx⟩
  replace hj : Below w10.heap.size w10 w21 := Below.hop (by repeat' (first | exact Below.refl _ _ | assumption | (refine Below.alloc ?_ ?_ _; rotate_left; (focus (first | rfl | omega | (simp; done) | (simp; omega)))) | (refine Below.setCell ?_ ?_ _; rotate_left; (focus (first | rfl | omega | (simp; done) | (simp; omega)))) | refine Below.drew ?_)) hbx
  replace hz := hj.size
  clear hbx
  go_wp2_with fail
  refine Calls.mono (callv (hull_Has 4 1 1 0 (HL10.out.below (by repeat' (first | exact Below.refl _ _ | assumption | (refine Below.alloc ?_ ?_ _; rotate_left; (focus (first | rfl | omega | (simp; done) | (simp; omega)))) | (refine Below.setCell ?_ ?_ _; rotate_left; (focus (first | rfl | omega | (simp; done) | (simp; omega)))) | refine Below.drew ?_))) (by omega) (by omega)) (congrArg Value.bool has_a)) ?_
  rintro e w22 ⟨rfl, hbx⟩
  replace hj : Below w10.heap.size w10 w22 := Below.hop (by repeat' (first | exact Below.refl _ _ | assumption | (refine Below.alloc ?_ ?_ _; rotate_left; (focus (first | rfl | omega | (simp; done) | (simp; omega)))) | (refine Below.setCell ?_ ?_ _; rotate_left; (focus (first | rfl | omega | (simp; done) | (simp; omega)))) | refine Below.drew ?_)) hbx
  replace hz := hj.size
  clear hbx
  go_wp2_with fail
  refine Calls.mono (law08_vec 1 1 1 _) ?_
  rintro e w23 ⟨rfl, hbx⟩
  replace hj : Below w10.heap.size w10 w23 := Below.hop (by repeat' (first | exact Below.refl _ _ | assumption | (refine Below.alloc ?_ ?_ _; rotate_left; (focus (first | rfl | omega | (simp; done) | (simp; omega)))) | (refine Below.setCell ?_ ?_ _; rotate_left; (focus (first | rfl | omega | (simp; done) | (simp; omega)))) | refine Below.drew ?_)) hbx
  replace hz := hj.size
  clear hbx
  go_wp2_with fail
  refine Calls.mono (callv (hull_Has 4 1 1 1 (HL10.out.below (by repeat' (first | exact Below.refl _ _ | assumption | (refine Below.alloc ?_ ?_ _; rotate_left; (focus (first | rfl | omega | (simp; done) | (simp; omega)))) | (refine Below.setCell ?_ ?_ _; rotate_left; (focus (first | rfl | omega | (simp; done) | (simp; omega)))) | refine Below.drew ?_))) (by omega) (by omega)) (congrArg Value.bool has_b)) ?_
  rintro e w24 ⟨rfl, hbx⟩
  replace hj : Below w10.heap.size w10 w24 := Below.hop (by repeat' (first | exact Below.refl _ _ | assumption | (refine Below.alloc ?_ ?_ _; rotate_left; (focus (first | rfl | omega | (simp; done) | (simp; omega)))) | (refine Below.setCell ?_ ?_ _; rotate_left; (focus (first | rfl | omega | (simp; done) | (simp; omega)))) | refine Below.drew ?_)) hbx
  replace hz := hj.size
  clear hbx
  go_wp2_with fail
  refine Calls.mono (law08_vec 0 0 0 _) ?_
  rintro e w25 ⟨rfl, hbx⟩
  replace hj : Below w10.heap.size w10 w25 := Below.hop (by repeat' (first | exact Below.refl _ _ | assumption | (refine Below.alloc ?_ ?_ _; rotate_left; (focus (first | rfl | omega | (simp; done) | (simp; omega)))) | (refine Below.setCell ?_ ?_ _; rotate_left; (focus (first | rfl | omega | (simp; done) | (simp; omega)))) | refine Below.drew ?_)) hbx
  replace hz := hj.size
  clear hbx
  go_wp2_with fail
  refine Calls.mono (callv (hull_Has 4 0 0 0 (HL10.out.below (by repeat' (first | exact Below.refl _ _ | assumption | (refine Below.alloc ?_ ?_ _; rotate_left; (focus (first | rfl | omega | (simp; done) | (simp; omega)))) | (refine Below.setCell ?_ ?_ _; rotate_left; (focus (first | rfl | omega | (simp; done) | (simp; omega)))) | refine Below.drew ?_))) (by omega) (by omega)) (congrArg Value.bool has_c)) ?_
  rintro e w26 ⟨rfl, hbx⟩
  replace hj : Below w10.heap.size w10 w26 := Below.hop (by repeat' (first | exact Below.refl _ _ | assumption | (refine Below.alloc ?_ ?_ _; rotate_left; (focus (first | rfl | omega | (simp; done) | (simp; omega)))) | (refine Below.setCell ?_ ?_ _; rotate_left; (focus (first | rfl | omega | (simp; done) | (simp; omega)))) | refine Below.drew ?_)) hbx
  replace hz := hj.size
  clear hbx
  go_wp2_with fail
  refine Calls.mono (callv (hull_Check 4 (HL10.out.below (by repeat' (first | exact Below.refl _ _ | assumption | (refine Below.alloc ?_ ?_ _; rotate_left; (focus (first | rfl | omega | (simp; done) | (simp; omega)))) | (refine Below.setCell ?_ ?_ _; rotate_left; (focus (first | rfl | omega | (simp; done) | (simp; omega)))) | refine Below.drew ?_))) (by omega) (by omega)) (congrArg (Value.int IntKind.i64) chk4)) ?_
  rintro e w27 ⟨rfl, hbx⟩
  replace hj : Below w10.heap.size w10 w27 := Below.hop (by repeat' (first | exact Below.refl _ _ | assumption | (refine Below.alloc ?_ ?_ _; rotate_left; (focus (first | rfl | omega | (simp; done) | (simp; omega)))) | (refine Below.setCell ?_ ?_ _; rotate_left; (focus (first | rfl | omega | (simp; done) | (simp; omega)))) | refine Below.drew ?_)) hbx
  replace hz := hj.size
  clear hbx
  go_wp2_with fail
  refine Calls.mono (callv (hull_Check 4 ((HL10.out.below (by repeat' (first | exact Below.refl _ _ | assumption | (refine Below.alloc ?_ ?_ _; rotate_left; (focus (first | rfl | omega | (simp; done) | (simp; omega)))) | (refine Below.setCell ?_ ?_ _; rotate_left; (focus (first | rfl | omega | (simp; done) | (simp; omega)))) | refine Below.drew ?_))).take (m := 3) (by omega)) (by omega) (by omega)) (congrArg (Value.int IntKind.i64) chk3)) ?_
  rintro e w28 ⟨rfl, hbx⟩
  replace hj : Below w10.heap.size w10 w28 := Below.hop (by repeat' (first | exact Below.refl _ _ | assumption | (refine Below.alloc ?_ ?_ _; rotate_left; (focus (first | rfl | omega | (simp; done) | (simp; omega)))) | (refine Below.setCell ?_ ?_ _; rotate_left; (focus (first | rfl | omega | (simp; done) | (simp; omega)))) | refine Below.drew ?_)) hbx
  replace hz := hj.size
  clear hbx
  have hmk : ∀ w, (Instr.makeSlice 24 (.int .i64 49) (.int .i64 49)).run Try.prog w = .ok (.slice (some ⟨w.heap.size, 0, none⟩) 49 49) (w.alloc (.cells (((List.replicate 49 (⟨0, 0, 0⟩ : V3)).flatMap encV).toArray) 31)) := fun _ => by kernel_rfl
  have hm49 : VecsAt (w28.alloc (.cells (((List.replicate 49 (⟨0, 0, 0⟩ : V3)).flatMap encV).toArray) 31)) (some ⟨w28.heap.size, 0, none⟩) 49 (List.replicate 49 ⟨0, 0, 0⟩) := vecs_flat (L := List.replicate 49 ⟨0, 0, 0⟩) (Own.new rfl) rfl (by decide)
  have HC49 := Lib.hid (callv (hull_Check 49 hm49 (by omega) (by omega)) (congrArg (Value.int IntKind.i64) (chk49 (by rfl))))
  clear hm49
  generalize (((List.replicate 49 (⟨0, 0, 0⟩ : V3)).flatMap encV).toArray) = Z49 at *
  go_wp2_with fail
  refine Calls.mono (HC49.out) ?_
  rintro e w29 ⟨rfl, hbx⟩
  replace hj : Below w10.heap.size w10 w29 := Below.hop (by repeat' (first | exact Below.refl _ _ | assumption | (refine Below.alloc ?_ ?_ _; rotate_left; (focus (first | rfl | omega | (simp; done) | (simp; omega)))) | (refine Below.setCell ?_ ?_ _; rotate_left; (focus (first | rfl | omega | (simp; done) | (simp; omega)))) | refine Below.drew ?_)) hbx
  replace hz := hj.size
  clear hbx
  clear HC49 hmk
  go_wp2_with fail
  refine Calls.mono (law08_vec 25 0 0 _) ?_
  rintro e w30 ⟨rfl, hbx⟩
  replace hj : Below w10.heap.size w10 w30 := Below.hop (by repeat' (first | exact Below.refl _ _ | assumption | (refine Below.alloc ?_ ?_ _; rotate_left; (focus (first | rfl | omega | (simp; done) | (simp; omega)))) | (refine Below.setCell ?_ ?_ _; rotate_left; (focus (first | rfl | omega | (simp; done) | (simp; omega)))) | refine Below.drew ?_)) hbx
  replace hz := hj.size
  clear hbx
  have hja : Below w10.heap.size w10 (w30.alloc (.cells #[.int .i64 25, .int .i64 0, .int .i64 0] 31)) := hj.alloc hz _
  have HJA := Lib.hid hja
  clear hja
  have hw8 := HW8.out.size
  have hk8 := HK.out.size
  have hj8 := HJA.out.size
  go_wp2_with (at_builtin; refine wpList_append_lies_w _ (by rfl) _ _ _ (by rfl) (w4.heap.size + 1) 31 i0 (.agg #[.int .i64 0, .int .i64 0, .int .i64 0]) 3 24 Try.underlying24 hi hz0 hz1 hz2 rfl (by omega) _ 6 (L6.flatMap encV) (by rfl) ?c0 ⟨w30.heap.size, 0, none⟩ 1 1 ([(⟨25, 0, 0⟩ : V3)].flatMap encV) (by rfl) rfl ?c1 ?c2 (by omega) ?c3 ?c4 ?c5 (w30.heap.size + 1) (by simp) ?_)
  case c0 => exact rowk_below (rowk_below HO8.out HK.out) HJA.out
  case c1 => exact World.news_of_block (heap_alloc_new w30 _)
  case c2 => exact flatV_one _
  case c3 => unfold maxLen; omega
  case c4 => omega
  case c5 => have q := (HO8.out.lt g8 rfl); omega
  intro g30 c30 x30 ho30 hg30 hat30 hlt30
  have ho30' : x30.ownsRow (w4.heap.size + 1) 31 3 (.slice (some ⟨g30, 0, none⟩) 7 c30) 7 ((L6 ++ [(⟨25, 0, 0⟩ : V3)]).flatMap encV) := ho30
  obtain ⟨A', c', e', hc301, hc302, hm30, _⟩ := vecs_of_row' (by rfl) ho30'
  cases e'
  have hr8 : ∀ r, (Value.slice (some ⟨g8, 0, none⟩) 6 c8).ownBlock = some r → w4.heap.size + 1 ≤ r := fun r e => ownBlock_ge HO8.out e
  have hw' : Below w.heap.size w x30 := (Below.hop (Below.hop HW8.out HK.out) HJA.out).grown hg30 (by simp at hj8 ⊢; omega) (fun r e => by have := hr8 r e; have := HZB.out; omega)
  have HW30 := Lib.hid hw'
  have HC30 := Lib.hid (callv (hull_Check c30 hm30 (by omega) (by omega)) (congrArg (Value.int IntKind.i64) chk7))
  clear ho30 ho30' hg30 hat30 hlt30 hr8 hw' hm30 hj hz HW8 HK HM8 HO8 HL8 HL10 HP10 HP9' HJA hw8 hk8 hj8
  go_wp2_with fail
  refine Calls.mono HC30.out ?_
  rintro e x31 ⟨rfl, hbx⟩
  have hw : Below w.heap.size w x31 := Below.hop HW30.out hbx
  have hz := hw.size
  clear hbx HC30 HW30
  go_wp2_with fail
  refine Calls.mono (law08_vec 3 (-1) 0 _) ?_
  rintro e w41 ⟨rfl, hbx⟩
  replace hw : Below w.heap.size w w41 := Below.hop (by repeat' (first | exact Below.refl _ _ | assumption | (refine Below.alloc ?_ ?_ _; rotate_left; (focus (first | rfl | omega | (simp; done) | (simp; omega)))) | (refine Below.setCell ?_ ?_ _; rotate_left; (focus (first | rfl | omega | (simp; done) | (simp; omega)))) | refine Below.drew ?_)) hbx
  replace hz := hw.size
  clear hbx
  go_wp2_with fail
  refine Calls.mono (law08_vec 1 5 0 _) ?_
  rintro e w42 ⟨rfl, hbx⟩
  replace hw : Below w.heap.size w w42 := Below.hop (by repeat' (first | exact Below.refl _ _ | assumption | (refine Below.alloc ?_ ?_ _; rotate_left; (focus (first | rfl | omega | (simp; done) | (simp; omega)))) | (refine Below.setCell ?_ ?_ _; rotate_left; (focus (first | rfl | omega | (simp; done) | (simp; omega)))) | refine Below.drew ?_)) hbx
  replace hz := hw.size
  clear hbx
  have HB := Lib.hid (callv (hull_Box 2 (vecs_flat (W := w42.alloc (.cells #[.int .i64 3, .int .i64 (-1), .int .i64 0, .int .i64 1, .int .i64 5, .int .i64 0] 31)) (b := w42.heap.size) (L := [⟨3, -1, 0⟩, ⟨1, 5, 0⟩]) (Own.new rfl) rfl (by decide))) (show (_ : Value) = .tuple #[vV 1 (-1) 0, vV 3 5 0, .bool true] by rw [box_lo, box_hi]; rfl))
  go_wp2_with fail
  refine Calls.mono (HB.out) ?_
  rintro e w43 ⟨rfl, hbx⟩
  replace hw : Below w.heap.size w w43 := Below.hop (by repeat' (first | exact Below.refl _ _ | assumption | (refine Below.alloc ?_ ?_ _; rotate_left; (focus (first | rfl | omega | (simp; done) | (simp; omega)))) | (refine Below.setCell ?_ ?_ _; rotate_left; (focus (first | rfl | omega | (simp; done) | (simp; omega)))) | refine Below.drew ?_)) hbx
  replace hz := hw.size
  clear hbx
  clear HB
  have HB := Lib.hid (fun W => callv (hull_Box (w := W) 0 (vecs_nil W)) (show (_ : Value) = .tuple #[vV 0 0 0, vV 0 0 0, .bool false] by rfl))
  go_wp2_with fail
  refine Calls.mono (HB.out _) ?_
  rintro e w44 ⟨rfl, hbx⟩
  have oA : Own w44 w43.heap.size #[.int .i64 1, .int .i64 (-1), .int .i64 0] := Own.below ((Own.new rfl).alloc _) hbx
  have oB : Own w44 (w43.heap.size + 1) #[.int .i64 3, .int .i64 5, .int .i64 0] := Own.below (Own.new (by simp)) hbx
  replace hw : Below w.heap.size w w44 := Below.hop (by repeat' (first | exact Below.refl _ _ | assumption | (refine Below.alloc ?_ ?_ _; rotate_left; (focus (first | rfl | omega | (simp; done) | (simp; omega)))) | (refine Below.setCell ?_ ?_ _; rotate_left; (focus (first | rfl | omega | (simp; done) | (simp; omega)))) | refine Below.drew ?_)) hbx
  replace hz := hw.size
  clear hbx HB
  go_wp2
  have hw2 : Below w.heap.size w ((w44.alloc (.cells #[.int .i64 0, .int .i64 0, .int .i64 0] 31)).alloc (.cells #[.int .i64 0, .int .i64 0, .int .i64 0] 31)) := (hw.alloc hz _).alloc (by simp; omega) _
  have oA2 : Own ((w44.alloc (.cells #[.int .i64 0, .int .i64 0, .int .i64 0] 31)).alloc (.cells #[.int .i64 0, .int .i64 0, .int .i64 0] 31)) w43.heap.size #[.int .i64 1, .int .i64 (-1), .int .i64 0] := (oA.alloc _).alloc _
  have oB2 : Own ((w44.alloc (.cells #[.int .i64 0, .int .i64 0, .int .i64 0] 31)).alloc (.cells #[.int .i64 0, .int .i64 0, .int .i64 0] 31)) (w43.heap.size + 1) #[.int .i64 3, .int .i64 5, .int .i64 0] := (oB.alloc _).alloc _
  refine region_late 21 [] (by kernel_rfl) (by kernel_rfl) (by rfl) ?_
  apply Exists.intro
  refine ⟨fun v hv hne => ?_, fun u hu => ?_⟩
  · simp only [List.take_succ_cons, List.take_zero]
    have doA := fun x => (oA2.later (v := v) (T := []) (by simp) x).cell
    have doB := fun x => (oB2.later (v := v) (T := []) (by simp) x).cell
    repeat (go_big_quiet_step ((go_at_call 20; with_reducible exact lateB (law08_vec _ _ _ _))))
    refine wpQuiet_nil ?_
    exact rfl
  · simp only [List.drop_succ_cons, List.drop_zero]
    refine late_mem (fun K hK => ?_)
    go_simp
    refine hK _ _ (Keeps.of_below hu) (fun u2 hu2 => ?_)
    clear hK K
    have hw3 := Below.hop (Below.hop hw2 hu) hu2
    clear hu hu2
    refine late_nil ?_
    (try simp only [Act.put, List.setIfInBounds_toArray, List.set_cons_zero])
    go_wp2
    go_ret
    exact ⟨rfl, hw3⟩
end Go.Proofs.Ytccnlnkgoaelpaa
