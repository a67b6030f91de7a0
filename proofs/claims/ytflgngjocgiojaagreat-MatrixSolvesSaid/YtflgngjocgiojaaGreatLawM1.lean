/- What the laws of package matrix need besides. -/
import Derived.Test.YtflgngjocgiojaaGreatMade5
import Derived.Test.YtflgngjocgiojaaGreatSan5
import Derived.Test.YtflgngjocgiojaaGreatRowI
namespace Go.Proofs.YtflgngjocgiojaaGreat
open Go.RowKit

/-- What the laws' matrices are like. -/
structure MadeM (M : List (List Int)) (r m : Nat) : Prop where
 len : M.length = r
 row : ∀ i, i < r → (rAt M i).length = m ∧ BdI (capB i) (rAt M i)
theorem MadeM.cols {M : List (List Int)} {r m : Nat} (h : MadeM M r m) (hr : 1 ≤ r) : cols M = m := by
 have h1 := (h.row 0 (by omega)).1
 have h2 := h.len
 cases M with
 | nil => simp at h2; omega
 | cons a b => exact h1
set_option maxRecDepth 100000 in
set_option maxHeartbeats 2000000 in
theorem law05_made (A : Option Addr) (n cap : Nat) (l : List Int) (x y : Int) (r m : Nat) (hx : 0 ≤ x) (hx2 : x ≤ 255) (hy : 0 ≤ y) (hy2 : y ≤ 255) (hr : 1 + x % 8 = r) (hm : 1 + y % 8 = m) (w : World) (hl : SliceI w A n l) :
  Calls Tryz.prog 10 #[.agg #[.slice A n cap, .int .u8 x, .int .u8 y]] w fun e w' => (∃ g c M, e = .returned (.slice (some ⟨g, 0, none⟩) r c) ∧ r ≤ c ∧ c ≤ 9223372036854775807 ∧ RowsAt w' (some ⟨g, 0, none⟩) r M ∧ MadeM M r m ∧ w.heap.size ≤ g) ∧ Below w.heap.size w w' := by
 have hW := (Below.refl w.heap.size w).alloc (Nat.le_refl _) (.cells #[.slice A n cap, .int .u8 x, .int .u8 y] 24)
 have HL := Lib.hid (hl.below hW)
 obtain ⟨qx, hqx⟩ : ∃ q, x % 8 = q := ⟨_, rfl⟩
 obtain ⟨qy, hqy⟩ : ∃ q, y % 8 = q := ⟨_, rfl⟩
 have e1 : x.tmod 8 = qx := by rw [Int.tmod_eq_emod_of_nonneg hx, hqx]
 have e2 : y.tmod 8 = qy := by rw [Int.tmod_eq_emod_of_nonneg hy, hqy]
 rw [hqx] at hr
 rw [hqy] at hm
 have b1 : 0 ≤ qx ∧ qx < 8 := by omega
 have b2 : 0 ≤ qy ∧ qy < 8 := by omega
 have w1 : IntKind.i64.wrap x = x := by rw [IntKind.wrap_i64]; omega
 have w2 : IntKind.i64.wrap y = y := by rw [IntKind.wrap_i64]; omega
 have HB : Hid (1 ≤ r ∧ r ≤ 8 ∧ 1 ≤ m ∧ m ≤ 8) := Lib.hid (by omega)
 clear hl
 go_enter Tryz.func10, Tryz.ntmps10
 go_wp2_with fail
 refine Calls.mono (ref5_Made A n cap l r m HB.out.1 HB.out.2.1 HB.out.2.2.1 HB.out.2.2.2 _ HL.out) ?_
 rintro e w2 ⟨⟨g, c, M, rfl, g1, g2, g3, g4, g5⟩, hb⟩
 have hw2 := hW.trans (hb.mono hW.size)
 have HG := Lib.hid (And.intro g3 g4)
 simp at g5
 clear g3 g4 hb hW
 go_wp2
 go_ret
 exact ⟨⟨g, c, M, rfl, g1, g2, HG.out.1, ⟨HG.out.1.len, HG.out.2⟩, by omega⟩, hw2⟩
set_option maxRecDepth 100000 in
set_option maxHeartbeats 4000000 in
theorem law05_right (A : Option Addr) (n cap : Nat) (l : List Int) (r : Nat) (hr1 : 1 ≤ r) (hr8 : r ≤ 8) (w : World) (hl : SliceI w A n l) :
  Calls Tryz.prog 13 #[.slice A n cap, .int .i64 r] w fun e w' => (∃ g c b, e = .returned (.slice (some ⟨g, 0, none⟩) r c) ∧ r ≤ c ∧ c ≤ 9223372036854775807 ∧ IntsAt w' (some ⟨g, 0, none⟩) r b ∧ BdI 20 b ∧ w.heap.size ≤ g ∧ g < w'.heap.size) ∧ Below w.heap.size w w' := by
 obtain ⟨i0, hi, hz0, hz1, hz2⟩ := info_parts infoI
 have hri : (r : Int) ≤ 8 := by omega
 have HLI := Lib.hid hl
 clear hl
 obtain ⟨bd, hbd⟩ : ∃ b, w.heap.size = b := ⟨_, rfl⟩
 have hW0 := (Below.refl w.heap.size w).alloc (Nat.le_refl _) (.cells #[.slice A n cap, .int .i64 0] 75)
 have hD0 := DrawAt.start (cap := cap) (T := 75) HLI.out
 have hz0' : w.heap.size + 1 ≤ (w.alloc (.cells #[.slice A n cap, .int .i64 0] 75)).heap.size := by simp
 go_enter Tryz.func13, Tryz.ntmps13
 go_wp2
 generalize (w.alloc (.cells #[.slice A n cap, .int .i64 0] 75)) = W0 at *
 rw [hbd] at hD0 hz0'
 have HD0 := Lib.hid hD0
 have HBD := Lib.hid hbd
 clear hD0 HLI hbd
 have hw := hW0
 have hws := hz0'
 clear hW0 hz0'
 go_loopw [6, 7] (fun v i wr => ∃ (k : Nat) (b d : List Int), k ≤ r ∧ i = .int .i64 k ∧ Below w.heap.size w wr ∧ bd + 1 ≤ wr.heap.size ∧ DrawAt wr bd d ∧ wr.ownsRow (bd + 1) 3 1 v k (encI b) ∧ b.length = k ∧ BdI 20 b) (fun _ i _ => r - (intOf i).toNat)
 case atStart => exact ⟨0, [], _, by omega, rfl, hw, hws, HD0.out, ⟨rfl, .inl ⟨rfl, rfl⟩⟩, rfl, fun i => by simp [iAt]⟩
 case round =>
  clear hw hws HD0
  obtain ⟨k, b, d, hk, rfl, hw, hws, hd, hrow, hbl, hbb⟩ := hrel
  have HD := Lib.hid hd
  have HO := Lib.hid hrow
  have HM := Lib.hid (And.intro hbl hbb)
  have hz := hw.size
  clear hd hrow hbl hbb
  by_cases hkr : k < r
  ·have hkri : (k : Int) < (r : Int) := by omega
   obtain ⟨q, hq⟩ : ∃ q, nextV d 41 = q := ⟨_, rfl⟩
   have nb := nextV_bd d 41 (by omega)
   rw [hq] at nb
   obtain ⟨x, hx⟩ : ∃ x, q - 20 = x := ⟨_, rfl⟩
   have hxb : -20 ≤ x ∧ x ≤ 20 := by omega
   have HC := Lib.hid (callv (ref1_Next bd d 41 (by omega) (by omega) wr HD.out) (congrArg (Value.int IntKind.i64) hq))
   clear hq
   go_wp2_with fail
   refine Calls.mono HC.out ?_
   rintro e w2 ⟨rfl, hu, hd2⟩
   have hw2 := Upd.below hw hu (by simp; have := HBD.out; omega)
   have HO2 := Lib.hid (ownsRow_upd HO.out hu (by omega))
   have HD2 := Lib.hid hd2
   have hs2 : bd + 1 ≤ w2.heap.size := by have := hu.size; omega
   clear HC hu hd2 HD HO hw hws hz
   go_wp2_with (at_builtin; refine wpList_append_lies _ rfl _ _ _ (by rfl) (bd + 1) 3 i0 (.int .i64 0) 1 8 Tryz.underlying22 hi hz0 hz1 hz2 rfl (by omega) _ k (encI b) (by rfl) (HO2.out.alloc _) ⟨w2.heap.size, 0, none⟩ 1 1 [.int .i64 x] (by rfl) rfl ?c1 ?c2 (by omega) ?c3 ?c4 ?c5 (w2.heap.size + 1) (by simp) ?_)
   case c1 => exact World.news_of_block (heap_alloc_new w2 _)
   case c2 => intro u hu; simp at hu; subst hu; rfl
   case c3 => unfold maxLen; omega
   case c4 => omega
   case c5 => simp; omega
   intro g cg w6 ho6 hg6 hat hlt6
   have hob : ∀ b, _ = some b → bd + 1 ≤ b := fun b hb => ownBlock_ge HO2.out hb
   have hal : Below w2.heap.size w2 (w2.alloc (.cells #[.int .i64 x] 3)) := (Below.refl _ _).alloc (Nat.le_refl _) _
   have hbw := HBD.out
   have B6 := Lib.hid (Below.grown (hw2.trans (hal.mono hw2.size)) hg6 (by simp; omega) (fun b hb => by have := hob b hb; omega))
   rw [encI_snoc] at ho6
   have HO6 := Lib.hid ho6
   have HD6 := Lib.hid (DrawAt.of_blocks (HD2.out.below hal) (w' := w6) (fun i hi => hg6.block i (by simp; omega) (fun e => by have := hob i e.symm; omega)))
   have hs6 : bd + 1 ≤ w6.heap.size := by have := hg6.size; simp at this; omega
   have HM6 : Hid ((b ++ [x]).length = k + 1 ∧ BdI 20 (b ++ [x])) := Lib.hid ⟨by rw [List.length_append, HM.out.1]; rfl, fun i => by
    by_cases e : i < b.length
    ·have : iAt (b ++ [x]) i = iAt b i := by unfold iAt; rw [List.getD_eq_getElem?_getD, List.getElem?_append_left e, ← List.getD_eq_getElem?_getD]
     rw [this]; exact HM.out.2 i
    ·by_cases e2 : i = b.length
     ·have : iAt (b ++ [x]) i = x := by unfold iAt; rw [List.getD_eq_getElem?_getD, e2, List.getElem?_append_right (Nat.le_refl _), Nat.sub_self]; rfl
      rw [this]; exact hxb
     ·have : iAt (b ++ [x]) i = 0 := by unfold iAt; rw [List.getD_eq_getElem?_getD, List.getElem?_eq_none (by simp; omega)]; rfl
      rw [this]; omega⟩
   clear ho6 hg6 hat hob hal hlt6 hbw hx
   go_wp2
   go_roundw
   case rel => exact ⟨k + 1, _, _, by omega, by go_num, B6.out, hs6, HD6.out, HO6.out, HM6.out.1, HM6.out.2⟩
   case measure => simp [intOf]; omega
  ·obtain rfl : k = r := by omega
   obtain ⟨A2, c2, rfl, g1, g2, g3, g4⟩ := ints_of_row HO.out HM.out.1 (HM.out.2.i64 (by omega))
   obtain ⟨b2, off2, rfl, _⟩ := g3.row (by omega)
   obtain ⟨rfl, h7, h8, _⟩ := g4 b2 off2 rfl
   have HG := Lib.hid g3
   clear g3 g4 HO
   go_wp2
   go_ret
   exact ⟨⟨b2, c2, b, rfl, g1, g2, HG.out, HM.out.2, by have := HBD.out; omega, h8⟩, hw⟩
end Go.Proofs.YtflgngjocgiojaaGreat
namespace Go.Proofs.YtflgngjocgiojaaGreat
open Go.RowKit

theorem check_of {M : List (List Int)} (h1 : M.length ≤ 48) (h2 : cols M ≤ 8) (h3 : ∀ i, i < M.length → (rAt M i).length = cols M) (h4 : ∀ i, i < M.length → ∀ k, k < cols M → largeI (iAt (rAt M i) k) = false) : matCheck M = 0 := by
 unfold matCheck
 rw [if_neg (by omega), if_neg, if_neg]
 ·rw [anyF_no]
  ·simp
  ·intro k hk
   refine anyF_no fun j hj => h4 k hk j ?_
   rw [h3 k hk] at hj
   exact hj
 ·rw [anyF_no]
  ·simp
  ·intro k hk
   exact decide_eq_false (by rw [h3 k hk]; simp)
theorem not_large {x B : Int} (h1 : -B ≤ x) (h2 : x ≤ B) (hB : B ≤ 2147483648) : largeI x = false := by
 unfold largeI
 rw [decide_eq_false (by omega), decide_eq_false (by omega)]
 rfl
theorem MadeM.check {M : List (List Int)} {r m : Nat} (h : MadeM M r m) (h1 : 1 ≤ r) (h2 : r ≤ 8) (h3 : m ≤ 8) : matCheck M = 0 := by
 have hc := h.cols h1
 refine check_of (by rw [h.len]; omega) (by omega) (fun i hi => by rw [hc]; exact (h.row i (by rw [← h.len]; exact hi)).1) (fun i hi k _ => ?_)
 have hi' : i < r := by rw [← h.len]; exact hi
 have h5 := (h.row i hi').2 k
 exact not_large h5.1 h5.2 (by have := capB_le (k := i) (by omega); omega)
theorem solveE_val {M : List (List Int)} {b : List Int} (h1 : matCheck M = 0) (h2 : cols M = M.length) (h3 : b.length = M.length) (h4 : anyF (fun k => largeI (iAt b k)) b.length = false) : solveE M b = if rankZ M < M.length then 8 else 0 := by
 unfold solveE
 rw [if_neg (by rw [h1]; simp), if_neg (by rw [h2, h3]; simp), if_neg (by rw [h4]; simp), rankS_Z h1 h3]
theorem bd_large {B : Int} {b : List Int} (h : BdI B b) (hB : B ≤ 2147483648) : anyF (fun k => largeI (iAt b k)) b.length = false := anyF_no fun k _ => not_large (h k).1 (h k).2 hB
theorem own_of_row {w : World} {base : Nat} {e : TypeId} {g n cap : Nat} {xs : List Value} (h : w.ownsRow base e 1 (.slice (some ⟨g, 0, none⟩) n cap) n xs) (hn : 0 < n) : base ≤ g ∧ g < w.heap.size ∧ n ≤ cap ∧ cap ≤ 9223372036854775807 ∧ ∃ cur, Own w g cur ∧ ∀ i, i < n → cur[i]? = xs[i]? := by
 have q := ownsRow_cell h hn
 rcases h.2 with ⟨e1, e2⟩ | ⟨g', cap', cur, e1, e2, e3, e4, e5, e6, e7⟩
 ·omega
 ·injection e1 with a1 a2 a3
  injection a1 with a1; injection a1 with a1
  subst a1
  refine ⟨q.1, q.2.1, q.2.2.1, q.2.2.2.1, cur, ⟨_, e3⟩, fun i hi => ?_⟩
  have ho : Own w g cur := ⟨_, e3⟩
  rw [← ho.cell i]
  exact q.2.2.2.2 i (by omega)
theorem ints_of_cells {W : World} {b n : Nat} {cur : Array Value} {l : List Int} (h : Own W b cur) (hn : l.length = n) (hI : I64L l) (hc : ∀ i, i < n → cur[i]? = some (.int .i64 (iAt l i))) : IntsAt W (some ⟨b, 0, none⟩) n l :=
 ⟨hn, hI, fun _ => ⟨b, 0, rfl, h.lt, fun i hi => by rw [Nat.zero_add, h.cell]; exact hc i hi⟩⟩
theorem iAt_map {n i : Nat} (f : Nat → Int) (h : i < n) : iAt ((List.range n).map f) i = f i := by
 unfold iAt
 rw [List.getD_eq_getElem?_getD, List.getElem?_map, List.getElem?_range h]
 rfl
theorem IntsAt.upd {T : List Nat} {w u : World} {b n : Nat} {l : List Int} (h : IntsAt w (some ⟨b, 0, none⟩) n l) (hT : b ∉ T) (k : Upd T w u) : IntsAt u (some ⟨b, 0, none⟩) n l :=
 ⟨h.len, h.ok, fun h0 => by
  obtain ⟨b', off, e, hlt, hc⟩ := h.row h0
  cases e
  exact ⟨_, _, rfl, Nat.lt_of_lt_of_le hlt k.size, fun i hi => (World.cell?_of_block (w := w) (a := ⟨b, 0 + i, none⟩) (k.block b hlt hT)).trans (hc i hi)⟩⟩
/-- A maker: a right-hand side. -/
def rightB (T : List Nat) (r : Nat) : EBS T where
 val p := .slice (some ⟨p.1, 0, none⟩) r p.2
 R p u := p.1 ∉ T ∧ r ≤ p.2 ∧ p.2 ≤ 9223372036854775807 ∧ ∃ b, IntsAt u (some ⟨p.1, 0, none⟩) r b ∧ BdI 20 b
 st _ _ _ h k := ⟨h.1, h.2.1, h.2.2.1, by obtain ⟨b, h1, h2⟩ := h.2.2.2; exact ⟨b, h1.upd h.1 k, h2⟩⟩
theorem rightB_val {T : List Nat} {r : Nat} {p : Nat × Nat} : (rightB T r).val p = .slice (some ⟨p.1, 0, none⟩) r p.2 := rfl
/-- A maker: a ratio of the reference. -/
def ratCV (T : List Nat) (B : Nat) (z y : Int) : EBS T where
 val p := ratC z y p.1 (un1 p.2) (un3 p.2) (un2 p.2)
 R p u := p.1 ∉ T ∧ un3 p.2 ∉ T ∧ NumC u p.1 (un1 p.2) z ∧ NumC u (un3 p.2) (un2 p.2) y ∧ B ≤ un3 p.2 ∧ un3 p.2 < u.heap.size
 st _ _ _ h k := ⟨h.1, h.2.1, h.2.2.1.upd h.1 k, h.2.2.2.1.upd h.2.1 k, h.2.2.2.2.1, Nat.lt_of_lt_of_le h.2.2.2.2.2 k.size⟩
theorem ratCV_val {T : List Nat} {B : Nat} {z y : Int} {p : Nat × Nat} : (ratCV T B z y).val p = ratC z y p.1 (un1 p.2) (un3 p.2) (un2 p.2) := rfl
theorem ratC_at {w : World} {p q : Int} {b1 C1 b2 C2 : Nat} (h1 : NumC w b1 C1 p) (h2 : NumC w b2 C2 q) (f1 : fits p = true) (f2 : fits q = true) : RatAt w (ratC p q b1 C1 b2 C2) p q := by
 obtain ⟨A1, n1, c1, e1⟩ := slC_form p b1 C1
 obtain ⟨A2, n2, c2, e2⟩ := slC_form q b2 C2
 exact ⟨_, A1, n1, c1, _, A2, n2, c2, by rw [ratC, e1, e2], h1.at2 f1 e1, h2.at2 f2 e2⟩
set_option maxRecDepth 100000 in
set_option maxHeartbeats 2000000 in
theorem ref3_IntC {w : World} (n : Int) (h1 : -9223372036854775808 ≤ n) (h2 : n ≤ 9223372036854775807) : Calls Tryz.prog 30 #[.int .i64 n] w fun r w' => (∃ b1 C1 b2 C2, r = .returned (ratC n 1 b1 C1 b2 C2) ∧ NumC w' b1 C1 n ∧ NumC w' b2 C2 1 ∧ w.heap.size ≤ b1 ∧ b1 < w'.heap.size ∧ w.heap.size ≤ b2 ∧ b2 < w'.heap.size) ∧ Below w.heap.size w w' := by
 have hW := (Below.refl w.heap.size w).alloc (Nat.le_refl _) (.cells #[.bool false, .slice none 0 0, .bool false, .slice none 0 0] 37)
 have o4 : Own (w.alloc (.cells #[.bool false, .slice none 0 0, .bool false, .slice none 0 0] 37)) w.heap.size #[.bool false, .slice none 0 0, .bool false, .slice none 0 0] := (by repeat' (first | ((refine Own.new ?_); (focus (first | rfl | omega | (simp; done) | (simp; omega)))) | assumption | refine Own.alloc ?_ _ | refine Own.drew ?_ | (refine Own.far ?_ ?_ _; rotate_left; (focus (first | rfl | omega | (simp; done) | (simp; omega))))))
 have hz := hW.size
 have hn := Lib.hid (And.intro h1 (And.intro h2 (show fits n = true from fits_small (by omega))))
 clear h1 h2
 go_enter Tryz.func30, Tryz.ntmps30
 go_wp2_with fail
 generalize (w.alloc (.cells #[.bool false, .slice none 0 0, .bool false, .slice none 0 0] 37)) = W0 at *
 refine Calls.mono (ref3_whole n hn.out.1 hn.out.2.1) ?_
 rintro e u1 ⟨⟨b1, C1, rfl, oN, loN, hiN⟩, hb1⟩
 have hw1 := hW.trans (hb1.mono hz)
 have hz1 := hw1.size
 have p4 := o4.below hb1
 have l1 := Nat.lt_of_lt_of_le o4.lt loN
 clear hb1 o4
 go_wp2_with fail
 refine Calls.mono (ref3_whole 1 (by omega) (by omega)) ?_
 rintro e u2 ⟨⟨b2, C2, rfl, oM, loM, hiM⟩, hb2⟩
 have hwu := hw1.trans (hb2.mono hz1)
 have q4 := p4.below hb2
 have l2 := Nat.lt_of_lt_of_le p4.lt loM
 have l3 := hb2.size
 have HN := Lib.hid (And.intro (oN.below hb2) oM)
 have q4c := q4.cell
 have q4f := q4.thaw
 have q4z := q4.lt
 obtain ⟨A7, n7, c7, hs7⟩ := slC_form n b1 C1
 obtain ⟨A8, n8, c8, hs8⟩ := slC_form 1 b2 C2
 simp only [numC]
 rw [hs7, hs8]
 have HSL := Lib.hid (And.intro hs7 hs8)
 clear hs7 hs8 oN oM hb2 p4
 go_wp2
 refine retC (b := w.heap.size) (v := .agg #[.bool (sgnN n), .slice A7 n7 c7, .bool (sgnN 1), .slice A8 n8 c8]) (((((q4.set 0 (.bool (sgnN n))).set 1 (.slice A7 n7 c7)).set 2 (.bool (sgnN 1))).set 3 (.slice A8 n8 c8))) (fun w' hw' => by simp [results, Tryz.results30, go_sem, hw']) rfl ⟨⟨b1, C1, b2, C2, by rw [ratC, HSL.out.1, HSL.out.2], ((((HN.out.1).far (p := ⟨w.heap.size, 0, none⟩) (by simp; omega) (.bool (sgnN n))).far (p := ⟨w.heap.size, 1, none⟩) (by simp; omega) (.slice A7 n7 c7)).far (p := ⟨w.heap.size, 2, none⟩) (by simp; omega) (.bool (sgnN 1))).far (p := ⟨w.heap.size, 3, none⟩) (by simp; omega) (.slice A8 n8 c8), ((((HN.out.2).far (p := ⟨w.heap.size, 0, none⟩) (by simp; omega) (.bool (sgnN n))).far (p := ⟨w.heap.size, 1, none⟩) (by simp; omega) (.slice A7 n7 c7)).far (p := ⟨w.heap.size, 2, none⟩) (by simp; omega) (.bool (sgnN 1))).far (p := ⟨w.heap.size, 3, none⟩) (by simp; omega) (.slice A8 n8 c8), by omega, by simp; omega, by omega, by simp; omega⟩, ((((hwu.setCell (p := ⟨w.heap.size, 0, none⟩) (by simp) (.bool (sgnN n))).setCell (p := ⟨w.heap.size, 1, none⟩) (by simp) (.slice A7 n7 c7)).setCell (p := ⟨w.heap.size, 2, none⟩) (by simp) (.bool (sgnN 1))).setCell (p := ⟨w.heap.size, 3, none⟩) (by simp) (.slice A8 n8 c8))⟩
end Go.Proofs.YtflgngjocgiojaaGreat
