/- An append to a slice that has no room makes a new block; as a maker and as a stepper of a region that draws its order. -/
import Derived.Test.YtflgngjocgiojaaGreatMade5
import Derived.Test.YtflgngjocgiojaaGreatSan5
import Derived.Test.YtflgngjocgiojaaGreatRowI
import Derived.Deep.AppendLies
import Derived.Test.YtflgngjocgiojaaGreatStep
import Derived.Test.YtflgngjocgiojaaGreatRankC
import Derived.Laws.OwnMore
import Derived.Test.YtflgngjocgiojaaGreatMake
namespace Go.Proofs.YtflgngjocgiojaaGreat
open Go.RowKit

/-- What the laws' matrices are like. -/
structure MadeM (M : List (List Int)) (r m : Nat) : Prop where
 len : M.length = r
 row : ∀ i, i < r → (rAt M i).length = m ∧ BdI (capB i) (rAt M i)
theorem MadeM.cols {M : List (List Int)} {r m : Nat} (h : MadeM M r m) (hr : 1 ≤ r) : cols M = m := by
 have h1 := (h.row 0 (by omega)).1
 have h2 := h.len
 cases M with
 | nil => simp at h2; omega
 | cons a b => exact h1
set_option maxRecDepth 100000 in
set_option maxHeartbeats 2000000 in
theorem law05_made (A : Option Addr) (n cap : Nat) (l : List Int) (x y : Int) (r m : Nat) (hx : 0 ≤ x) (hx2 : x ≤ 255) (hy : 0 ≤ y) (hy2 : y ≤ 255) (hr : 1 + x % 8 = r) (hm : 1 + y % 8 = m) (w : World) (hl : SliceI w A n l) :
  Calls Tryz.prog 10 #[.agg #[.slice A n cap, .int .u8 x, .int .u8 y]] w fun e w' => (∃ g c M, e = .returned (.slice (some ⟨g, 0, none⟩) r c) ∧ r ≤ c ∧ c ≤ 9223372036854775807 ∧ RowsAt w' (some ⟨g, 0, none⟩) r M ∧ MadeM M r m ∧ w.heap.size ≤ g ∧ OwnRows (w.heap.size + 2) w' (.slice (some ⟨g, 0, none⟩) r c) M) ∧ Below w.heap.size w w' := by
 have hW := (Below.refl w.heap.size w).alloc (Nat.le_refl _) (.cells #[.slice A n cap, .int .u8 x, .int .u8 y] 24)
 have HL := Lib.hid (hl.below hW)
 obtain ⟨qx, hqx⟩ : ∃ q, x % 8 = q := ⟨_, rfl⟩
 obtain ⟨qy, hqy⟩ : ∃ q, y % 8 = q := ⟨_, rfl⟩
 have e1 : x.tmod 8 = qx := by rw [Int.tmod_eq_emod_of_nonneg hx, hqx]
 have e2 : y.tmod 8 = qy := by rw [Int.tmod_eq_emod_of_nonneg hy, hqy]
 rw [hqx] at hr
 rw [hqy] at hm
 have b1 : 0 ≤ qx ∧ qx < 8 := by omega
 have b2 : 0 ≤ qy ∧ qy < 8 := by omega
 have w1 : IntKind.i64.wrap x = x := by rw [IntKind.wrap_i64]; omega
 have w2 : IntKind.i64.wrap y = y := by rw [IntKind.wrap_i64]; omega
 have HB : Hid (1 ≤ r ∧ r ≤ 8 ∧ 1 ≤ m ∧ m ≤ 8) := Lib.hid (by omega)
 clear hl
 go_enter Tryz.func10, Tryz.ntmps10
 go_wp2_with fail
 refine Calls.mono (ref5_Made A n cap l r m HB.out.1 HB.out.2.1 HB.out.2.2.1 HB.out.2.2.2 _ HL.out) ?_
 rintro e w2 ⟨⟨g, c, M, rfl, g1, g2, g3, g4, g5, g6⟩, hb⟩
 have hw2 := hW.trans (hb.mono hW.size)
 have HG := Lib.hid (And.intro g3 (And.intro g4 g6))
 simp at g5
 clear g3 g4 g6 hb hW
 go_wp2
 go_ret
 exact ⟨⟨g, c, M, rfl, g1, g2, HG.out.1, ⟨HG.out.1.len, HG.out.2.1⟩, by omega, by have h := HG.out.2.2; simpa using h⟩, hw2⟩
end Go.Proofs.YtflgngjocgiojaaGreat
namespace Go.Proofs.YtflgngjocgiojaaGreat
open Go.RowKit

theorem check_of {M : List (List Int)} (h1 : M.length ≤ 48) (h2 : cols M ≤ 8) (h3 : ∀ i, i < M.length → (rAt M i).length = cols M) (h4 : ∀ i, i < M.length → ∀ k, k < cols M → largeI (iAt (rAt M i) k) = false) : matCheck M = 0 := by
 unfold matCheck
 rw [if_neg (by omega), if_neg, if_neg]
 ·rw [anyF_no]
  ·simp
  ·intro k hk
   refine anyF_no fun j hj => h4 k hk j ?_
   rw [h3 k hk] at hj
   exact hj
 ·rw [anyF_no]
  ·simp
  ·intro k hk
   exact decide_eq_false (by rw [h3 k hk]; simp)
theorem not_large {x B : Int} (h1 : -B ≤ x) (h2 : x ≤ B) (hB : B ≤ 2147483648) : largeI x = false := by
 unfold largeI
 rw [decide_eq_false (by omega), decide_eq_false (by omega)]
 rfl
theorem MadeM.check {M : List (List Int)} {r m : Nat} (h : MadeM M r m) (h1 : 1 ≤ r) (h2 : r ≤ 8) (h3 : m ≤ 8) : matCheck M = 0 := by
 have hc := h.cols h1
 refine check_of (by rw [h.len]; omega) (by omega) (fun i hi => by rw [hc]; exact (h.row i (by rw [← h.len]; exact hi)).1) (fun i hi k _ => ?_)
 have hi' : i < r := by rw [← h.len]; exact hi
 have h5 := (h.row i hi').2 k
 exact not_large h5.1 h5.2 (by have := capB_le (k := i) (by omega); omega)
theorem own_of_row {w : World} {base : Nat} {e : TypeId} {g n cap : Nat} {xs : List Value} (h : w.ownsRow base e 1 (.slice (some ⟨g, 0, none⟩) n cap) n xs) (hn : 0 < n) : base ≤ g ∧ g < w.heap.size ∧ n ≤ cap ∧ cap ≤ 9223372036854775807 ∧ ∃ cur, Own w g cur ∧ ∀ i, i < n → cur[i]? = xs[i]? := by
 have q := ownsRow_cell h hn
 rcases h.2 with ⟨e1, e2⟩ | ⟨g', cap', cur, e1, e2, e3, e4, e5, e6, e7⟩
 ·omega
 ·injection e1 with a1 a2 a3
  injection a1 with a1; injection a1 with a1
  subst a1
  refine ⟨q.1, q.2.1, q.2.2.1, q.2.2.2.1, cur, ⟨_, e3⟩, fun i hi => ?_⟩
  have ho : Own w g cur := ⟨_, e3⟩
  rw [← ho.cell i]
  exact q.2.2.2.2 i (by omega)
theorem ints_of_cells {W : World} {b n : Nat} {cur : Array Value} {l : List Int} (h : Own W b cur) (hn : l.length = n) (hI : I64L l) (hc : ∀ i, i < n → cur[i]? = some (.int .i64 (iAt l i))) : IntsAt W (some ⟨b, 0, none⟩) n l :=
 ⟨hn, hI, fun _ => ⟨b, 0, rfl, h.lt, fun i hi => by rw [Nat.zero_add, h.cell]; exact hc i hi⟩⟩
theorem iAt_map {n i : Nat} (f : Nat → Int) (h : i < n) : iAt ((List.range n).map f) i = f i := by
 unfold iAt
 rw [List.getD_eq_getElem?_getD, List.getElem?_map, List.getElem?_range h]
 rfl
theorem IntsAt.upd {T : List Nat} {w u : World} {b n : Nat} {l : List Int} (h : IntsAt w (some ⟨b, 0, none⟩) n l) (hT : b ∉ T) (k : Upd T w u) : IntsAt u (some ⟨b, 0, none⟩) n l :=
 ⟨h.len, h.ok, fun h0 => by
  obtain ⟨b', off, e, hlt, hc⟩ := h.row h0
  cases e
  exact ⟨_, _, rfl, Nat.lt_of_lt_of_le hlt k.size, fun i hi => (World.cell?_of_block (w := w) (a := ⟨b, 0 + i, none⟩) (k.block b hlt hT)).trans (hc i hi)⟩⟩
end Go.Proofs.YtflgngjocgiojaaGreat
namespace Go.Proofs.YtflgngjocgiojaaGreat
open Go.RowKit

end Go.Proofs.YtflgngjocgiojaaGreat
namespace Go.Proofs.YtflgngjocgiojaaGreat
open Go.RowKit

theorem OwnRows.below {base : Nat} {w w' : World} {v : Value} {M : List (List Int)} (h : OwnRows base w v M) (hb : Below w.heap.size w w') : OwnRows base w' v M := by
 obtain ⟨xs, h1, h2⟩ := h
 exact ⟨xs, ownsRow_stay h1 hb, h2.below hb⟩
theorem OwnRows.rows {base : Nat} {w : World} {v : Value} {M : List (List Int)} (h : OwnRows base w v M) (h0 : 0 < M.length) : ∃ g c, v = .slice (some ⟨g, 0, none⟩) M.length c ∧ M.length ≤ c ∧ c ≤ 9223372036854775807 ∧ RowsAt w (some ⟨g, 0, none⟩) M.length M ∧ base ≤ g ∧ g < w.heap.size := by
 obtain ⟨xs, h1, h2⟩ := h
 obtain ⟨A2, c2, rfl, g1, g2, g3, g4⟩ := rows_of_row h1 h2 rfl
 obtain ⟨g, rfl, h3, h4⟩ := g4 h0
 exact ⟨g, c2, rfl, g1, g2, g3, h3, h4⟩
theorem row_first {w : World} {b n : Nat} {M : List (List Int)} (h : RowsAt w (some ⟨b, 0, none⟩) n M) {i : Nat} (hi : i < n) : b < w.heap.size ∧ ∃ B m c, w.cell? ⟨b, i, none⟩ = some (.slice B m c) ∧ m ≤ c ∧ c ≤ 9223372036854775807 ∧ IntsAt w B m (rAt M i) := by
 obtain ⟨b', off, e, hlt, hc⟩ := h.row (by omega)
 cases e
 have := hc i hi
 rw [Nat.zero_add] at this
 exact ⟨hlt, this⟩
theorem iAt_take {l : List Int} {k i : Nat} (h : i < k) : iAt (l.take k) i = iAt l i := by
 unfold iAt
 simp only [List.getD_eq_getElem?_getD]
 rw [List.getElem?_take_of_lt h]
/-- What the law's matrices are like after some steps. -/
structure StepM (M : List (List Int)) (r m k rk : Nat) : Prop where
 len : M.length = r + k
 cols : cols M = m
 chk : matCheck M = 0
 rank : rankZ M = rk + k
theorem cols_app {M : List (List Int)} {l : List Int} (h : 0 < M.length) : cols (M ++ [l]) = cols M := by
 cases M with
 | nil => simp at h
 | cons a b => rfl
theorem StepM.next {M : List (List Int)} {Z : List Int} {r m k rk f : Nat} (h : StepM M r m k rk) (hr : 1 ≤ r) (hrk : r + k ≤ 40) (hz : KerZ M Z f) (hs : ∀ i, i < m → -2147483648 ≤ iAt Z i ∧ iAt Z i ≤ 2147483648) : StepM (M ++ [Z]) r m (k + 1) rk := by
 have h0 : 0 < M.length := by have := h.len; omega
 have hc := cols_app (l := Z) h0
 obtain ⟨o1, o2, o3, o4⟩ := matCheck_ok h.chk
 have ha : ∀ i, i < M.length → rAt (M ++ [Z]) i = rAt M i := fun i hi => by
  rcases rAt_at (M := M) (l := Z) (i := i) (by simp; omega) with ⟨_, e⟩ | ⟨e, _⟩
  ·exact e
  ·omega
 have hl : rAt (M ++ [Z]) M.length = Z := by
  rcases rAt_at (M := M) (l := Z) (i := M.length) (by simp) with ⟨e, _⟩ | ⟨_, e⟩
  ·omega
  ·exact e
 have hchk : matCheck (M ++ [Z]) = 0 := check_of (by rw [List.length_append, h.len]; simp; omega) (by rw [hc]; exact o2) (fun i hi => by
  rw [hc]
  by_cases e : i < M.length
  ·rw [ha i e]; exact o3 i e
  ·have : i = M.length := by simp at hi; omega
   rw [this, hl]; exact hz.len) (fun i hi j hj => by
  rw [hc] at hj
  by_cases e : i < M.length
  ·rw [ha i e]; exact o4 i e j hj
  ·have : i = M.length := by simp at hi; omega
   rw [this, hl]
   have := hs j (by rw [← h.cols]; exact hj)
   exact not_large (B := 2147483648) (by omega) (by omega) (by omega))
 refine ⟨by rw [List.length_append, h.len]; simp; omega, by rw [hc, h.cols], hchk, ?_⟩
 have hp := rank_perp h.chk hchk hc (by simp) (fun i hi j _ => by rw [ha i hi]) (f := f) hz.lt (by rw [hl]; have := hz.pos; omega) (fun y hy => by rw [hl]; exact hz.rows y hy)
 rw [hp, h.rank]
 omega
end Go.Proofs.YtflgngjocgiojaaGreat
namespace Go.Proofs.YtflgngjocgiojaaGreat
open Go.RowKit

theorem late_append {P : Program} {w : World} {o : Oper} {a : Act} {K : Value → World → Prop} (s x : Operand) (t : TypeId)
  (ho : o.op = .call { callee := .builtin .append, args := #[s, x], argTypes := #[t, t] })
  (base : Nat) (e : TypeId) (i : TypeInfo) (z : Value) (size bytes : Nat) (ht : P.underlying t = some (.slice e)) (hi : P.info? e = some i) (hz : i.zero = some z)
  (hsize : i.size = size) (hby : i.bytes = bytes) (hzs : z.cells.size = size) (hsz : 0 < size)
  (v : Value) (n : Nat) (xs : List Value) (hs : a.eval s = v) (hown : w.ownsRow base e size v n xs)
  (ad : Addr) (m c : Nat) (news : List Value) (hx : a.eval x = .slice (some ad) m c) (hl : news.length = m * size) (hnews : ∀ j u, news[j]? = some u → w.cell? (ad.add j) = some u) (h1 : ∀ u ∈ news, u.oneCell' = true)
  (hm : 0 < m) (h63 : n + m ≤ maxLen) (hbytes : (n + m) * bytes ≤ 140737488355328) (hbase : base ≤ w.heap.size) (H : Nat) (hH : w.heap.size = H)
  (h : ∀ g cap w', w'.ownsRow base e size (.slice (some ⟨g, 0, none⟩) (n + m) cap) (n + m) (xs ++ news) → w.grownBy w' v.ownBlock → (v.ownBlock = some g ∨ g = H) → g < w'.heap.size → K (.slice (some ⟨g, 0, none⟩) (n + m) cap) w') : lateOp P o a w K := by
 obtain ⟨g, cap, w', hr, h2, h3, h4, h5⟩ := run_append_lies (P := P) w t o.type base e i z size bytes ht hi hz hsize hby hzs hsz v n xs hown ad m c news hl hnews h1 hm h63 hbytes hbase H hH
 unfold lateOp execOp
 simp only [ho, resolve, invoke, builtin, Sem.run_bind, Sem.run_pure, Result.andThen_ok, List.map_toArray, List.map_cons, List.map_nil, hs, hx, hr, lateUpon]
 exact h g cap w' h2 h3 h4 h5
end Go.Proofs.YtflgngjocgiojaaGreat
namespace Go.Proofs.YtflgngjocgiojaaGreat
open Go.RowKit

def ownL (v : Value) : List Nat := v.ownBlock.toList
theorem mem_ownL {v : Value} {b : Nat} : b ∈ ownL v ↔ v.ownBlock = some b := by unfold ownL; simp
theorem keeps_grown {T : List Nat} {w u v : World} {row : Option Nat} (h : Keeps T w u) (hg : u.grownBy v row) (hr : ∀ r, row = some r → r ∈ T ∨ w.heap.size ≤ r) : Keeps T w v :=
 ⟨Nat.le_trans h.1 hg.size, fun b hb hT => (hg.block b (Nat.lt_of_lt_of_le hb h.1) (fun e => by
  rcases hr b e.symm with h1 | h1
  ·exact hT h1
  ·omega)).trans (h.2 b hb hT)⟩
theorem IntsAt.take {w : World} {A : Option Addr} {n m : Nat} {l : List Int} (h : IntsAt w A n l) (hm : m ≤ n) : IntsAt w A m (l.take m) := by
 refine ⟨by rw [List.length_take, h.len]; omega, fun i hi => ?_, fun h0 => ?_⟩
 ·rw [List.length_take] at hi
  rw [iAt_take (by omega)]
  exact h.ok i (by omega)
 ·obtain ⟨b, off, e, hlt, hc⟩ := h.row (by omega)
  exact ⟨b, off, e, hlt, fun i hi => by rw [iAt_take hi]; exact hc i (by omega)⟩
/-- A vector of ratios of a function's own, to which others may be appended; the block bg lies apart. -/
def VecQ (B bg : Nat) (w : World) (v : Value) (i : Nat) (Q : Nat → QI) : Prop := ∃ xs, w.ownsRow B 37 4 v i xs ∧ RatC (fun b => b ≠ bg ∧ some b ≠ v.ownBlock) w xs i Q
theorem VecQ.below {B bg : Nat} {w w' : World} {v : Value} {i : Nat} {Q : Nat → QI} (h : VecQ B bg w v i Q) (hb : Below w.heap.size w w') : VecQ B bg w' v i Q := by
 obtain ⟨xs, h1, h2⟩ := h
 exact ⟨xs, ownsRow_stay h1 hb, h2.move hb.size fun b hlt hX => ⟨hb.block b hlt, hX⟩⟩
theorem VecQ.own {B bg : Nat} {w : World} {v : Value} {i : Nat} {Q : Nat → QI} (h : VecQ B bg w v i Q) {b : Nat} (hb : v.ownBlock = some b) : B ≤ b ∧ b < w.heap.size := by
 obtain ⟨xs, h1, _⟩ := h
 exact ⟨ownBlock_ge h1 hb, ownBlock_lt h1 hb⟩
end Go.Proofs.YtflgngjocgiojaaGreat
namespace Go.Proofs.YtflgngjocgiojaaGreat
open Go.RowKit

theorem rAt_map {n i : Nat} (f : Nat → List Int) (h : i < n) : rAt ((List.range n).map f) i = f i := by
 unfold rAt
 rw [List.getD_eq_getElem?_getD, List.getElem?_map, List.getElem?_range h]
 rfl
theorem map_next {α : Type} (n : Nat) (f : Nat → α) : (List.range (n + 1)).map f = (List.range n).map f ++ [f n] := by
 rw [List.range_succ, List.map_append]; rfl
theorem len_map {α : Type} (n : Nat) (f : Nat → α) : ((List.range n).map f).length = n := by rw [List.length_map, List.length_range]
theorem cols_map {n : Nat} (f : Nat → List Int) (h : 0 < n) : cols ((List.range n).map f) = (f 0).length := by
 unfold cols
 rw [rAt_map f h]
/-- Column j, its first i elements. -/
def colP (M : List (List Int)) (j i : Nat) : List Int := (List.range i).map fun k => iAt (rAt M k) j
/-- The first j columns, as rows. -/
def turnP (M : List (List Int)) (r j : Nat) : List (List Int) := (List.range j).map fun k => colP M k r
theorem turn_rank {M : List (List Int)} {r m : Nat} (h : MadeM M r m) (h1 : 1 ≤ r) (h2 : r ≤ 8) (h3 : 1 ≤ m) (h4 : m ≤ 8) : matCheck (turnP M r m) = 0 ∧ rankZ (turnP M r m) = rankZ M := by
 have hc := h.cols h1
 have hl := h.len
 have hT : (turnP M r m).length = m := len_map _ _
 have hR : ∀ k, k < m → rAt (turnP M r m) k = colP M k r := fun k hk => rAt_map _ hk
 have hC : cols (turnP M r m) = r := (cols_map _ (by omega)).trans (len_map _ _)
 have hI : ∀ k, k < m → ∀ i, i < r → iAt (rAt (turnP M r m) k) i = iAt (rAt M i) k := fun k hk i hi => by rw [hR k hk]; exact iAt_map _ hi
 have hk : matCheck (turnP M r m) = 0 := check_of (by omega) (by omega) (fun i hi => by rw [hC, hR i (by omega)]; exact len_map _ _) (fun i hi k hk => by
  rw [hI i (by omega) k (by omega)]
  have h5 := (h.row k (by omega)).2 i
  exact not_large h5.1 h5.2 (by have := capB_le (k := k) (by omega); omega))
 exact ⟨hk, rank_turn (h.check h1 h2 h4) hk (by rw [hT, hc]) (by rw [hC, hl]) fun i hi j hj => hI j (by omega) i (by omega)⟩
/-- The first p elements of b, times t, are added to those of a. -/
def plusR (a b : List Int) (t : Int) (p : Nat) : List Int := (List.range a.length).map fun x => if x < p then iAt a x + t * iAt b x else iAt a x
theorem plusR_len (a b : List Int) (t : Int) (p : Nat) : (plusR a b t p).length = a.length := len_map _ _
theorem plusR_at {a b : List Int} {t : Int} {p x : Nat} (h : x < a.length) : iAt (plusR a b t p) x = if x < p then iAt a x + t * iAt b x else iAt a x := iAt_map _ h
theorem list_ext {a b : List Int} (h : a.length = b.length) (e : ∀ x, x < a.length → iAt a x = iAt b x) : a = b := by
 refine List.ext_getElem h fun x h1 h2 => ?_
 have q := e x h1
 unfold iAt at q
 simpa [List.getD_eq_getElem?_getD, h1, h2] using q
theorem plusR_zero (a b : List Int) (t : Int) : plusR a b t 0 = a := list_ext (plusR_len _ _ _ _) fun x hx => by
 rw [plusR_len] at hx
 rw [plusR_at hx, if_neg (by omega)]
/-- Row j of the matrix behind the step. -/
def plusJ (M : List (List Int)) (i k : Nat) (t : Int) (j : Nat) : List Int := if j = i ∧ i ≠ k then plusR (rAt M j) (rAt M k) t (rAt M j).length else rAt M j
def plusP (M : List (List Int)) (i k : Nat) (t : Int) (r : Nat) : List (List Int) := (List.range r).map (plusJ M i k t)
theorem plus_rank {M : List (List Int)} {r m i k : Nat} {t : Int} (h : MadeM M r m) (h1 : 1 ≤ r) (h2 : r ≤ 8) (h4 : m ≤ 8) (hi : i < r) (hk : k < r) (ht : -3 ≤ t ∧ t ≤ 3) : matCheck (plusP M i k t r) = 0 ∧ rankZ (plusP M i k t r) = rankZ M := by
 have hc := h.cols h1
 have hl := h.len
 have hT : (plusP M i k t r).length = r := len_map _ _
 have hR : ∀ j, j < r → rAt (plusP M i k t r) j = plusJ M i k t j := fun j hj => rAt_map _ hj
 have hL : ∀ j, j < r → (plusJ M i k t j).length = m := fun j hj => by
  unfold plusJ
  split
  ·rw [plusR_len]; exact (h.row j hj).1
  ·exact (h.row j hj).1
 have hC : cols (plusP M i k t r) = m := (cols_map _ (by omega)).trans (hL 0 (by omega))
 have hI : ∀ j, j < r → ∀ x, x < m → iAt (rAt (plusP M i k t r) j) x = if j = i ∧ i ≠ k then iAt (rAt M j) x + t * iAt (rAt M k) x else iAt (rAt M j) x := fun j hj x hx => by
  rw [hR j hj]
  have hm := (h.row j hj).1
  unfold plusJ
  split
  ·rw [plusR_at (by omega), if_pos (by omega)]
  ·rfl
 have hK : matCheck (plusP M i k t r) = 0 := check_of (by omega) (by omega) (fun j hj => by rw [hC, hR j (by omega)]; exact hL j (by omega)) (fun j hj x hx => by
  rw [hI j (by omega) x (by omega)]
  have h5 := (h.row j (by omega)).2 x
  have h6 := (h.row k hk).2 x
  have h7 := capB_le (k := j) (by omega)
  have h8 := capB_le (k := k) (by omega)
  split
  ·have h9 : -1200000000 ≤ t * iAt (rAt M k) x ∧ t * iAt (rAt M k) x ≤ 1200000000 := by
    obtain ⟨t1, t2⟩ := ht
    obtain ⟨a, ha⟩ : ∃ a, iAt (rAt M k) x = a := ⟨_, rfl⟩
    rw [ha] at h6 ⊢
    have : t = -3 ∨ t = -2 ∨ t = -1 ∨ t = 0 ∨ t = 1 ∨ t = 2 ∨ t = 3 := by omega
    rcases this with e | e | e | e | e | e | e <;> subst e <;> omega
   exact not_large (B := 2147483648) (by omega) (by omega) (by omega)
  ·exact not_large h5.1 h5.2 (by omega))
 refine ⟨hK, rank_same (h.check h1 h2 h4) hK (fun q hq => ?_) (fun q hq => ?_)⟩
 ·rw [hT, hC]
  rw [hl, hc] at hq
  by_cases e : i = k
  ·exact hq.congr fun j hj x hx => by rw [hI j hj x hx, if_neg (fun h => h.2 e)]
  ·exact (hq.plus i k t hk).congr fun j hj x hx => by
    rw [hI j hj x hx]
    by_cases e2 : j = i
    ·rw [if_pos ⟨e2, e⟩, if_pos e2]
    ·rw [if_neg (fun h => e2 h.1), if_neg e2]
 ·rw [hT, hC] at hq
  rw [hl, hc]
  by_cases e : i = k
  ·exact hq.congr fun j hj x hx => by rw [hI j hj x hx, if_neg (fun h => h.2 e)]
  ·exact (hq.plus i k (-t) hk).congr fun j hj x hx => by
    by_cases e2 : j = i
    ·rw [if_pos e2, hI j hj x hx, if_pos ⟨e2, e⟩, hI k hk x hx, if_neg (fun h => e h.1.symm), Int.neg_mul]
     omega
    ·rw [if_neg e2, hI j hj x hx, if_neg (fun h => e2 h.1)]
/-- The rows, moved on by i. -/
def moveP (M : List (List Int)) (r i n : Nat) : List (List Int) := (List.range n).map fun j => rAt M ((j + i) % r)
theorem move_rank {M : List (List Int)} {r m i : Nat} (h : MadeM M r m) (h1 : 1 ≤ r) (h2 : r ≤ 8) (h4 : m ≤ 8) (hi : i < r) : matCheck (moveP M r i r) = 0 ∧ rankZ (moveP M r i r) = rankZ M := by
 have hc := h.cols h1
 have hl := h.len
 have hT : (moveP M r i r).length = r := len_map _ _
 have hR : ∀ j, j < r → rAt (moveP M r i r) j = rAt M ((j + i) % r) := fun j hj => rAt_map _ hj
 have hm : ∀ j, (j + i) % r < r := fun j => Nat.mod_lt _ (by omega)
 have hC : cols (moveP M r i r) = m := (cols_map _ (by omega)).trans ((h.row _ (hm 0)).1)
 have hK : matCheck (moveP M r i r) = 0 := check_of (by omega) (by omega) (fun j hj => by rw [hC, hR j (by omega)]; exact (h.row _ (hm j)).1) (fun j hj x _ => by
  rw [hR j (by omega)]
  have h5 := (h.row _ (hm j)).2 x
  exact not_large h5.1 h5.2 (by have := capB_le (k := (j + i) % r) (by have := hm j; omega); omega))
 refine ⟨hK, rank_map (h.check h1 h2 h4) hK (by rw [hC, hc]) (fun j => (j + i) % r) (fun j => (j + (r - i)) % r) (fun j hj => ⟨by rw [hl]; exact hm j, fun x _ => by rw [hR j (by omega)]⟩) (fun j hj => ⟨by rw [hT]; exact Nat.mod_lt _ (by omega), fun x _ => ?_⟩)⟩
 rw [hl] at hj
 rw [hR _ (Nat.mod_lt _ (by omega))]
 have e : ((j + (r - i)) % r + i) % r = j := by
  rw [Nat.mod_add_mod, show j + (r - i) + i = j + r by omega, Nat.add_mod_right, Nat.mod_eq_of_lt hj]
 rw [e]
theorem again_rank {M : List (List Int)} {r m i : Nat} (h : MadeM M r m) (h1 : 1 ≤ r) (h2 : r ≤ 8) (h4 : m ≤ 8) (hi : i < r) : matCheck (M ++ [rAt M i]) = 0 ∧ rankZ (M ++ [rAt M i]) = rankZ M := by
 have hc := h.cols h1
 have hl := h.len
 have hC : cols (M ++ [rAt M i]) = m := (cols_app (by omega)).trans hc
 have hR : ∀ j, j < r + 1 → rAt (M ++ [rAt M i]) j = rAt M (if j < r then j else i) := fun j hj => by
  rcases rAt_at (M := M) (l := rAt M i) (i := j) (by simp; omega) with ⟨e1, e2⟩ | ⟨e1, e2⟩
  ·rw [e2, if_pos (by omega)]
  ·rw [e2, if_neg (by omega)]
 have hs : ∀ j, (if j < r then j else i) < r := fun j => by split <;> omega
 have hK : matCheck (M ++ [rAt M i]) = 0 := check_of (by simp; omega) (by omega) (fun j hj => by rw [hC, hR j (by simpa [hl] using hj)]; exact (h.row _ (hs j)).1) (fun j hj x _ => by
  rw [hR j (by simpa [hl] using hj)]
  have h5 := (h.row _ (hs j)).2 x
  exact not_large h5.1 h5.2 (by have := capB_le (k := if j < r then j else i) (by have := hs j; omega); omega))
 refine ⟨hK, rank_map (h.check h1 h2 h4) hK (by rw [hC, hc]) (fun j => if j < r then j else i) (fun j => j) (fun j hj => ⟨by rw [hl]; exact hs j, fun x _ => by rw [hR j (by simpa [hl] using hj)]⟩) (fun j hj => ⟨by simp; omega, fun x _ => ?_⟩)⟩
 rw [hR j (by omega), if_pos (by omega)]
theorem new_rank {M N : List (List Int)} {r m : Nat} (h : MadeM M r m) (h1 : 1 ≤ r) (h2 : r ≤ 8) (h4 : m ≤ 8) (hN : N.length = 1) (hZ : (rAt N 0).length = m ∧ BdI (capB 0) (rAt N 0)) : matCheck (M ++ N) = 0 ∧ (rankZ (M ++ N) = rankZ M ∨ rankZ (M ++ N) = rankZ M + 1) := by
 obtain ⟨Z, rfl⟩ : ∃ Z, N = [Z] := List.length_eq_one_iff.1 hN
 have hZ' : Z.length = m ∧ BdI (capB 0) Z := hZ
 have hc := h.cols h1
 have hl := h.len
 have hC : cols (M ++ [Z]) = m := (cols_app (by omega)).trans hc
 have hR : ∀ j, j < r + 1 → rAt (M ++ [Z]) j = if j < r then rAt M j else Z := fun j hj => by
  rcases rAt_at (M := M) (l := Z) (i := j) (by simp; omega) with ⟨e1, e2⟩ | ⟨e1, e2⟩
  ·rw [e2, if_pos (by omega)]
  ·rw [e2, if_neg (by omega)]
 have hK : matCheck (M ++ [Z]) = 0 := check_of (by simp; omega) (by omega) (fun j hj => by
  rw [hC, hR j (by simpa [hl] using hj)]
  split
  ·exact (h.row j (by assumption)).1
  ·exact hZ'.1) (fun j hj x _ => by
  rw [hR j (by simpa [hl] using hj)]
  split
  ·have h5 := (h.row j (by assumption)).2 x
   exact not_large h5.1 h5.2 (by have := capB_le (k := j) (by omega); omega)
  ·have h5 := hZ'.2 x
   exact not_large h5.1 h5.2 (by have := capB_le (k := 0) (by omega); omega))
 exact ⟨hK, rank_more (h.check h1 h2 h4) hK (by rw [hC, hc]) (by simp) fun i hi j _ => by rw [hR i (by omega), if_pos (by omega)]⟩
end Go.Proofs.YtflgngjocgiojaaGreat
namespace Go.Proofs.YtflgngjocgiojaaGreat
open Go.RowKit

theorem run_append_full {P : Program} (w : World) (t ty : TypeId) (base : Nat) (e : TypeId) (i : TypeInfo) (z : Value) (size bytes : Nat) (ht : P.underlying t = some (.slice e)) (hi : P.info? e = some i) (hz : i.zero = some z)
  (hsize : i.size = size) (hby : i.bytes = bytes) (hzs : z.cells.size = size) (hsz : 0 < size)
  (v : Value) (n : Nat) (xs : List Value) (hown : w.ownsRow base e size v n xs)
  (ad : Addr) (m c : Nat) (news : List Value) (hl : news.length = m * size) (hnews : ∀ j u, news[j]? = some u → w.cell? (ad.add j) = some u) (h1 : ∀ u ∈ news, u.oneCell' = true)
  (hm : 0 < m) (hn : n + m ≤ 100000) (hb2 : bytes ≤ 10000) (hbase : base ≤ w.heap.size) (hfull : ∀ A q, v = .slice A n q → q < n + m) :
  ∃ cap w', (Builtin.append_ #[t, t] ty #[v, .slice (some ad) m c]).run P w = .ok (.slice (some ⟨w.heap.size, 0, none⟩) (n + m) cap) w' ∧
   w'.ownsRow base e size (.slice (some ⟨w.heap.size, 0, none⟩) (n + m) cap) (n + m) (xs ++ news) ∧ Below w.heap.size w w' ∧ w.heap.size < w'.heap.size := by
 have hmul : (n + m) * bytes ≤ 100000 * 10000 := Nat.mul_le_mul hn hb2
 obtain ⟨g, cap, w', hr, ho, hg, _, hlt⟩ := run_append_lies (P := P) w t ty base e i z size bytes ht hi hz hsize hby hzs hsz v n xs hown ad m c news hl hnews h1 hm (by unfold maxLen; omega) (by omega) hbase _ rfl
 have hB : ∀ (o : Obj), Below w.heap.size w (w.drew.alloc o) := fun o => ((Below.refl w.heap.size w).drew).alloc (Nat.le_refl _) o
 rcases hown.2 with ⟨rfl, rfl⟩ | ⟨g0, cap0, cur, rfl, hbg, hg0, hnc, hcm, hcs, htake⟩
 ·have q := run_append_nil (P := P) w t ty e i z ht hi hz ad m c news (by rw [hl, hsize]) hnews hm (by omega) (by rw [hby]; simp only [Nat.zero_add] at hmul; omega)
  rw [q] at hr
  injection hr with e1 e2
  injection e1 with a1 a2 a3
  injection a1 with a1
  injection a1 with a1
  subst a1
  subst e2
  refine ⟨cap, _, ?_, ho, hB _, hlt⟩
  rw [q, ← a3, ← a2]
 ·have hf := hfull _ _ rfl
  have hcell : ∀ j u, xs[j]? = some u → w.cell? ((⟨g0, 0, none⟩ : Addr).add j) = some u := fun j u hj => by
   have hjl : j < n * size := by rw [← hown.1]; exact (List.getElem?_eq_some_iff.1 hj).1
   have h0 : 0 < n := by
    rcases Nat.eq_zero_or_pos n with h | h
    ·subst h; omega
    ·exact h
   have hadd : (⟨g0, 0, none⟩ : Addr).add j = ⟨g0, j, none⟩ := by unfold Addr.add; split <;> simp_all
   rw [hadd, (ownsRow_cell hown h0).2.2.2.2 j hjl, hj]
  have hns : Builtin.nextslicecap (n + m) cap0 * i.bytes ≤ 281474976710656 := by
   have hk : Builtin.nextslicecap (n + m) cap0 ≤ 4 * (n + m) + 64 := Nat.le_trans (nextslicecap_le hf) (by omega)
   rw [hby]
   have : Builtin.nextslicecap (n + m) cap0 * bytes ≤ (4 * (n + m) + 64) * 10000 := Nat.mul_le_mul hk hb2
   omega
  have q := run_append_grow (P := P) w t ty e i z ht hi hz ⟨g0, 0, none⟩ n cap0 xs (by rw [hown.1, hsize]) hcell ad m c news (by rw [hl, hsize]) hnews hf (by omega) hns
  rw [q] at hr
  injection hr with e1 e2
  injection e1 with a1 a2 a3
  injection a1 with a1
  injection a1 with a1
  subst a1
  subst e2
  refine ⟨cap, _, ?_, ho, hB _, hlt⟩
  rw [q, ← a3]
/-- A maker: an append to a slice without room. -/
def appB (T : List Nat) (base n : Nat) (e : TypeId) (xs : List Value) : EBS T where
 val p := .slice (some ⟨p.1, 0, none⟩) n p.2
 R p u := p.1 ∉ T ∧ u.ownsRow base e 1 (.slice (some ⟨p.1, 0, none⟩) n p.2) n xs
 st _ _ _ h k := ⟨h.1, ownsRow_blk h.2 fun b hb hlt => k.block b hlt (by cases hb; exact h.1)⟩
theorem appB_val {T : List Nat} {base n : Nat} {e : TypeId} {xs : List Value} {p : Nat × Nat} : (appB T base n e xs).val p = .slice (some ⟨p.1, 0, none⟩) n p.2 := rfl
theorem make_app {P : Program} {T : List Nat} {o : Oper} {A : Act} {u : World} (s x : Operand) (t e : TypeId) (i : TypeInfo) (z : Value) (bytes base : Nat)
  (ho : o.op = .call { callee := .builtin .append, args := #[s, x], argTypes := #[t, t] })
  (ht : P.underlying t = some (.slice e)) (hi : P.info? e = some i) (hz : i.zero = some z) (hsize : i.size = 1) (hby : i.bytes = bytes) (hzs : z.cells.size = 1)
  (v : Value) (n : Nat) (xs : List Value) (hs : A.eval s = v) (hown : u.ownsRow base e 1 v n xs)
  (ad : Addr) (m c : Nat) (news : List Value) (hx : A.eval x = .slice (some ad) m c) (hl : news.length = m) (hnews : ∀ j y, news[j]? = some y → u.cell? (ad.add j) = some y) (h1 : ∀ y ∈ news, y.oneCell' = true)
  (hm : 0 < m) (hn : n + m ≤ 100000) (hb2 : bytes ≤ 10000) (hbase : base ≤ u.heap.size) (hfull : ∀ A q, v = .slice A n q → q < n + m) (hT : u.heap.size ∉ T) :
  lateOp P o A u (fun v' u' => ∃ p : Nat × Nat, v' = (appB T base (n + m) e (xs ++ news)).val p ∧ u.heap.size ≤ p.1 ∧ p.1 < u'.heap.size ∧ Below u.heap.size u u' ∧ (appB T base (n + m) e (xs ++ news)).R p u') := by
 obtain ⟨cap, w', hr, h2, h3, h4⟩ := run_append_full (P := P) u t o.type base e i z 1 bytes ht hi hz hsize hby hzs (by omega) v n xs hown ad m c news (by omega) hnews h1 hm hn hb2 hbase hfull
 unfold lateOp execOp
 simp only [ho, resolve, invoke, builtin, Sem.run_bind, Sem.run_pure, Result.andThen_ok, List.map_toArray, List.map_cons, List.map_nil, hs, hx, hr, lateUpon]
 exact ⟨(u.heap.size, cap), rfl, Nat.le_refl _, h4, h3, hT, h2⟩
/-- An append to a slice that has room. -/
theorem late_fits {P : Program} {o : Oper} {A : Act} {u : World} {K : Value → World → Prop} (s x : Operand) (t e : TypeId) (i : TypeInfo) (base : Nat)
  (ho : o.op = .call { callee := .builtin .append, args := #[s, x], argTypes := #[t, t] })
  (ht : P.underlying t = some (.slice e)) (hi : P.info? e = some i) (hsize : i.size = 1)
  (g n cap : Nat) (xs : List Value) (hs : A.eval s = .slice (some ⟨g, 0, none⟩) n cap) (hown : u.ownsRow base e 1 (.slice (some ⟨g, 0, none⟩) n cap) n xs)
  (ad : Addr) (m c : Nat) (news : List Value) (hx : A.eval x = .slice (some ad) m c) (hl : news.length = m) (hnews : ∀ j y, news[j]? = some y → u.cell? (ad.add j) = some y) (h1 : ∀ y ∈ news, y.oneCell' = true)
  (hroom : n + m ≤ cap) (h : ∀ u', u'.ownsRow base e 1 (.slice (some ⟨g, 0, none⟩) (n + m) cap) (n + m) (xs ++ news) → u.grownBy u' (some g) → K (.slice (some ⟨g, 0, none⟩) (n + m) cap) u') : lateOp P o A u K := by
 obtain ⟨w', hr, h2, h3⟩ := run_append_fits (P := P) u base t o.type e i 1 ht hi hsize g n cap xs hown ad m c news (by omega) hnews h1 hroom
 unfold lateOp execOp
 simp only [ho, resolve, invoke, builtin, Sem.run_bind, Sem.run_pure, Result.andThen_ok, List.map_toArray, List.map_cons, List.map_nil, hs, hx, hr, lateUpon]
 exact h w' h2 h3
theorem upd_grown {T : List Nat} {u u' : World} {v : Option Nat} (h : u.grownBy u' v) (hT : ∀ b, v = some b → b ∈ T) : Upd T u u' :=
 ⟨h.os, h.tape, h.output, h.size, fun b hlt hb => h.block b hlt fun e => hb (hT b e.symm)⟩
end Go.Proofs.YtflgngjocgiojaaGreat
