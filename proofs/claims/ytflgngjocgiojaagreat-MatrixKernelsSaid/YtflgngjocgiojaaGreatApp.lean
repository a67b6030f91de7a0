/- An append in the chain of a region that draws its order. The element's type, the row and the new elements are given. -/
import Derived.Test.YtflgngjocgiojaaGreatMade5
import Derived.Test.YtflgngjocgiojaaGreatSan5
import Derived.Test.YtflgngjocgiojaaGreatRowI
import Derived.Test.YtflgngjocgiojaaGreatRows
import Derived.WalkKit
import Derived.ProofKit
import Derived.OpenShut
import Derived.ShutString
import Derived.ChangeOld
import Derived.Below
import Derived.Test.YtflgngjocgiojaaGreatStep
import Derived.Deep.AppendLies
namespace Go.Proofs.YtflgngjocgiojaaGreat
open Go.RowKit

/-- What the laws' matrices are like. -/
structure MadeM (M : List (List Int)) (r m : Nat) : Prop where
 len : M.length = r
 row : ∀ i, i < r → (rAt M i).length = m ∧ BdI (capB i) (rAt M i)
theorem MadeM.cols {M : List (List Int)} {r m : Nat} (h : MadeM M r m) (hr : 1 ≤ r) : cols M = m := by
 have h1 := (h.row 0 (by omega)).1
 have h2 := h.len
 cases M with
 | nil => simp at h2; omega
 | cons a b => exact h1
set_option maxRecDepth 100000 in
set_option maxHeartbeats 2000000 in
theorem law05_made (A : Option Addr) (n cap : Nat) (l : List Int) (x y : Int) (r m : Nat) (hx : 0 ≤ x) (hx2 : x ≤ 255) (hy : 0 ≤ y) (hy2 : y ≤ 255) (hr : 1 + x % 8 = r) (hm : 1 + y % 8 = m) (w : World) (hl : SliceI w A n l) :
  Calls Tryz.prog 10 #[.agg #[.slice A n cap, .int .u8 x, .int .u8 y]] w fun e w' => (∃ g c M, e = .returned (.slice (some ⟨g, 0, none⟩) r c) ∧ r ≤ c ∧ c ≤ 9223372036854775807 ∧ RowsAt w' (some ⟨g, 0, none⟩) r M ∧ MadeM M r m ∧ w.heap.size ≤ g ∧ OwnRows (w.heap.size + 2) w' (.slice (some ⟨g, 0, none⟩) r c) M) ∧ Below w.heap.size w w' := by
 have hW := (Below.refl w.heap.size w).alloc (Nat.le_refl _) (.cells #[.slice A n cap, .int .u8 x, .int .u8 y] 24)
 have HL := Lib.hid (hl.below hW)
 obtain ⟨qx, hqx⟩ : ∃ q, x % 8 = q := ⟨_, rfl⟩
 obtain ⟨qy, hqy⟩ : ∃ q, y % 8 = q := ⟨_, rfl⟩
 have e1 : x.tmod 8 = qx := by rw [Int.tmod_eq_emod_of_nonneg hx, hqx]
 have e2 : y.tmod 8 = qy := by rw [Int.tmod_eq_emod_of_nonneg hy, hqy]
 rw [hqx] at hr
 rw [hqy] at hm
 have b1 : 0 ≤ qx ∧ qx < 8 := by omega
 have b2 : 0 ≤ qy ∧ qy < 8 := by omega
 have w1 : IntKind.i64.wrap x = x := by rw [IntKind.wrap_i64]; omega
 have w2 : IntKind.i64.wrap y = y := by rw [IntKind.wrap_i64]; omega
 have HB : Hid (1 ≤ r ∧ r ≤ 8 ∧ 1 ≤ m ∧ m ≤ 8) := Lib.hid (by omega)
 clear hl
 go_enter Tryz.func10, Tryz.ntmps10
 go_wp2_with fail
 refine Calls.mono (ref5_Made A n cap l r m HB.out.1 HB.out.2.1 HB.out.2.2.1 HB.out.2.2.2 _ HL.out) ?_
 rintro e w2 ⟨⟨g, c, M, rfl, g1, g2, g3, g4, g5, g6⟩, hb⟩
 have hw2 := hW.trans (hb.mono hW.size)
 have HG := Lib.hid (And.intro g3 (And.intro g4 g6))
 simp at g5
 clear g3 g4 g6 hb hW
 go_wp2
 go_ret
 exact ⟨⟨g, c, M, rfl, g1, g2, HG.out.1, ⟨HG.out.1.len, HG.out.2.1⟩, by omega, by have h := HG.out.2.2; simpa using h⟩, hw2⟩
end Go.Proofs.YtflgngjocgiojaaGreat
namespace Go.Proofs.YtflgngjocgiojaaGreat
open Go.RowKit

theorem check_of {M : List (List Int)} (h1 : M.length ≤ 48) (h2 : cols M ≤ 8) (h3 : ∀ i, i < M.length → (rAt M i).length = cols M) (h4 : ∀ i, i < M.length → ∀ k, k < cols M → largeI (iAt (rAt M i) k) = false) : matCheck M = 0 := by
 unfold matCheck
 rw [if_neg (by omega), if_neg, if_neg]
 ·rw [anyF_no]
  ·simp
  ·intro k hk
   refine anyF_no fun j hj => h4 k hk j ?_
   rw [h3 k hk] at hj
   exact hj
 ·rw [anyF_no]
  ·simp
  ·intro k hk
   exact decide_eq_false (by rw [h3 k hk]; simp)
theorem not_large {x B : Int} (h1 : -B ≤ x) (h2 : x ≤ B) (hB : B ≤ 2147483648) : largeI x = false := by
 unfold largeI
 rw [decide_eq_false (by omega), decide_eq_false (by omega)]
 rfl
theorem MadeM.check {M : List (List Int)} {r m : Nat} (h : MadeM M r m) (h1 : 1 ≤ r) (h2 : r ≤ 8) (h3 : m ≤ 8) : matCheck M = 0 := by
 have hc := h.cols h1
 refine check_of (by rw [h.len]; omega) (by omega) (fun i hi => by rw [hc]; exact (h.row i (by rw [← h.len]; exact hi)).1) (fun i hi k _ => ?_)
 have hi' : i < r := by rw [← h.len]; exact hi
 have h5 := (h.row i hi').2 k
 exact not_large h5.1 h5.2 (by have := capB_le (k := i) (by omega); omega)
theorem IntsAt.upd {T : List Nat} {w u : World} {b n : Nat} {l : List Int} (h : IntsAt w (some ⟨b, 0, none⟩) n l) (hT : b ∉ T) (k : Upd T w u) : IntsAt u (some ⟨b, 0, none⟩) n l :=
 ⟨h.len, h.ok, fun h0 => by
  obtain ⟨b', off, e, hlt, hc⟩ := h.row h0
  cases e
  exact ⟨_, _, rfl, Nat.lt_of_lt_of_le hlt k.size, fun i hi => (World.cell?_of_block (w := w) (a := ⟨b, 0 + i, none⟩) (k.block b hlt hT)).trans (hc i hi)⟩⟩
end Go.Proofs.YtflgngjocgiojaaGreat
namespace Go.Proofs.YtflgngjocgiojaaGreat
open Go.RowKit

def inI (z : Int) : Bool := decide (-9223372036854775808 ≤ z) && decide (z ≤ 9223372036854775807)
def intN (z : Int) : Int := if inI z = true then z else 0
set_option maxRecDepth 100000 in
set_option maxHeartbeats 4000000 in
theorem num_Int {w : World} {v : Value} {z : Int} (h : NumAt w v z) : Calls Tryz.prog 31 #[v] w fun r w' => r = .returned (.tuple #[.int .i64 (intN z), .bool (inI z)]) ∧ Below w.heap.size w w' := by
 have hraw := h.raw
 obtain ⟨A1, n1, c1, rfl, hc1, hm1, hl1, d1⟩ := h
 obtain ⟨s1, hs1⟩ : ∃ s, decide (z < 0) = s := ⟨_, rfl⟩
 rw [hs1] at hraw ⊢
 obtain ⟨a, ha⟩ : ∃ a, intN z = a := ⟨_, rfl⟩
 obtain ⟨b, hb⟩ : ∃ a, inI z = a := ⟨_, rfl⟩
 rw [ha, hb]
 obtain ⟨m, hm⟩ : ∃ m, z.natAbs = m := ⟨_, rfl⟩
 have HS := Lib.hid (And.intro hs1 (And.intro ha (And.intro hb hm)))
 have HRW := Lib.hid hraw
 have D1 := Lib.hid d1
 have hlen := d1.len
 have HLEN := Lib.hid hlen
 have hl1i : (n1 : Int) ≤ 64 := by omega
 clear hraw d1 hs1 ha hb hm hlen
 have hW := (Below.refl w.heap.size w).alloc (Nat.le_refl _) (.cells #[.bool s1, .slice A1 n1 c1] 35)
 have o3 : Own (w.alloc (.cells #[.bool s1, .slice A1 n1 c1] 35)) w.heap.size #[.bool s1, .slice A1 n1 c1] := (by repeat' (first | ((refine Own.new ?_); (focus (first | rfl | omega | (simp; done) | (simp; omega)))) | assumption | refine Own.alloc ?_ _ | refine Own.drew ?_ | (refine Own.far ?_ ?_ _; rotate_left; (focus (first | rfl | omega | (simp; done) | (simp; omega))))))
 go_enter Tryz.func31, Tryz.ntmps31
 go_wp2_with fail
 generalize (w.alloc (.cells #[.bool s1, .slice A1 n1 c1] 35)) = W0 at *
 refine Calls.mono (right_ok ⟨HRW.out.1.below hW, HRW.out.2⟩) ?_
 rintro e w1 ⟨rfl, hb⟩
 have hw := hW.trans (hb.mono hW.size)
 have p3 := o3.below hb
 have p3c := p3.cell
 clear hb o3 hW
 by_cases h2 : 2 < n1
 ·have h2i : (2 : Int) < (n1 : Int) := by omega
  have hb0 : b = false := by
   rw [← HS.out.2.2.1]
   have h3 : ¬ z.natAbs < 4294967296 ^ 2 := fun h => by have := digs_len.2 h; have := HLEN.out; omega
   unfold inI
   by_cases h4 : -9223372036854775808 ≤ z
   ·rw [decide_eq_false (show ¬ z ≤ 9223372036854775807 by omega), Bool.and_false]
   ·rw [decide_eq_false h4, Bool.false_and]
  have ha0 : a = 0 := by rw [← HS.out.2.1]; unfold intN; rw [HS.out.2.2.1, hb0]; rfl
  subst hb0 ha0
  go_wp2
  go_ret2
  exact ⟨rfl, hw⟩
 ·have h2i : ¬ (2 : Int) < (n1 : Int) := by omega
  have h3 : m < 18446744073709551616 := by
   have h3 : z.natAbs < 4294967296 ^ 2 := digs_len.1 (by have := HLEN.out; omega)
   have := HS.out.2.2.2
   omega
  have qw := mag_word c1 (D1.out.below hw) (by omega) hc1 hm1
  rw [digs_val, HS.out.2.2.2] at qw
  have QW := Lib.hid qw
  clear qw
  go_wp2_with fail
  refine Calls.mono QW.out ?_
  rintro e w2 ⟨rfl, hb⟩
  have hw2 := hw.trans (hb.mono hw.size)
  have p4 := p3.below hb
  have p4c := p4.cell
  clear hb hw p3 p3c QW
  cases s1
  ·have hz : z = (m : Int) := by have := of_decide_eq_false HS.out.1; have := HS.out.2.2.2; omega
   have HZ := Lib.hid hz
   by_cases h4 : m < 9223372036854775808
   ·have h4i : (m : Int) < 9223372036854775808 := by omega
    have hcv : IntKind.i64.wrap (m : Int) = (m : Int) := by rw [IntKind.wrap_i64]; omega
    have hb0 : b = true := by
     rw [← HS.out.2.2.1]
     unfold inI
     rw [decide_eq_true (by omega), decide_eq_true (by omega)]; rfl
    have ha0 : a = (m : Int) := by rw [← HS.out.2.1]; unfold intN; rw [HS.out.2.2.1, hb0, hz]; rfl
    subst hb0 ha0
    clear hz
    go_wp2
    go_ret2
    exact ⟨rfl, hw2⟩
   ·have h4d : decide ((m : Int) < 9223372036854775808) = false := decide_eq_false (by omega)
    have hb0 : b = false := by
     rw [← HS.out.2.2.1]
     unfold inI
     rw [decide_eq_false (show ¬ z ≤ 9223372036854775807 by omega), Bool.and_false]
    have ha0 : a = 0 := by rw [← HS.out.2.1]; unfold intN; rw [HS.out.2.2.1, hb0]; rfl
    subst hb0 ha0
    clear hz h4 h3 HZ
    go_wp2
    go_ret2
    exact ⟨rfl, hw2⟩
  ·have hz : z = -(m : Int) ∧ 0 < m := by have := of_decide_eq_true HS.out.1; have := HS.out.2.2.2; omega
   have HZ := Lib.hid hz
   by_cases h4 : m ≤ 9223372036854775808
   ·have h4i : (m : Int) ≤ 9223372036854775808 := by omega
    obtain ⟨x, hx⟩ : ∃ x, 18446744073709551616 - m = x := ⟨_, rfl⟩
    have hcu : IntKind.u64.wrap (-(m : Int)) = (x : Int) := by rw [IntKind.wrap_u64]; omega
    have hcv : IntKind.i64.wrap (x : Int) = a := by
     rw [← HS.out.2.1]
     unfold intN inI
     rw [decide_eq_true (show -9223372036854775808 ≤ z by omega), decide_eq_true (show z ≤ 9223372036854775807 by omega), IntKind.wrap_i64]
     simp only [Bool.and_self, if_true]
     omega
    have hb0 : b = true := by
     rw [← HS.out.2.2.1]
     unfold inI
     rw [decide_eq_true (by omega), decide_eq_true (by omega)]; rfl
    subst hb0
    clear hz hx
    go_wp2
    go_ret2
    exact ⟨rfl, hw2⟩
   ·have h4d : decide ((m : Int) ≤ 9223372036854775808) = false := decide_eq_false (by omega)
    have hb0 : b = false := by
     rw [← HS.out.2.2.1]
     unfold inI
     rw [decide_eq_false (show ¬ -9223372036854775808 ≤ z by omega), Bool.false_and]
    have ha0 : a = 0 := by rw [← HS.out.2.1]; unfold intN; rw [HS.out.2.2.1, hb0]; rfl
    subst hb0 ha0
    clear hz h4 h3 HZ
    go_wp2
    go_ret2
    exact ⟨rfl, hw2⟩
end Go.Proofs.YtflgngjocgiojaaGreat
namespace Go.Proofs.YtflgngjocgiojaaGreat
open Go.RowKit

theorem OwnRows.below {base : Nat} {w w' : World} {v : Value} {M : List (List Int)} (h : OwnRows base w v M) (hb : Below w.heap.size w w') : OwnRows base w' v M := by
 obtain ⟨xs, h1, h2⟩ := h
 exact ⟨xs, ownsRow_stay h1 hb, h2.below hb⟩
theorem OwnRows.rows {base : Nat} {w : World} {v : Value} {M : List (List Int)} (h : OwnRows base w v M) (h0 : 0 < M.length) : ∃ g c, v = .slice (some ⟨g, 0, none⟩) M.length c ∧ M.length ≤ c ∧ c ≤ 9223372036854775807 ∧ RowsAt w (some ⟨g, 0, none⟩) M.length M ∧ base ≤ g ∧ g < w.heap.size := by
 obtain ⟨xs, h1, h2⟩ := h
 obtain ⟨A2, c2, rfl, g1, g2, g3, g4⟩ := rows_of_row h1 h2 rfl
 obtain ⟨g, rfl, h3, h4⟩ := g4 h0
 exact ⟨g, c2, rfl, g1, g2, g3, h3, h4⟩
theorem row_first {w : World} {b n : Nat} {M : List (List Int)} (h : RowsAt w (some ⟨b, 0, none⟩) n M) {i : Nat} (hi : i < n) : b < w.heap.size ∧ ∃ B m c, w.cell? ⟨b, i, none⟩ = some (.slice B m c) ∧ m ≤ c ∧ c ≤ 9223372036854775807 ∧ IntsAt w B m (rAt M i) := by
 obtain ⟨b', off, e, hlt, hc⟩ := h.row (by omega)
 cases e
 have := hc i hi
 rw [Nat.zero_add] at this
 exact ⟨hlt, this⟩
theorem iAt_take {l : List Int} {k i : Nat} (h : i < k) : iAt (l.take k) i = iAt l i := by
 unfold iAt
 simp only [List.getD_eq_getElem?_getD]
 rw [List.getElem?_take_of_lt h]
/-- What the law's matrices are like after some steps. -/
structure StepM (M : List (List Int)) (r m k rk : Nat) : Prop where
 len : M.length = r + k
 cols : cols M = m
 chk : matCheck M = 0
 rank : rankZ M = rk + k
theorem cols_app {M : List (List Int)} {l : List Int} (h : 0 < M.length) : cols (M ++ [l]) = cols M := by
 cases M with
 | nil => simp at h
 | cons a b => rfl
theorem StepM.next {M : List (List Int)} {Z : List Int} {r m k rk f : Nat} (h : StepM M r m k rk) (hr : 1 ≤ r) (hrk : r + k ≤ 40) (hz : KerZ M Z f) (hs : ∀ i, i < m → -2147483648 ≤ iAt Z i ∧ iAt Z i ≤ 2147483648) : StepM (M ++ [Z]) r m (k + 1) rk := by
 have h0 : 0 < M.length := by have := h.len; omega
 have hc := cols_app (l := Z) h0
 obtain ⟨o1, o2, o3, o4⟩ := matCheck_ok h.chk
 have ha : ∀ i, i < M.length → rAt (M ++ [Z]) i = rAt M i := fun i hi => by
  rcases rAt_at (M := M) (l := Z) (i := i) (by simp; omega) with ⟨_, e⟩ | ⟨e, _⟩
  ·exact e
  ·omega
 have hl : rAt (M ++ [Z]) M.length = Z := by
  rcases rAt_at (M := M) (l := Z) (i := M.length) (by simp) with ⟨e, _⟩ | ⟨_, e⟩
  ·omega
  ·exact e
 have hchk : matCheck (M ++ [Z]) = 0 := check_of (by rw [List.length_append, h.len]; simp; omega) (by rw [hc]; exact o2) (fun i hi => by
  rw [hc]
  by_cases e : i < M.length
  ·rw [ha i e]; exact o3 i e
  ·have : i = M.length := by simp at hi; omega
   rw [this, hl]; exact hz.len) (fun i hi j hj => by
  rw [hc] at hj
  by_cases e : i < M.length
  ·rw [ha i e]; exact o4 i e j hj
  ·have : i = M.length := by simp at hi; omega
   rw [this, hl]
   have := hs j (by rw [← h.cols]; exact hj)
   exact not_large (B := 2147483648) (by omega) (by omega) (by omega))
 refine ⟨by rw [List.length_append, h.len]; simp; omega, by rw [hc, h.cols], hchk, ?_⟩
 have hp := rank_perp h.chk hchk hc (by simp) (fun i hi j _ => by rw [ha i hi]) (f := f) hz.lt (by rw [hl]; have := hz.pos; omega) (fun y hy => by rw [hl]; exact hz.rows y hy)
 rw [hp, h.rank]
 omega
set_option maxRecDepth 100000 in
set_option maxHeartbeats 8000000 in
theorem law05_Completes_walk {A : Option Addr} {n cap : Nat} {l : List Int} {x y : Int} (hx : 0 ≤ x) (hx2 : x ≤ 255) (hy : 0 ≤ y) (_hy2 : y ≤ 255) (w : World) (hl : SliceI w A n l) :
  Calls Tryz.prog 8 #[.agg #[.slice A n cap, .int .u8 x, .int .u8 y]] w fun e w' => e = .returned (.bool true) ∧ Below w.heap.size w w' := by
 obtain ⟨i0, hi, hz0, hz1, hz2⟩ := info_parts infoI
 obtain ⟨i1, hi1, hy0, hy1, hy2'⟩ := info_parts infoIs
 have HLI := Lib.hid hl
 obtain ⟨q, hq⟩ : ∃ q, y % 4 = q := ⟨_, rfl⟩
 have hq1 : y.tmod 4 = q := by rw [Int.tmod_eq_emod_of_nonneg hy, hq]
 have hqb : 0 ≤ q ∧ q < 4 := by omega
 obtain ⟨r, hr⟩ : ∃ r : Nat, 1 + x % 8 = r := ⟨(1 + x % 8).toNat, by omega⟩
 obtain ⟨m, hm⟩ : ∃ m : Nat, 1 + q % 8 = m := ⟨(1 + q % 8).toNat, by omega⟩
 have hr1 : 1 ≤ r := by omega
 have hr8 : r ≤ 8 := by omega
 have hm1 : 1 ≤ m := by omega
 have hm4 : m ≤ 4 := by omega
 have hri : (r : Int) ≤ 8 := by omega
 have hmi : (m : Int) ≤ 4 := by omega
 have hri1 : (1 : Int) ≤ (r : Int) := by omega
 have HRR := Lib.hid (And.intro hr (And.intro hm (And.intro hx (And.intro hx2 hqb))))
 clear hl hr hm hq
 have hW := (Below.refl w.heap.size w).alloc (Nat.le_refl _) (.cells #[.slice A n cap, .int .u8 x, .int .u8 y] 24)
 have oC : Own (w.alloc (.cells #[.slice A n cap, .int .u8 x, .int .u8 y] 24)) w.heap.size #[.slice A n cap, .int .u8 x, .int .u8 y] := (by repeat' (first | ((refine Own.new ?_); (focus (first | rfl | omega | (simp; done) | (simp; omega)))) | assumption | refine Own.alloc ?_ _ | refine Own.drew ?_ | (refine Own.far ?_ ?_ _; rotate_left; (focus (first | rfl | omega | (simp; done) | (simp; omega))))))
 go_enter Tryz.func8, Tryz.ntmps8
 go_wp2_with fail
 generalize (w.alloc (.cells #[.slice A n cap, .int .u8 x, .int .u8 y] 24)) = W0 at *
 refine Calls.mono (law05_sanity _) ?_
 rintro e w1 ⟨rfl, hb⟩
 have hw := hW.trans (hb.mono hW.size)
 have pC := oC.below hb
 have pCc := pC.cell
 have pCf := pC.thaw
 have pCz := pC.lt
 clear hb hW oC
 go_wp2_with fail
 have qC : Own (w1.setCell ⟨w.heap.size, 2, none⟩ (.int .u8 q)) w.heap.size #[.slice A n cap, .int .u8 x, .int .u8 q] := (pC.set 2 (.int .u8 q)).eq rfl
 have hw2 := hw.setCell (p := ⟨w.heap.size, 2, none⟩) (Nat.le_refl _) (.int .u8 q)
 clear pC pCc pCf pCz hw
 generalize (w1.setCell ⟨w.heap.size, 2, none⟩ (.int .u8 q)) = w2 at *
 refine Calls.mono (law05_made A n cap l x q r m HRR.out.2.2.1 HRR.out.2.2.2.1 HRR.out.2.2.2.2.1 (by have := HRR.out.2.2.2.2.2; omega) HRR.out.1 HRR.out.2.1 _ (HLI.out.below hw2)) ?_
 rintro e w3 ⟨⟨g, gc, M0, rfl, hgc, hgm, hRM, hMM, _, hOR⟩, hb⟩
 have hw := hw2.trans (hb.mono hw2.size)
 obtain ⟨B0, hB0⟩ : ∃ b, w2.heap.size + 2 = b := ⟨_, rfl⟩
 rw [hB0] at hOR
 have hB0w : w.heap.size ≤ B0 := by have := hw2.size; omega
 have hB0z : B0 ≤ w3.heap.size := by
  obtain ⟨g', c', e', _, _, _, h5, h6⟩ := hOR.rows (by rw [hMM.len]; omega)
  omega
 have hsm : StepM M0 r m 0 (rankZ M0) := ⟨hMM.len, hMM.cols hr1, hMM.check hr1 hr8 (by omega), rfl⟩
 obtain ⟨rk, hrk⟩ : ∃ q, rankZ M0 = q := ⟨_, rfl⟩
 rw [hrk] at hsm
 obtain ⟨hgz, B1, m1, c1, hc0, _, _, hI0⟩ := row_first hRM (i := 0) (by omega)
 have hm1e : m1 = m := by rw [← hI0.len]; exact (hMM.row 0 (by omega)).1
 have hm1e := hm1e.symm
 subst hm1e
 have q0 := matrix_Rank gc hRM (fun h => rank_fine h)
 rw [hsm.chk, hrk] at q0
 have Q0 := Lib.hid q0
 have HSM := Lib.hid hsm
 have HOR := Lib.hid hOR
 clear hb hw2 qC hRM hMM hOR HLI HRR hx hx2 hy _hy2 hqb hq1 hsm hrk q0 hI0 hB0
 go_wp2_with fail
 refine Calls.mono Q0.out ?_
 rintro e w4 ⟨rfl, hb⟩
 have hw4 := hw.trans (hb.mono hw.size)
 have HOR4 := Lib.hid (HOR.out.below hb)
 have hz4 : B0 ≤ w4.heap.size := Nat.le_trans hB0z hb.size
 have hlM := HSM.out.len
 have HML := Lib.hid (show Value.slice (some ⟨g, 0, none⟩) r gc = .slice (some ⟨g, 0, none⟩) r gc from rfl)
 clear hb hw Q0 HOR hc0 hgz hB0z hlM HML
 go_wp2
 go_loopw [4, 6, 8] (fun v rv i wr => ∃ (k : Nat) (M : List (List Int)), i = .int .i64 k ∧ rv = .int .i64 ((rk + k : Nat) : Int) ∧ StepM M r m k rk ∧ Below w.heap.size w wr ∧ B0 ≤ wr.heap.size ∧ OwnRows B0 wr v M) (fun _ _ i _ => m + 1 - (intOf i).toNat)
 case atStart => exact ⟨0, M0, rfl, rfl, HSM.out, hw4, hz4, HOR4.out⟩
 case round =>
  clear hw4 hz4 HOR4 HSM
  obtain ⟨k, M, rfl, rfl, hsm, hw, hzB, hor⟩ := hrel
  have hkm : rk + k ≤ m := by
   have h1 := (rankZ_le hsm.chk).1
   rw [hsm.rank, hsm.cols] at h1
   exact h1
  have hkmi : (k : Int) ≤ (m : Int) := by omega
  have hlM := hsm.len
  obtain ⟨g2, c2, rfl, hc2, hc2m, hRA, hg2, hg2z⟩ := hor.rows (by omega)
  rw [hlM]
  obtain ⟨xk, hxk, hker⟩ := kern_all hsm.chk
  have q1 := matrix_Kernel c2 hRA hxk
  rw [hsm.chk, hsm.cols, hlM] at q1
  rw [hsm.cols] at hker
  obtain ⟨Z, hZ⟩ : ∃ Z, wholeZ (kernQ xk (kernF M)) m m = Z := ⟨_, rfl⟩
  rw [hZ] at q1 hker
  have Q1 := Lib.hid q1
  have hfr := rank_kern hsm.chk
  rw [hsm.cols, hsm.rank] at hfr
  have HSM := Lib.hid hsm
  have HOR := Lib.hid hor
  have HKER := Lib.hid (And.intro hker hfr)
  have hzw := hw.size
  obtain ⟨tl, htl⟩ : ∃ t, r + k = t := ⟨_, rfl⟩
  rw [htl] at Q1 ⊢
  have HTL := Lib.hid htl
  have hkk : rk + k ≤ 4 := by omega
  have hk4 : k ≤ 4 := by omega
  have HLM := Lib.hid hlM
  obtain ⟨rr, hrr⟩ : ∃ t, rk + k = t := ⟨_, rfl⟩
  rw [hrr] at HKER ⊢
  have HRR := Lib.hid hrr
  have hrri : (rr : Int) ≤ (m : Int) := by omega
  have htl12 : tl ≤ 12 := by omega
  have hk4i : (k : Int) ≤ 4 := by omega
  clear q1 hxk hker hfr hsm hor hZ htl hlM hrr hkm hkk hRA
  go_wp2_with fail
  refine Calls.mono Q1.out ?_
  rintro e w5 ⟨⟨v, rfl, hv⟩, hb⟩
  have hw5 := hw.trans (hb.mono hw.size)
  have HOR5 := Lib.hid (HOR.out.below hb)
  have hzB5 : B0 ≤ w5.heap.size := Nat.le_trans hzB hb.size
  have hg25 : g2 < w5.heap.size := Nat.lt_of_lt_of_le hg2z hb.size
  by_cases hf : kernF M < m
  ·obtain ⟨A3, c3, rfl, -, hZc, hZcm, hx⟩ : RowV (fun _ => True) v Z w5 := by
    rcases hv with ⟨h, _⟩ | ⟨_, _, h⟩
    ·exact absurd ⟨trivial, hf⟩ h
    ·exact h
   have hkz := HKER.out.1 hf
   have hZl : Z.length = m := by rw [hkz.len, HSM.out.cols]
   rw [hZl] at hx hZc ⊢
   have HX := Lib.hid hx
   have HKZ := Lib.hid (And.intro hkz hZl)
   clear hx hkz hZl hv hb hw HOR hf Q1 hzB
   have hm0i : ¬ (m : Int) = 0 := by omega
   have hm0b : ((m : Int) == 0) = false := by simp; omega
   go_wp2
   have hwi := Below.refl w5.heap.size w5
   go_loopw [11, 59] (fun u i wr => ∃ j : Nat, j ≤ m ∧ i = .int .i64 j ∧ Below w5.heap.size w5 wr ∧ wr.ownsRow w5.heap.size 3 1 u j (encI (Z.take j)) ∧ ∀ t, t < j → -2147483648 ≤ iAt Z t ∧ iAt Z t ≤ 2147483648) (fun _ i _ => m - (intOf i).toNat)
   case atStart => exact ⟨0, by omega, rfl, hwi, ⟨rfl, .inl ⟨rfl, rfl⟩⟩, fun t ht => absurd ht (Nat.not_lt_zero t)⟩
   case round =>
    clear hwi
    obtain ⟨j, hj, rfl, hwi, hrow, hbd⟩ := hrel
    have HO := Lib.hid hrow
    have HBD := Lib.hid hbd
    have hzi := hwi.size
    clear hrow hbd
    by_cases hjm : j < m
    ·have hjmi : (j : Int) < (m : Int) := by omega
     obtain ⟨b, off, hA, _⟩ := HX.out.row (by omega)
     subst hA
     obtain ⟨hbz, s1, E1, m1, d1, x1, x2, hr1'⟩ := (HX.out.below hwi).at_ hjm
     have ez : zAt Z j = iAt Z j := rfl
     rw [ez] at hr1'
     obtain ⟨z, hz⟩ : ∃ z, iAt Z j = z := ⟨_, rfl⟩
     rw [hz] at hr1'
     have hal := (Below.refl wr.heap.size wr).alloc (Nat.le_refl _) (.cells #[.bool s1, .slice E1 m1 d1] 35)
     have hwa := hwi.trans (hal.mono hzi)
     have HOa := Lib.hid (ownsRow_stay HO.out hal)
     have HN := Lib.hid (hr1'.below hal)
     have HZ := Lib.hid hz
     clear hr1' hal hz ez
     go_wp2_with fail
     generalize (wr.alloc (.cells #[.bool s1, .slice E1 m1 d1] 35)) = wa at *
     obtain ⟨zi, hzi1⟩ : ∃ t, intN z = t := ⟨_, rfl⟩
     obtain ⟨ib, hib⟩ : ∃ t, inI z = t := ⟨_, rfl⟩
     have q2 := num_Int HN.out
     rw [hzi1, hib] at q2
     have Q2 := Lib.hid q2
     have HZI := Lib.hid (And.intro hzi1 hib)
     clear x1 x2 hbz hwi hzi q2 hzi1 hib HO
     refine Calls.mono Q2.out ?_
     rintro e w6 ⟨rfl, hb⟩
     have hw6 := hwa.trans (hb.mono hwa.size)
     have HO6 := Lib.hid (ownsRow_stay HOa.out hb)
     clear hb hwa HOa Q2
     have hEnd : Below w.heap.size w w6 := hw5.trans (hw6.mono hw5.size)
     cases ib
     ·go_wp2
      go_ret
      exact ⟨rfl, hEnd⟩
     ·have hzz : zi = z := by rw [← HZI.out.1]; unfold intN; rw [HZI.out.2]; rfl
      subst hzz
      by_cases hg : (2147483648 : Int) < zi
      ·go_wp2
       go_ret
       exact ⟨rfl, hEnd⟩
      ·by_cases hs : zi < (-2147483648 : Int)
       ·go_wp2
        go_ret
        exact ⟨rfl, hEnd⟩
       ·have hz6 := hw6.size
        have hzb : -2147483648 ≤ zi ∧ zi ≤ 2147483648 := by omega
        clear hEnd
        go_wp2_with (at_builtin; refine wpList_append_lies _ rfl _ _ _ (by rfl) w5.heap.size 3 i0 (.int .i64 0) 1 8 Tryz.underlying22 hi hz0 hz1 hz2 rfl (by omega) _ j (encI (Z.take j)) (by rfl) (HO6.out.alloc _) ⟨w6.heap.size, 0, none⟩ 1 1 [.int .i64 zi] (by rfl) rfl ?c1 ?c2 (by omega) ?c3 ?c4 ?c5 (w6.heap.size + 1) (by simp) ?_)
        case c1 => exact World.news_of_block (heap_alloc_new w6 _)
        case c2 => intro u hu; simp at hu; subst hu; rfl
        case c3 => unfold maxLen; omega
        case c4 => omega
        case c5 => simp; omega
        intro gg cg w7 ho7 hg7 hat hlt7
        have hob : ∀ b, _ = some b → w5.heap.size ≤ b := fun b hb => ownBlock_ge HO6.out hb
        have hal : Below w6.heap.size w6 (w6.alloc (.cells #[.int .i64 zi] 3)) := (Below.refl _ _).alloc (Nat.le_refl _) _
        have B7 := Lib.hid (Below.grown (hw6.trans (hal.mono hz6)) hg7 (by simp; omega) (fun b hb => hob b hb))
        have htk : Z.take (j + 1) = Z.take j ++ [zi] := by rw [take_iAt (by rw [HKZ.out.2]; exact hjm), HZ.out]
        rw [encI_snoc, ← htk] at ho7
        have HO7 := Lib.hid ho7
        have HBD7 : Hid (∀ t, t < j + 1 → -2147483648 ≤ iAt Z t ∧ iAt Z t ≤ 2147483648) := Lib.hid fun t ht => by
         by_cases e : t = j
         ·subst e; rw [HZ.out]; exact hzb
         ·exact HBD.out t (by omega)
        clear ho7 hg7 hat hob hal hlt7 htk hg hs hzb
        go_wp2
        go_roundw
        case rel => exact ⟨j + 1, by omega, by go_num, B7.out, HO7.out, HBD7.out⟩
        case measure => simp [intOf]; omega
    ·obtain rfl : j = m := by omega
     have htk : Z.take j = Z := List.take_of_length_le (by rw [HKZ.out.2]; exact Nat.le_refl _)
     have hrow := HO.out
     rw [htk] at hrow
     have hI : I64L Z := fun i hi => by
      have := HBD.out i (by rw [← HKZ.out.2]; exact hi)
      omega
     obtain ⟨A4, c4, rfl, h41, h42, h43, h44⟩ := ints_of_row hrow HKZ.out.2 hI
     have hst := HSM.out.next hr1 (by have := HTL.out; omega) HKZ.out.1 (fun i hi => HBD.out i hi)
     have hwr := hw5.trans (hwi.mono hw5.size)
     obtain ⟨xs, ho, hrw⟩ := HOR5.out.below hwi
     have hlM := HLM.out
     rw [HTL.out] at hlM
     rw [hlM] at ho
     have hzr : B0 ≤ wr.heap.size := Nat.le_trans hzB5 hzi
     have HO9 := Lib.hid ho
     have HW9 := Lib.hid hrw
     have HI9 := Lib.hid (And.intro h43 h44)
     have HST := Lib.hid hst
     have HLM2 := Lib.hid hlM
     clear htk hrow hI h43 h44 hst ho hrw hlM HO hwi hw5 HOR5 HX HBD hzi
     go_wp2_with (at_builtin; refine wpList_append_lies _ rfl _ _ _ (by rfl) B0 22 i1 (.slice none 0 0) 1 24 Tryz.underlying25 hi1 hy0 hy1 hy2' rfl (by omega) _ tl xs (by rfl) (HO9.out.alloc _) ⟨wr.heap.size, 0, none⟩ 1 1 [.slice A4 j c4] (by rfl) rfl ?c1 ?c2 (by omega) ?c3 ?c4 ?c5 (wr.heap.size + 1) (by simp) ?_)
     case c1 => exact World.news_of_block (heap_alloc_new wr _)
     case c2 => intro u hu; simp at hu; subst hu; rfl
     case c3 => unfold maxLen; omega
     case c4 => omega
     case c5 => simp; omega
     intro gg cg w7 ho7 hg7 hat hlt7
     have hob : ∀ b, (Value.slice (some ⟨g2, 0, none⟩) tl c2).ownBlock = some b → B0 ≤ b := fun b hb => ownBlock_ge HO9.out hb
     have hal : Below wr.heap.size wr (wr.alloc (.cells #[.slice A4 j c4] 22)) := (Below.refl _ _).alloc (Nat.le_refl _) _
     have hw7 := Below.grown (hwr.trans (hal.mono hwr.size)) hg7 (by simp; have := hwr.size; omega) (fun b hb => by have := hob b hb; omega)
     have hq : RowsW (fun b => B0 ≤ b ∧ some b ≠ some gg) w7 (xs ++ [.slice A4 j c4]) (M ++ [Z]) := by
      have q := RowsW.snoc (X := fun b => B0 ≤ b ∧ b ≠ g2 ∧ b < wr.heap.size) (HW9.out.move (Y := fun b => B0 ≤ b ∧ b ≠ g2 ∧ b < wr.heap.size) (Nat.le_refl _) fun b hlt hX => ⟨rfl, hX.1, fun e => hX.2 (by rw [e]; rfl), hlt⟩) h41 h42 (fun b off e => ⟨(HI9.out.2 b off e).2.2.1, by have := (HI9.out.2 b off e).2.1; omega, by have := (HI9.out.2 b off e).2.1; omega, (HI9.out.2 b off e).2.2.1⟩) HI9.out.1
      refine q.move (by have := hg7.size; simp at this; omega) fun b hlt hX => ⟨(hg7.block b (by simp; omega) (fun e => hX.2.1 (Option.some.inj e))).trans (hal.block b hlt), hX.1, fun e => ?_⟩
      cases e
      rcases hat with h | h
      ·exact hX.2.1 (Option.some.inj h).symm
      ·have := hX.2.2; omega
     have hml : (M ++ [Z]).length = tl + 1 := by rw [List.length_append, HLM2.out]; rfl
     have HO10 : Hid (OwnRows B0 w7 (.slice (some ⟨gg, 0, none⟩) (tl + 1) cg) (M ++ [Z])) := Lib.hid ⟨_, by rw [hml]; exact ho7, hq⟩
     obtain ⟨g3, c3', e3, _, _, hRA, _, _⟩ := HO10.out.rows (by rw [hml]; omega)
     rw [hml] at e3 hRA
     injection e3 with e3 _ e4
     injection e3 with e3
     injection e3 with e3
     subst e3
     subst e4
     have q3 := matrix_Rank cg hRA (fun h => rank_fine h)
     rw [HST.out.chk, HST.out.rank] at q3
     have Q3 := Lib.hid q3
     have hs7 : B0 ≤ w7.heap.size := by have := hg7.size; simp at this; omega
     clear ho7 hg7 hat hob hal hlt7 hq hRA q3 hwr HO9 HW9 HI9
     go_wp2_with fail
     refine Calls.mono Q3.out ?_
     rintro e w8 ⟨rfl, hb⟩
     have hw8 := hw7.trans (hb.mono hw7.size)
     have HO11 := Lib.hid (HO10.out.below hb)
     have hs8 : B0 ≤ w8.heap.size := Nat.le_trans hs7 hb.size
     have e9 : ((rk + (k + 1) : Nat) : Int) = (rr : Int) + 1 := by have := HRR.out; omega
     rw [e9]
     have HE9 := Lib.hid e9
     clear hb hw7 HO10 hs7 Q3 e9
     go_wp2
     go_roundw
     case rel => exact ⟨k + 1, M ++ [Z], by go_num, by rw [HE9.out], HST.out, hw8, hs8, HO11.out⟩
     case measure => simp [intOf]; omega
  ·obtain rfl : v = .slice none 0 0 := by
    rcases hv with ⟨_, h⟩ | ⟨_, h, _⟩
    ·exact h
    ·exact absurd h hf
   obtain rfl : rr = m := by
    have h1 := HKER.out.2
    have : ¬ rr < m := fun h => hf (h1.2 h)
    omega
   clear hv hb hw HOR Q1 hf
   go_wp2
   go_ret
   exact ⟨rfl, hw5⟩
end Go.Proofs.YtflgngjocgiojaaGreat
namespace Go.Proofs.YtflgngjocgiojaaGreat.matrixCompletesDone
open Go.ChangeShapes Go.WideShapes Go.ChangeAt Go.RowKit

set_option maxRecDepth 100000 in
theorem lifted (os : Os) (started : os.Started) (H : Type) (enc : TypeId × Value → H) :
  ReturnsInHanded {} Tryz.checked os 8 .any (Rows.matrixCompletesSpec.pre6 enc Tryz.prog Tryz.f8 Rows.matrixCompletesRow.domain false) (Rows.matrixCompletesSpec.post enc Tryz.prog Tryz.f8 false true false false) := by
 refine returnsInHanded_of_change (C := Tryz.checked) own started (by kernel_rfl) Tryz.func8
  (ChangeSpec.witness6 (enc := enc) (C := Tryz.checked) false ⟨#[], #[.agg #[.slice none 0 0, .int .u8 0, .int .u8 0]], []⟩ 8 (by kernel_rfl) (by kernel_rfl) (by kernel_rfl) (by kernel_rfl)) ?_
 intro W base args ds gs before hval0 hW hcnd _
 have hval : ∀ (j : Nat) t v, Tryz.f8.params[j]? = some t → args[j]? = some v → Value.okWide Tryz.prog W .any base t v := hval0
 have hW' := hW
 obtain ⟨p, q, hA0, hV, rfl, hfz, hnd⟩ := hW
 have hA : DataW.TrodAll enc Tryz.prog W 0 (fun _ => true) true Tryz.f8.params.toList args.toList ds p := hA0
 rw [Tryz.params8] at hA hval
 obtain ⟨v0, vs0, d0, ds0, p0, q0, hargs, rfl, rfl, h0, r0⟩ := trodAll_cons hA
 obtain ⟨rfl, rfl, rfl⟩ := trodAll_nil r0
 obtain rfl : args = #[v0] := by cases args; simp_all
 obtain ⟨rfl, rfl⟩ := trodVars_none hV
 have k0 := h0
 have lt0 : ∀ x ∈ p0, x.block < W.heap.size := by obtain ⟨m, hm⟩ := k0; exact DataW.trod_lt m _ _ _ hm
 obtain ⟨c0, e0, _⟩ := okWide_struct Tryz.underlying24 (hval 0 24 v0 rfl rfl)
 obtain ⟨ca0, cn0, cc0, cz0, cx0, cy0, g0, cs0, cb0, cd0⟩ := open_case e0 h0
 subst g0
 clear hA0 hval0
 refine (law05_Completes_walk cb0.1 cb0.2 cd0.1 cd0.2 W cs0).mono fun e W' ⟨he, bel⟩ => ?_
 subst he
 exact ⟨_, rfl, _, _, _, [], _, [], hW', trodAll_mk1 (shut_bool Tryz.underlying4 _), (trodAll_cons_mk (Below.trod laidOut (by kernel_rfl) (of_decide_eq_true (by kernel_rfl)) k0 bel lt0) trodAll_mk0), rfl, bel.frame _, fun h => by cases h⟩

theorem over : Rows.matrixCompletesRow.holds Tryz.pinned (OpenSpec.ofChange Rows.matrixCompletesSpec) :=
 OpenClaim.holds_of_wide 8 Tryz.f8 rfl rfl rfl rfl rfl rfl rfl ⟨rfl, rfl, rfl, rfl, rfl⟩ rfl rfl rfl rfl rfl (by kernel_rfl) Tryz.func8 (by kernel_rfl)
  (of_decide_eq_true (by kernel_rfl)) (by unfold Func.isWrapper; first | (rw [if_pos (by decide +kernel)]; kernel_rfl) | (rw [if_neg (by decide +kernel)]; exact ⟨rfl, rfl⟩))
  (fun os started H enc _ => lifted os started H enc)

theorem proved : Rows.MatrixCompletesSaid := over
#print axioms proved
end Go.Proofs.YtflgngjocgiojaaGreat.matrixCompletesDone
namespace Go.Proofs.YtflgngjocgiojaaGreat
open Go.RowKit

theorem late_append {P : Program} {w : World} {o : Oper} {a : Act} {K : Value → World → Prop} (s x : Operand) (t : TypeId)
  (ho : o.op = .call { callee := .builtin .append, args := #[s, x], argTypes := #[t, t] })
  (base : Nat) (e : TypeId) (i : TypeInfo) (z : Value) (size bytes : Nat) (ht : P.underlying t = some (.slice e)) (hi : P.info? e = some i) (hz : i.zero = some z)
  (hsize : i.size = size) (hby : i.bytes = bytes) (hzs : z.cells.size = size) (hsz : 0 < size)
  (v : Value) (n : Nat) (xs : List Value) (hs : a.eval s = v) (hown : w.ownsRow base e size v n xs)
  (ad : Addr) (m c : Nat) (news : List Value) (hx : a.eval x = .slice (some ad) m c) (hl : news.length = m * size) (hnews : ∀ j u, news[j]? = some u → w.cell? (ad.add j) = some u) (h1 : ∀ u ∈ news, u.oneCell' = true)
  (hm : 0 < m) (h63 : n + m ≤ maxLen) (hbytes : (n + m) * bytes ≤ 140737488355328) (hbase : base ≤ w.heap.size) (H : Nat) (hH : w.heap.size = H)
  (h : ∀ g cap w', w'.ownsRow base e size (.slice (some ⟨g, 0, none⟩) (n + m) cap) (n + m) (xs ++ news) → w.grownBy w' v.ownBlock → (v.ownBlock = some g ∨ g = H) → g < w'.heap.size → K (.slice (some ⟨g, 0, none⟩) (n + m) cap) w') : lateOp P o a w K := by
 obtain ⟨g, cap, w', hr, h2, h3, h4, h5⟩ := run_append_lies (P := P) w t o.type base e i z size bytes ht hi hz hsize hby hzs hsz v n xs hown ad m c news hl hnews h1 hm h63 hbytes hbase H hH
 unfold lateOp execOp
 simp only [ho, resolve, invoke, builtin, Sem.run_bind, Sem.run_pure, Result.andThen_ok, List.map_toArray, List.map_cons, List.map_nil, hs, hx, hr, lateUpon]
 exact h g cap w' h2 h3 h4 h5
end Go.Proofs.YtflgngjocgiojaaGreat
