/- The law ContactCone returns true. The numbers are uint16, and the slice reads as int64 numbers. -/
import Derived.Test.YthijnggeoinlfaaSan25
import Derived.Test.YthijnggeoinlfaaCtN
import Derived.Test.YthijnggeoinlfaaConeM
import Derived.Test.YthijnggeoinlfaaSink
namespace Go.Proofs.Ythijnggeoinlfaa
open Go.RowKit

theorem getD_mem {α : Type} {L : List α} {k : Nat} {d : α} (h : k < L.length) : L.getD k d ∈ L := by
  have e : L.getD k d = L[k] := by simp [h]
  rw [e]; exact List.getElem_mem h
theorem flatV_at (L : List V3) : ∀ k, k < L.length → (flatV L)[k * 3]? = some (.int .i64 (L.getD k ⟨0, 0, 0⟩).x) ∧ (flatV L)[k * 3 + 1]? = some (.int .i64 (L.getD k ⟨0, 0, 0⟩).y) ∧ (flatV L)[k * 3 + 2]? = some (.int .i64 (L.getD k ⟨0, 0, 0⟩).z) := by
  induction L with
  | nil => intro k hk; simp at hk
  | cons a L ih =>
    intro k hk
    have e : flatV (a :: L) = Value.int .i64 a.x :: .int .i64 a.y :: .int .i64 a.z :: flatV L := rfl
    rw [e]
    cases k with
    | zero => exact ⟨rfl, rfl, rfl⟩
    | succ k =>
      have h1 := ih k (by simpa using hk)
      rw [show (k + 1) * 3 = k * 3 + 1 + 1 + 1 by omega, show k * 3 + 1 + 1 + 1 + 1 = (k * 3 + 1) + 1 + 1 + 1 by omega, show k * 3 + 1 + 1 + 1 + 2 = (k * 3 + 2) + 1 + 1 + 1 by omega]
      simp only [List.getElem?_cons_succ, List.getD_cons_succ]
      exact h1
theorem cone_at {L : List V3} {len k : Nat} {cs : Array Value} (hc : ∀ i, i < len * 3 → cs[i]? = (flatV L)[i]?) (hl : L.length = len) (hk : k < len) :
    cs[k * 3]? = some (.int .i64 (L.getD k ⟨0, 0, 0⟩).x) ∧ cs[k * 3 + 1]? = some (.int .i64 (L.getD k ⟨0, 0, 0⟩).y) ∧ cs[k * 3 + 2]? = some (.int .i64 (L.getD k ⟨0, 0, 0⟩).z) := by
  have h := flatV_at L k (by omega)
  exact ⟨(hc _ (by omega)).trans h.1, (hc _ (by omega)).trans h.2.1, (hc _ (by omega)).trans h.2.2⟩
theorem ownsRow_pos {w : World} {base : Nat} {e : TypeId} {size : Nat} {v : Value} {n : Nat} {xs : List Value} (h : w.ownsRow base e size v n xs) (hn : 0 < n) : ∃ g cap, v = .slice (some ⟨g, 0, none⟩) n cap := by
  rcases h.2 with ⟨_, h0⟩ | ⟨g, cap, cur, rfl, _⟩
  · omega
  · exact ⟨g, cap, rfl⟩

set_option maxRecDepth 100000 in
set_option maxHeartbeats 4000000 in
theorem law25_Cone_walk (A : Option Addr) (n cap : Nat) (l : List Int) (b0 b1 b2 b3 : Int) (w : World) (h0 : 0 ≤ b0 ∧ b0 ≤ 65535) (h1 : 0 ≤ b1 ∧ b1 ≤ 65535) (h2 : 0 ≤ b2 ∧ b2 ≤ 65535) (h3 : 0 ≤ b3 ∧ b3 ≤ 65535) (hl : SliceI w A n l) (hcap : n ≤ cap) (hcap2 : cap ≤ 9223372036854775807) :
    Calls Try.prog 11 #[.slice A n cap, .agg #[.int .u16 b0, .int .u16 b1, .int .u16 b2, .int .u16 b3]] w fun r w' => r = .returned (.bool true) ∧ Below w.heap.size w w' := by
  have HL := Lib.hid hl
  clear hl
  have hn0 : 0 ≤ (n : Int) := by omega
  have hn1 : (n : Int) ≤ (cap : Int) := by omega
  have hn2 : (cap : Int) ≤ 9223372036854775807 := by omega
  have HB : Hid (∀ k, k < 4 → ∃ b, ([b0, b1, b2, b3] : List Int).getD k 0 = b ∧ (#[.int .u16 b0, .int .u16 b1, .int .u16 b2, .int .u16 b3] : Array Value)[k]? = some (.int .u16 b) ∧ 0 ≤ b ∧ b ≤ 65535) := Lib.hid (fun k hk => by
    rcases (show k = 0 ∨ k = 1 ∨ k = 2 ∨ k = 3 by omega) with rfl | rfl | rfl | rfl
    · exact ⟨b0, rfl, rfl, h0⟩
    · exact ⟨b1, rfl, rfl, h1⟩
    · exact ⟨b2, rfl, rfl, h2⟩
    · exact ⟨b3, rfl, rfl, h3⟩)
  go_enter Try.func11, Try.ntmps11
  go_wp2_with fail
  refine Calls.mono (law25_sanity _) ?_
  rintro e w1 ⟨rfl, hbx⟩
  have ob : Own w1 (w.heap.size) #[.int .u16 b0, .int .u16 b1, .int .u16 b2, .int .u16 b3] := Own.below (by repeat' (first | ((refine Own.new ?_); (focus (first | rfl | omega | (simp; done) | (simp; omega)))) | assumption | refine Own.alloc ?_ _ | refine Own.drew ?_ | (refine Own.far ?_ ?_ _; rotate_left; (focus (first | rfl | omega | (simp; done) | (simp; omega)))))) hbx
  have obc := ob.cell
  have obf := ob.thaw
  have obz := ob.lt
  have hw : Below w.heap.size w w1 := Below.hop (by repeat' (first | exact Below.refl _ _ | assumption | (refine Below.alloc ?_ ?_ _; rotate_left; (focus (first | rfl | omega | (simp; done) | (simp; omega)))) | (refine Below.setCell ?_ ?_ _; rotate_left; (focus (first | rfl | omega | (simp; done) | (simp; omega)))) | refine Below.drew ?_)) hbx
  have hz := hw.size
  clear hbx
  go_wp2_with fail
  refine Calls.mono (law25_made A n cap _ _ (HL.out.below hw) (by omega) (by omega)) ?_
  rintro e w2 ⟨⟨⟨c0, c1, c2⟩, ⟨cn0, cn1, cn2⟩, cm, cd⟩, rfl, hok, hbx⟩
  have Hhok := Lib.hid hok
  clear hok
  replace ob : Own w2 (w.heap.size) #[.int .u16 b0, .int .u16 b1, .int .u16 b2, .int .u16 b3] := Own.below (by repeat' (first | ((refine Own.new ?_); (focus (first | rfl | omega | (simp; done) | (simp; omega)))) | assumption | refine Own.alloc ?_ _ | refine Own.drew ?_ | (refine Own.far ?_ ?_ _; rotate_left; (focus (first | rfl | omega | (simp; done) | (simp; omega)))))) hbx
  replace obc := ob.cell
  replace obf := ob.thaw
  replace obz := ob.lt
  replace hw : Below w.heap.size w w2 := Below.hop (by repeat' (first | exact Below.refl _ _ | assumption | (refine Below.alloc ?_ ?_ _; rotate_left; (focus (first | rfl | omega | (simp; done) | (simp; omega)))) | (refine Below.setCell ?_ ?_ _; rotate_left; (focus (first | rfl | omega | (simp; done) | (simp; omega)))) | refine Below.drew ?_)) hbx
  replace hz := hw.size
  clear hbx
  obtain ⟨LL, hLL⟩ : ∃ LL, coneL ⟨⟨c0, c1, c2⟩, ⟨cn0, cn1, cn2⟩, cm, cd⟩ = LL := ⟨_, rfl⟩
  have HLL := Lib.hid hLL
  have hce := cone_elems Hhok.out
  rw [hLL] at hce
  clear hLL
  obtain ⟨len, hlen⟩ : ∃ k, LL.length = k := ⟨_, rfl⟩
  have hl14 : len = 1 ∨ len = 4 := by rw [← hlen]; exact hce.1
  have HCE := Lib.hid hce.2
  have HLN := Lib.hid hlen
  clear hce hlen
  have hl1 : 1 ≤ len := by omega
  have hl4 : len ≤ 4 := by omega
  clear hl14
  go_wp2_with fail
  have hcb : w.heap.size < w2.heap.size := obz
  have qocob : w.heap.size < w2.heap.size := obz
  have w3s : (w2.alloc (.cells #[.int .i64 c0, .int .i64 c1, .int .i64 c2, .int .i64 cn0, .int .i64 cn1, .int .i64 cn2, .int .i64 cm, .int .i64 cd] 66)).heap.size = w2.heap.size + 1 := by simp
  have w3e := Lib.hid w3s
  clear w3s
  have oc : Own ((w2.alloc (.cells #[.int .i64 c0, .int .i64 c1, .int .i64 c2, .int .i64 cn0, .int .i64 cn1, .int .i64 cn2, .int .i64 cm, .int .i64 cd] 66))) (w2.heap.size) #[.int .i64 c0, .int .i64 c1, .int .i64 c2, .int .i64 cn0, .int .i64 cn1, .int .i64 cn2, .int .i64 cm, .int .i64 cd] := Own.new rfl
  replace ob : Own ((w2.alloc (.cells #[.int .i64 c0, .int .i64 c1, .int .i64 c2, .int .i64 cn0, .int .i64 cn1, .int .i64 cn2, .int .i64 cm, .int .i64 cd] 66))) (w.heap.size) #[.int .u16 b0, .int .u16 b1, .int .u16 b2, .int .u16 b3] := (by repeat' (first | ((refine Own.new ?_); (focus (first | rfl | omega | (simp; done) | (simp; omega)))) | assumption | refine Own.alloc ?_ _ | refine Own.drew ?_ | (refine Own.far ?_ ?_ _; rotate_left; (focus (first | rfl | omega | (simp; done) | (simp; omega))))))
  clear obc obf obz
  replace hw : Below w.heap.size w ((w2.alloc (.cells #[.int .i64 c0, .int .i64 c1, .int .i64 c2, .int .i64 cn0, .int .i64 cn1, .int .i64 cn2, .int .i64 cm, .int .i64 cd] 66))) := (by repeat' (first | exact Below.refl _ _ | assumption | (refine Below.alloc ?_ ?_ _; rotate_left; (focus (first | rfl | omega | (simp; done) | (simp; omega)))) | (refine Below.setCell ?_ ?_ _; rotate_left; (focus (first | rfl | omega | (simp; done) | (simp; omega)))) | refine Below.drew ?_))
  generalize (w2.alloc (.cells #[.int .i64 c0, .int .i64 c1, .int .i64 c2, .int .i64 cn0, .int .i64 cn1, .int .i64 cn2, .int .i64 cm, .int .i64 cd] 66)) = w3 at *
  have obc := ob.cell
  have obf := ob.thaw
  have obz := ob.lt
  have occ := oc.cell
  have ocf := oc.thaw
  have ocz := oc.lt
  replace hz := hw.size
  generalize w2.heap.size = cb at *
  have qofob : w.heap.size < cb + 1 := by have := obz; have := w3e.out; omega
  have qofoc : cb < cb + 1 := by have := ocz; have := w3e.out; omega
  have w4s : (w3.alloc (.cells #[.int .i64 0, .int .i64 0, .int .i64 0] 24)).heap.size = cb + 1 + 1 := by rw [World.size_alloc, w3e.out]
  have w4e := Lib.hid w4s
  clear w4s
  have of : Own ((w3.alloc (.cells #[.int .i64 0, .int .i64 0, .int .i64 0] 24))) (cb + 1) #[.int .i64 0, .int .i64 0, .int .i64 0] := Own.new w3e.out.symm
  replace ob : Own ((w3.alloc (.cells #[.int .i64 0, .int .i64 0, .int .i64 0] 24))) (w.heap.size) #[.int .u16 b0, .int .u16 b1, .int .u16 b2, .int .u16 b3] := (by repeat' (first | ((refine Own.new ?_); (focus (first | rfl | omega | (simp; done) | (simp; omega)))) | assumption | refine Own.alloc ?_ _ | refine Own.drew ?_ | (refine Own.far ?_ ?_ _; rotate_left; (focus (first | rfl | omega | (simp; done) | (simp; omega))))))
  clear obc obf obz
  replace oc : Own ((w3.alloc (.cells #[.int .i64 0, .int .i64 0, .int .i64 0] 24))) (cb) #[.int .i64 c0, .int .i64 c1, .int .i64 c2, .int .i64 cn0, .int .i64 cn1, .int .i64 cn2, .int .i64 cm, .int .i64 cd] := (by repeat' (first | ((refine Own.new ?_); (focus (first | rfl | omega | (simp; done) | (simp; omega)))) | assumption | refine Own.alloc ?_ _ | refine Own.drew ?_ | (refine Own.far ?_ ?_ _; rotate_left; (focus (first | rfl | omega | (simp; done) | (simp; omega))))))
  clear occ ocf ocz
  replace hw : Below w.heap.size w ((w3.alloc (.cells #[.int .i64 0, .int .i64 0, .int .i64 0] 24))) := (by repeat' (first | exact Below.refl _ _ | assumption | (refine Below.alloc ?_ ?_ _; rotate_left; (focus (first | rfl | omega | (simp; done) | (simp; omega)))) | (refine Below.setCell ?_ ?_ _; rotate_left; (focus (first | rfl | omega | (simp; done) | (simp; omega)))) | refine Below.drew ?_))
  generalize (w3.alloc (.cells #[.int .i64 0, .int .i64 0, .int .i64 0] 24)) = w4 at *
  have obc := ob.cell
  have obf := ob.thaw
  have obz := ob.lt
  have occ := oc.cell
  have ocf := oc.thaw
  have ocz := oc.lt
  have ofc := of.cell
  have off := of.thaw
  have ofz := of.lt
  replace hz := hw.size
  refine Calls.mono (contact_Cone ⟨⟨c0, c1, c2⟩, ⟨cn0, cn1, cn2⟩, cm, cd⟩ _) ?_
  rintro e w5 ⟨v, rfl, hs, hbx⟩
  rw [HLL.out] at hs
  have hr0 := hs.1
  rw [HLN.out] at hr0
  obtain ⟨g, gcap, rfl⟩ := ownsRow_pos hr0 (by omega)
  obtain ⟨hg1, hg2, hg3, cs, hgo, hgc⟩ := ownsRow_own hr0 (by omega)
  have HGC := Lib.hid hgc
  clear hgc hs hr0
  unfold maxLen at hg3
  replace ob : Own w5 (w.heap.size) #[.int .u16 b0, .int .u16 b1, .int .u16 b2, .int .u16 b3] := Own.below (by repeat' (first | ((refine Own.new ?_); (focus (first | rfl | omega | (simp; done) | (simp; omega)))) | assumption | refine Own.alloc ?_ _ | refine Own.drew ?_ | (refine Own.far ?_ ?_ _; rotate_left; (focus (first | rfl | omega | (simp; done) | (simp; omega)))))) hbx
  replace obc := ob.cell
  replace obf := ob.thaw
  replace obz := ob.lt
  replace oc : Own w5 (cb) #[.int .i64 c0, .int .i64 c1, .int .i64 c2, .int .i64 cn0, .int .i64 cn1, .int .i64 cn2, .int .i64 cm, .int .i64 cd] := Own.below (by repeat' (first | ((refine Own.new ?_); (focus (first | rfl | omega | (simp; done) | (simp; omega)))) | assumption | refine Own.alloc ?_ _ | refine Own.drew ?_ | (refine Own.far ?_ ?_ _; rotate_left; (focus (first | rfl | omega | (simp; done) | (simp; omega)))))) hbx
  replace occ := oc.cell
  replace ocf := oc.thaw
  replace ocz := oc.lt
  replace of : Own w5 (cb + 1) #[.int .i64 0, .int .i64 0, .int .i64 0] := Own.below (by repeat' (first | ((refine Own.new ?_); (focus (first | rfl | omega | (simp; done) | (simp; omega)))) | assumption | refine Own.alloc ?_ _ | refine Own.drew ?_ | (refine Own.far ?_ ?_ _; rotate_left; (focus (first | rfl | omega | (simp; done) | (simp; omega)))))) hbx
  replace ofc := of.cell
  replace off := of.thaw
  replace ofz := of.lt
  replace hw : Below w.heap.size w w5 := Below.hop (by repeat' (first | exact Below.refl _ _ | assumption | (refine Below.alloc ?_ ?_ _; rotate_left; (focus (first | rfl | omega | (simp; done) | (simp; omega)))) | (refine Below.setCell ?_ ?_ _; rotate_left; (focus (first | rfl | omega | (simp; done) | (simp; omega)))) | refine Below.drew ?_)) hbx
  replace hz := hw.size
  clear hbx
  have ol : Own w5 g cs := hgo
  clear hgo
  have qg : cb + 1 < g := by have := w4e.out; omega
  clear hg1
  have olc := ol.cell
  have olf := ol.thaw
  have olz := ol.lt
  have hE0 : ((len : Int) == 0) = false := by simp; omega
  have hE4 : decide (4 < (len : Int)) = false := by simp; omega
  have hi4 : (len : Int) ≤ 4 := by omega
  have hi1 : 1 ≤ (len : Int) := by omega
  obtain ⟨F0, hF0⟩ : ∃ F : Nat → V3, ∀ k, F k = combV LL [b0, b1, b2, b3] k := ⟨_, fun _ => rfl⟩
  have HF := Lib.hid hF0
  clear hF0
  go_wp2
  clear hE0 hE4
  have hFz : Own w5 (cb + 1) (#[.int .i64 (F0 0).x, .int .i64 (F0 0).y, .int .i64 (F0 0).z]) := by rw [HF.out 0]; exact of
  clear of ofc off ofz
  have of := hFz
  clear hFz
  have ofc := of.cell
  have off := of.thaw
  have ofz := of.lt
  have hk0 : (F0 0).x = (F0 0).x := rfl
  clear hk0
  go_loopw [28] (fun i wr => ∃ k : Nat, k ≤ len ∧ i = .int .i64 k ∧ Below w.heap.size w wr ∧ Own wr (w.heap.size) #[.int .u16 b0, .int .u16 b1, .int .u16 b2, .int .u16 b3] ∧ Own wr (cb) #[.int .i64 c0, .int .i64 c1, .int .i64 c2, .int .i64 cn0, .int .i64 cn1, .int .i64 cn2, .int .i64 cm, .int .i64 cd] ∧ Own wr (g) cs ∧ Own wr (cb + 1) #[.int .i64 (F0 k).x, .int .i64 (F0 k).y, .int .i64 (F0 k).z]) (fun i _ => len - (intOf i).toNat)
  case atStart => exact ⟨0, by omega, rfl, hw, ob, oc, ol, of⟩
  case round =>
    clear hw hz ob obc obf obz oc occ ocf ocz ol olc olf olz of ofc off ofz
    obtain ⟨k, hk, rfl, hw, ob, oc, ol, of⟩ := hrel
    have hz := hw.size
    have obc := ob.cell
    have obf := ob.thaw
    have obz := ob.lt
    have occ := oc.cell
    have ocf := oc.thaw
    have ocz := oc.lt
    have olc := ol.cell
    have olf := ol.thaw
    have olz := ol.lt
    have ofc := of.cell
    have off := of.thaw
    have ofz := of.lt
    by_cases hlt : k < len
    · have hlt2 : (k : Int) < (len : Int) := by omega
      obtain ⟨⟨x0, x1, x2⟩, hX⟩ : ∃ X, LL.getD k ⟨0, 0, 0⟩ = X := ⟨_, rfl⟩
      have hel := cone_at HGC.out HLN.out hlt
      rw [hX] at hel
      obtain ⟨e0, e1, e2⟩ := hel
      have hin := HCE.out _ (getD_mem (d := ⟨0, 0, 0⟩) (by rw [HLN.out]; exact hlt))
      rw [hX] at hin
      have HX := Lib.hid (congrArg Value.bool hin.1)
      clear hin
      obtain ⟨bk, hb1, hb2, hb3, hb4⟩ := HB.out k (by omega)
      obtain ⟨⟨y0, y1, y2⟩, hY⟩ : ∃ Y, F0 (k + 1) = Y := ⟨_, rfl⟩
      have HFY := Lib.hid hY
      obtain ⟨⟨f0, f1, f2⟩, hf⟩ : ∃ f, F0 k = f := ⟨_, rfl⟩
      rw [hf] at of ofc
      simp only [] at of ofc
      have HS : Hid ((vSum ⟨f0, f1, f2⟩ (bk % 1000) ⟨x0, x1, x2⟩).v = vV y0 y1 y2) := Lib.hid (by have e := HF.out (k + 1); rw [hY] at e; simp only [combV] at e; rw [hX, hb1, ← HF.out k, hf] at e; exact congrArg V3.v e.symm)
      clear hX hY hf hb1
      go_wp2_with fail
      have qfx : cb + 1 < wr.heap.size := ofz
      have wqs : (wr.alloc (.cells #[.int .i64 x0, .int .i64 x1, .int .i64 x2] 24)).heap.size = wr.heap.size + 1 := by simp
      have wqe := Lib.hid wqs
      clear wqs
      have ox : Own ((wr.alloc (.cells #[.int .i64 x0, .int .i64 x1, .int .i64 x2] 24))) (wr.heap.size) #[.int .i64 x0, .int .i64 x1, .int .i64 x2] := Own.new rfl
      replace ob : Own ((wr.alloc (.cells #[.int .i64 x0, .int .i64 x1, .int .i64 x2] 24))) (w.heap.size) #[.int .u16 b0, .int .u16 b1, .int .u16 b2, .int .u16 b3] := (by repeat' (first | ((refine Own.new ?_); (focus (first | rfl | omega | (simp; done) | (simp; omega)))) | assumption | refine Own.alloc ?_ _ | refine Own.drew ?_ | (refine Own.far ?_ ?_ _; rotate_left; (focus (first | rfl | omega | (simp; done) | (simp; omega))))))
      clear obc obf obz
      replace oc : Own ((wr.alloc (.cells #[.int .i64 x0, .int .i64 x1, .int .i64 x2] 24))) (cb) #[.int .i64 c0, .int .i64 c1, .int .i64 c2, .int .i64 cn0, .int .i64 cn1, .int .i64 cn2, .int .i64 cm, .int .i64 cd] := (by repeat' (first | ((refine Own.new ?_); (focus (first | rfl | omega | (simp; done) | (simp; omega)))) | assumption | refine Own.alloc ?_ _ | refine Own.drew ?_ | (refine Own.far ?_ ?_ _; rotate_left; (focus (first | rfl | omega | (simp; done) | (simp; omega))))))
      clear occ ocf ocz
      replace ol : Own ((wr.alloc (.cells #[.int .i64 x0, .int .i64 x1, .int .i64 x2] 24))) (g) cs := (by repeat' (first | ((refine Own.new ?_); (focus (first | rfl | omega | (simp; done) | (simp; omega)))) | assumption | refine Own.alloc ?_ _ | refine Own.drew ?_ | (refine Own.far ?_ ?_ _; rotate_left; (focus (first | rfl | omega | (simp; done) | (simp; omega))))))
      clear olc olf olz
      replace of : Own ((wr.alloc (.cells #[.int .i64 x0, .int .i64 x1, .int .i64 x2] 24))) (cb + 1) #[.int .i64 f0, .int .i64 f1, .int .i64 f2] := (by repeat' (first | ((refine Own.new ?_); (focus (first | rfl | omega | (simp; done) | (simp; omega)))) | assumption | refine Own.alloc ?_ _ | refine Own.drew ?_ | (refine Own.far ?_ ?_ _; rotate_left; (focus (first | rfl | omega | (simp; done) | (simp; omega))))))
      clear ofc off ofz
      replace hw : Below w.heap.size w ((wr.alloc (.cells #[.int .i64 x0, .int .i64 x1, .int .i64 x2] 24))) := (by repeat' (first | exact Below.refl _ _ | assumption | (refine Below.alloc ?_ ?_ _; rotate_left; (focus (first | rfl | omega | (simp; done) | (simp; omega)))) | (refine Below.setCell ?_ ?_ _; rotate_left; (focus (first | rfl | omega | (simp; done) | (simp; omega)))) | refine Below.drew ?_))
      generalize (wr.alloc (.cells #[.int .i64 x0, .int .i64 x1, .int .i64 x2] 24)) = wq at *
      have obc := ob.cell
      have obf := ob.thaw
      have obz := ob.lt
      have occ := oc.cell
      have ocf := oc.thaw
      have ocz := oc.lt
      have olc := ol.cell
      have olf := ol.thaw
      have olz := ol.lt
      have ofc := of.cell
      have off := of.thaw
      have ofz := of.lt
      have oxc := ox.cell
      have oxf := ox.thaw
      have oxz := ox.lt
      replace hz := hw.size
      refine Calls.mono (callv (contact_Has _ _ _ _ _ _ _ _ _ _ _ _) HX.out) ?_
      rintro e w6 ⟨rfl, hbx⟩
      replace ob : Own w6 (w.heap.size) #[.int .u16 b0, .int .u16 b1, .int .u16 b2, .int .u16 b3] := Own.below (by repeat' (first | ((refine Own.new ?_); (focus (first | rfl | omega | (simp; done) | (simp; omega)))) | assumption | refine Own.alloc ?_ _ | refine Own.drew ?_ | (refine Own.far ?_ ?_ _; rotate_left; (focus (first | rfl | omega | (simp; done) | (simp; omega)))))) hbx
      replace obc := ob.cell
      replace obf := ob.thaw
      replace obz := ob.lt
      replace oc : Own w6 (cb) #[.int .i64 c0, .int .i64 c1, .int .i64 c2, .int .i64 cn0, .int .i64 cn1, .int .i64 cn2, .int .i64 cm, .int .i64 cd] := Own.below (by repeat' (first | ((refine Own.new ?_); (focus (first | rfl | omega | (simp; done) | (simp; omega)))) | assumption | refine Own.alloc ?_ _ | refine Own.drew ?_ | (refine Own.far ?_ ?_ _; rotate_left; (focus (first | rfl | omega | (simp; done) | (simp; omega)))))) hbx
      replace occ := oc.cell
      replace ocf := oc.thaw
      replace ocz := oc.lt
      replace ol : Own w6 (g) cs := Own.below (by repeat' (first | ((refine Own.new ?_); (focus (first | rfl | omega | (simp; done) | (simp; omega)))) | assumption | refine Own.alloc ?_ _ | refine Own.drew ?_ | (refine Own.far ?_ ?_ _; rotate_left; (focus (first | rfl | omega | (simp; done) | (simp; omega)))))) hbx
      replace olc := ol.cell
      replace olf := ol.thaw
      replace olz := ol.lt
      replace of : Own w6 (cb + 1) #[.int .i64 f0, .int .i64 f1, .int .i64 f2] := Own.below (by repeat' (first | ((refine Own.new ?_); (focus (first | rfl | omega | (simp; done) | (simp; omega)))) | assumption | refine Own.alloc ?_ _ | refine Own.drew ?_ | (refine Own.far ?_ ?_ _; rotate_left; (focus (first | rfl | omega | (simp; done) | (simp; omega)))))) hbx
      replace ofc := of.cell
      replace off := of.thaw
      replace ofz := of.lt
      replace ox : Own w6 (wr.heap.size) #[.int .i64 x0, .int .i64 x1, .int .i64 x2] := Own.below (by repeat' (first | ((refine Own.new ?_); (focus (first | rfl | omega | (simp; done) | (simp; omega)))) | assumption | refine Own.alloc ?_ _ | refine Own.drew ?_ | (refine Own.far ?_ ?_ _; rotate_left; (focus (first | rfl | omega | (simp; done) | (simp; omega)))))) hbx
      replace oxc := ox.cell
      replace oxf := ox.thaw
      replace oxz := ox.lt
      replace hw : Below w.heap.size w w6 := Below.hop (by repeat' (first | exact Below.refl _ _ | assumption | (refine Below.alloc ?_ ?_ _; rotate_left; (focus (first | rfl | omega | (simp; done) | (simp; omega)))) | (refine Below.setCell ?_ ?_ _; rotate_left; (focus (first | rfl | omega | (simp; done) | (simp; omega)))) | refine Below.drew ?_)) hbx
      replace hz := hw.size
      clear hbx
      go_wp2
      have hk4 : (k : Int) < 4 := by omega
      have hq3 : bk.tmod 1000 = bk % 1000 := Int.tmod_eq_emod_of_nonneg hb3
      have hq4 : IntKind.i64.wrap (bk % 1000) = bk % 1000 := IntWalk.i64_in _ (by omega)
      refine region_sink 8 [] (by kernel_rfl) (by kernel_rfl) (by rfl) ?_
      apply Exists.intro
      refine ⟨fun v hv hne => ?_, fun u3 hu => ?_⟩
      · simp only [List.take_succ_cons, List.take_zero]
        have dob := fun x => (ob.later (v := v) (T := []) (by first | (simp; done) | (simp; omega)) x).cell
        have doc := fun x => (oc.later (v := v) (T := []) (by first | (simp; done) | (simp; omega)) x).cell
        have dol := fun x => (ol.later (v := v) (T := []) (by first | (simp; done) | (simp; omega)) x).cell
        have dof := fun x => (of.later (v := v) (T := []) (by first | (simp; done) | (simp; omega)) x).cell
        have dox := fun x => (ox.later (v := v) (T := []) (by first | (simp; done) | (simp; omega)) x).cell
        have dbk := fun x => (dob x k).trans hb2
        repeat (go_big_quiet_step ((first | (go_at_call 64; with_reducible exact lateB (callv (law25_sum _ _ _ _ _ _ _ _) HS.out)))))
        refine wpQuiet_nil ?_
        exact rfl
      · simp only [List.drop_succ_cons, List.drop_zero]
        replace ob := ob.below hu
        clear obc obf obz
        replace oc := oc.below hu
        clear occ ocf ocz
        replace ol := ol.below hu
        clear olc olf olz
        replace of := of.below hu
        clear ofc off ofz
        replace ox := ox.below hu
        clear oxc oxf oxz
        replace hw := Below.hop hw hu
        replace hz := hw.size
        clear hu hq3 hq4 hb2 e0 e1 e2
        have obc := ob.cell
        have obf := ob.thaw
        have obz := ob.lt
        have occ := oc.cell
        have ocf := oc.thaw
        have ocz := oc.lt
        have olc := ol.cell
        have olf := ol.thaw
        have olz := ol.lt
        have ofc := of.cell
        have off := of.thaw
        have ofz := of.lt
        have oxc := ox.cell
        have oxf := ox.thaw
        have oxz := ox.lt
        refine sink_all (by kernel_rfl) (fun K hK => ?_)
        go_simp
        refine hK _ _ ?_
        clear hK K
        (try simp only [Act.put])
        have qcb : w.heap.size ≤ cb + 1 := by omega
        have tof : Own (((((((u3).setCell ⟨cb + 1, 0, none⟩ (.int .i64 y0))).setCell ⟨cb + 1, 1, none⟩ (.int .i64 y1))).setCell ⟨cb + 1, 2, none⟩ (.int .i64 y2))) (cb + 1) #[.int .i64 y0, .int .i64 y1, .int .i64 y2] := (((of.set 0 _).set 1 _).set 2 _)
        clear ofc off ofz of
        replace ob : Own (((((((u3).setCell ⟨cb + 1, 0, none⟩ (.int .i64 y0))).setCell ⟨cb + 1, 1, none⟩ (.int .i64 y1))).setCell ⟨cb + 1, 2, none⟩ (.int .i64 y2))) (w.heap.size) #[.int .u16 b0, .int .u16 b1, .int .u16 b2, .int .u16 b3] := (((ob.far (by first | (simp; done) | (simp; omega)) _).far (by first | (simp; done) | (simp; omega)) _).far (by first | (simp; done) | (simp; omega)) _)
        clear obc obf obz
        replace oc : Own (((((((u3).setCell ⟨cb + 1, 0, none⟩ (.int .i64 y0))).setCell ⟨cb + 1, 1, none⟩ (.int .i64 y1))).setCell ⟨cb + 1, 2, none⟩ (.int .i64 y2))) (cb) #[.int .i64 c0, .int .i64 c1, .int .i64 c2, .int .i64 cn0, .int .i64 cn1, .int .i64 cn2, .int .i64 cm, .int .i64 cd] := (((oc.far (by first | (simp; done) | (simp; omega)) _).far (by first | (simp; done) | (simp; omega)) _).far (by first | (simp; done) | (simp; omega)) _)
        clear occ ocf ocz
        replace ol : Own (((((((u3).setCell ⟨cb + 1, 0, none⟩ (.int .i64 y0))).setCell ⟨cb + 1, 1, none⟩ (.int .i64 y1))).setCell ⟨cb + 1, 2, none⟩ (.int .i64 y2))) (g) cs := (((ol.far (by first | (simp; done) | (simp; omega)) _).far (by first | (simp; done) | (simp; omega)) _).far (by first | (simp; done) | (simp; omega)) _)
        clear olc olf olz
        replace ox : Own (((((((u3).setCell ⟨cb + 1, 0, none⟩ (.int .i64 y0))).setCell ⟨cb + 1, 1, none⟩ (.int .i64 y1))).setCell ⟨cb + 1, 2, none⟩ (.int .i64 y2))) (wr.heap.size) #[.int .i64 x0, .int .i64 x1, .int .i64 x2] := (((ox.far (by first | (simp; done) | (simp; omega)) _).far (by first | (simp; done) | (simp; omega)) _).far (by first | (simp; done) | (simp; omega)) _)
        clear oxc oxf oxz
        replace hw : Below w.heap.size w (((((((u3).setCell ⟨cb + 1, 0, none⟩ (.int .i64 y0))).setCell ⟨cb + 1, 1, none⟩ (.int .i64 y1))).setCell ⟨cb + 1, 2, none⟩ (.int .i64 y2))) := (((hw.setCell (by first | (simp; done) | (simp; omega)) _).setCell (by first | (simp; done) | (simp; omega)) _).setCell (by first | (simp; done) | (simp; omega)) _)
        have of := tof
        clear tof
        have w7s : (((((((u3).setCell ⟨cb + 1, 0, none⟩ (.int .i64 y0))).setCell ⟨cb + 1, 1, none⟩ (.int .i64 y1))).setCell ⟨cb + 1, 2, none⟩ (.int .i64 y2))).heap.size = u3.heap.size := by simp
        generalize ((((((u3).setCell ⟨cb + 1, 0, none⟩ (.int .i64 y0))).setCell ⟨cb + 1, 1, none⟩ (.int .i64 y1))).setCell ⟨cb + 1, 2, none⟩ (.int .i64 y2)) = w7 at *
        have w7e := Lib.hid w7s
        clear w7s
        have obc := ob.cell
        have obf := ob.thaw
        have obz := ob.lt
        have occ := oc.cell
        have ocf := oc.thaw
        have ocz := oc.lt
        have olc := ol.cell
        have olf := ol.thaw
        have olz := ol.lt
        have oxc := ox.cell
        have oxf := ox.thaw
        have oxz := ox.lt
        have ofc := of.cell
        have off := of.thaw
        have ofz := of.lt
        replace hz := hw.size
        refine sink_nil ?_
        (try simp only [Act.put, List.setIfInBounds_toArray, List.set_cons_zero, List.set_cons_succ])
        have of2 : Own w7 (cb + 1) #[.int .i64 (F0 (k + 1)).x, .int .i64 (F0 (k + 1)).y, .int .i64 (F0 (k + 1)).z] := by rw [HFY.out]; exact of
        replace of := of2
        clear ofc off ofz of2
        go_wp2
        go_roundw
        case rel => exact ⟨k + 1, by omega, by go_num, hw, ob, oc, ol, of⟩
        case measure => simp [intOf]; omega
    · obtain rfl : k = len := by omega
      obtain ⟨⟨f0, f1, f2⟩, hf⟩ : ∃ f, F0 k = f := ⟨_, rfl⟩
      have hcomb := (has_comb Hhok.out HCE.out (by rw [HLN.out]; omega) [b0, b1, b2, b3] k (by rw [HLN.out]; omega)).1
      rw [← HF.out k, hf] at hcomb
      have H1 := Lib.hid (congrArg Value.bool hcomb)
      rw [hf] at of ofc
      simp only [] at of ofc
      clear hf hcomb
      have H2 := Lib.hid (congrArg Value.bool (has_zero Hhok.out))
      go_wp2
      have hN1 : 1 ≤ 1 + b0 % 1000 := by omega
      have hN2 : 1 + b0 % 1000 ≤ 1000 := by omega
      generalize 1 + b0 % 1000 = N at *
      have hn := has_normal Hhok.out hN1 hN2
      dsimp only at hn
      obtain ⟨⟨p0, p1, p2⟩, hp⟩ : ∃ p, vSum ⟨0, 0, 0⟩ N ⟨cn0, cn1, cn2⟩ = p := ⟨_, rfl⟩
      obtain ⟨⟨q0, q1, q2⟩, hq⟩ : ∃ q, vSum ⟨0, 0, 0⟩ (-N) ⟨cn0, cn1, cn2⟩ = q := ⟨_, rfl⟩
      rw [hp, hq] at hn
      have H3 := Lib.hid (congrArg Value.bool hn.1)
      have H4 := Lib.hid (congrArg Value.bool hn.2)
      have H5 := Lib.hid (congrArg V3.v hp)
      have H6 := Lib.hid (congrArg V3.v hq)
      clear hn hp hq
      have hq5 : IntKind.i64.wrap (-N) = -N := IntWalk.i64_in _ (by omega)
      refine region_late 31 [] (by kernel_rfl) (by kernel_rfl) (by rfl) ?_
      apply Exists.intro
      refine ⟨fun v hv hne => ?_, fun u hu => ?_⟩
      · simp only [List.take_succ_cons, List.take_zero]
        have dob := fun x => (ob.later (v := v) (T := []) (by first | (simp; done) | (simp; omega)) x).cell
        have doc := fun x => (oc.later (v := v) (T := []) (by first | (simp; done) | (simp; omega)) x).cell
        have dol := fun x => (ol.later (v := v) (T := []) (by first | (simp; done) | (simp; omega)) x).cell
        have dof := fun x => (of.later (v := v) (T := []) (by first | (simp; done) | (simp; omega)) x).cell
        repeat (go_big_quiet_step ((first | (go_at_call 59; with_reducible exact lateB (callv (contact_Has _ _ _ _ _ _ _ _ _ _ _ _) H1.out)) | (go_at_call 59; with_reducible exact lateB (callv (contact_Has _ _ _ _ _ _ _ _ _ _ _ _) H2.out)) | (go_at_call 59; with_reducible exact lateB (callv (contact_Has _ _ _ _ _ _ _ _ _ _ _ _) H3.out)) | (go_at_call 59; with_reducible exact lateB (callv (contact_Has _ _ _ _ _ _ _ _ _ _ _ _) H4.out)) | (go_at_call 64; with_reducible exact lateB (callv (law25_sum _ _ _ _ _ _ _ _) H5.out)) | (go_at_call 64; with_reducible exact lateB (callv (law25_sum _ _ _ _ _ _ _ _) H6.out)))))
        refine wpQuiet_nil ?_
        exact rfl
      · simp only [List.drop_succ_cons, List.drop_zero]
        refine late_mem (fun K hK => ?_)
        go_simp
        refine hK _ _ (Keeps.of_below hu) (fun u2 hu2 => ?_)
        clear hK K
        replace ob := (ob.below hu).below hu2
        replace oc := (oc.below hu).below hu2
        replace ol := (ol.below hu).below hu2
        replace of := (of.below hu).below hu2
        replace hw := Below.hop (Below.hop hw hu) hu2
        replace hz := hw.size
        clear hu hu2
        refine late_nil ?_
        (try simp only [Act.put, List.setIfInBounds_toArray, List.set_cons_zero, List.set_cons_succ])
        have obc := ob.cell
        have obf := ob.thaw
        have obz := ob.lt
        have occ := oc.cell
        have ocf := oc.thaw
        have ocz := oc.lt
        have olc := ol.cell
        have olf := ol.thaw
        have olz := ol.lt
        have ofc := of.cell
        have off := of.thaw
        have ofz := of.lt
        go_wp2
        go_ret
        exact ⟨rfl, hw⟩
end Go.Proofs.Ythijnggeoinlfaa
