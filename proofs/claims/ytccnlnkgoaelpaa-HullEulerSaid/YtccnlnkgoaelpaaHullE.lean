/- Package hull: compare, plane.Compare for the sort: what they return, and that they only make blocks of their own. -/
import Derived.Shelf.SlSortCmp.WholeK
import Derived.Test.YtccnlnkgoaelpaaLateG
import Derived.Test.YtccnlnkgoaelpaaPlaneZ
import Derived.Test.YtccnlnkgoaelpaaHullD
namespace Go.Proofs.Ytccnlnkgoaelpaa
open Go.RowKit Go.Sort LG

set_option maxRecDepth 100000 in
theorem cmp_Compare (x y : Int) (w : World) : Calls Try.prog 69 #[.int .i64 x, .int .i64 y] w fun e w' => e = .returned (.int .i64 (ordI x y)) ∧ Gr w w' := by
  go_enter Try.func69, Try.ntmps69
  by_cases h1 : x < y
  · have e : ordI x y = -1 := by unfold ordI; rw [if_pos h1]
    rw [e]
    go_wp2
    go_ret
    exact ⟨rfl, Gr.refl _⟩
  · by_cases h2 : y < x
    · have e : ordI x y = 1 := by unfold ordI; rw [if_neg h1, if_pos h2]
      rw [e]
      go_wp2
      go_ret
      exact ⟨rfl, Gr.refl _⟩
    · have e : ordI x y = 0 := by unfold ordI; rw [if_neg h1, if_neg h2]
      rw [e]
      go_wp2
      go_ret
      exact ⟨rfl, Gr.refl _⟩
def or3 (x y z : Int) : Int := if x = 0 then (if y = 0 then z else y) else x
set_option maxRecDepth 100000 in
set_option maxHeartbeats 1000000 in
theorem cmp_Or (b : Nat) (x y z : Int) (w : World) (h : Own w b #[.int .i64 x, .int .i64 y, .int .i64 z]) :
    Calls Try.prog 68 #[.slice (some ⟨b, 0, none⟩) 3 3] w fun e w' => e = .returned (.int .i64 (or3 x y z)) ∧ Gr w w' := by
  have hc := h.cell
  have hf := h.thaw
  have HC := Lib.hid hc
  clear h hc hf
  go_enter Try.func68, Try.ntmps68
  go_wp2
  go_loopw [8] (fun i wr => ∃ k : Nat, k ≤ 3 ∧ i = .int .i64 k ∧ wr = w ∧ (1 ≤ k → x = 0) ∧ (2 ≤ k → y = 0) ∧ (3 ≤ k → z = 0)) (fun i _ => 3 - (intOf i).toNat)
  case atStart => exact ⟨0, by omega, rfl, rfl, by omega, by omega, by omega⟩
  case round =>
    obtain ⟨k, hk, rfl, rfl, h1, h2, h3⟩ := hrel
    have hc := HC.out
    rcases (show k = 0 ∨ k = 1 ∨ k = 2 ∨ k = 3 by omega) with rfl | rfl | rfl | rfl
    · clear h1 h2 h3
      by_cases e : x = 0
      · subst e
        go_wp2
        go_roundw
        case rel => exact ⟨1, by omega, by go_num, by simp, by simp, by simp, by simp⟩
        case measure => simp [intOf]
      · have e2 : or3 x y z = x := by unfold or3; rw [if_neg e]
        have e3 : (x == 0) = false := by simpa using e
        go_wp2
        go_ret
        exact ⟨by rw [e2]; rfl, Gr.refl _⟩
    · have hx := h1 (by omega)
      subst hx
      clear h1 h2 h3
      by_cases e : y = 0
      · subst e
        go_wp2
        go_roundw
        case rel => exact ⟨2, by omega, by go_num, by simp, by simp, by simp, by simp⟩
        case measure => simp [intOf]
      · have e2 : or3 0 y z = y := by unfold or3; rw [if_pos rfl, if_neg e]
        have e3 : (y == 0) = false := by simpa using e
        go_wp2
        go_ret
        exact ⟨by rw [e2]; rfl, Gr.refl _⟩
    · have hx := h1 (by omega)
      have hy := h2 (by omega)
      subst hx
      subst hy
      clear h1 h2 h3
      by_cases e : z = 0
      · subst e
        go_wp2
        go_roundw
        case rel => exact ⟨3, by omega, by go_num, by simp, by simp, by simp, by simp⟩
        case measure => simp [intOf]
      · have e2 : or3 0 0 z = z := by unfold or3; rw [if_pos rfl, if_pos rfl]
        have e3 : (z == 0) = false := by simpa using e
        go_wp2
        go_ret
        exact ⟨by rw [e2]; rfl, Gr.refl _⟩
    · have hx := h1 (by omega)
      have hy := h2 (by omega)
      have hz := h3 (by omega)
      subst hx
      subst hy
      subst hz
      clear h1 h2 h3
      go_wp2
      go_ret
      exact ⟨rfl, Gr.refl _⟩

def cmpV (a b : V3) : Int := or3 (ordI a.x b.x) (ordI a.y b.y) (ordI a.z b.z)
theorem cmpV_lt (a b : V3) : ltOf cmpV a b = vLt a b := by
  unfold ltOf cmpV or3 vLt
  by_cases hx : a.x = b.x
  · rw [if_pos (ordI_zero'.2 hx), if_pos hx]
    by_cases hy : a.y = b.y
    · rw [if_pos (ordI_zero'.2 hy), if_pos hy]
      exact decide_eq_decide.2 (ordI_lt _ _)
    · rw [if_neg (fun h => hy (ordI_zero'.1 h)), if_neg hy]
      exact decide_eq_decide.2 (ordI_lt _ _)
  · rw [if_neg (fun h => hx (ordI_zero'.1 h)), if_neg hx]
    exact decide_eq_decide.2 (ordI_lt _ _)

set_option maxRecDepth 100000 in
set_option maxHeartbeats 4000000 in
theorem hull_compare (a b : V3) (w : World) : Calls Try.prog 48 #[a.v, b.v] w fun e w' => e = .returned (.int .i64 (cmpV a b)) ∧ Gr w w' := by
  obtain ⟨x, y, z⟩ := a
  obtain ⟨x', y', z'⟩ := b
  show Calls Try.prog 48 #[vV x y z, vV x' y' z'] w fun e w' => e = .returned (.int .i64 (or3 (ordI x x') (ordI y y') (ordI z z'))) ∧ Gr w w'
  obtain ⟨r0, h0⟩ : ∃ r, ordI x x' = r := ⟨_, rfl⟩
  obtain ⟨r1, h1⟩ : ∃ r, ordI y y' = r := ⟨_, rfl⟩
  obtain ⟨r2, h2⟩ : ∃ r, ordI z z' = r := ⟨_, rfl⟩
  obtain ⟨r3, h3⟩ : ∃ r, or3 r0 r1 r2 = r := ⟨_, rfl⟩
  rw [h0, h1, h2, h3]
  have H0 := Lib.hid (congrArg (Value.int IntKind.i64) h0)
  have H1 := Lib.hid (congrArg (Value.int IntKind.i64) h1)
  have H2 := Lib.hid (congrArg (Value.int IntKind.i64) h2)
  have H3 := Lib.hid (congrArg (Value.int IntKind.i64) h3)
  clear h0 h1 h2 h3
  go_enter Try.func48, Try.ntmps48
  go_wp2
  have o1 : Own ((w.alloc (.cells #[.int .i64 x, .int .i64 y, .int .i64 z] 31)).alloc (.cells #[.int .i64 x', .int .i64 y', .int .i64 z'] 31)) w.heap.size #[.int .i64 x, .int .i64 y, .int .i64 z] := (by repeat' (first | ((refine Own.new ?_); (focus (first | rfl | omega | (simp; done) | (simp; omega)))) | assumption | refine Own.alloc ?_ _ | refine Own.drew ?_ | (refine Own.far ?_ ?_ _; rotate_left; (focus (first | rfl | omega | (simp; done) | (simp; omega))))))
  have o2 : Own ((w.alloc (.cells #[.int .i64 x, .int .i64 y, .int .i64 z] 31)).alloc (.cells #[.int .i64 x', .int .i64 y', .int .i64 z'] 31)) (w.heap.size + 1) #[.int .i64 x', .int .i64 y', .int .i64 z'] := (by repeat' (first | ((refine Own.new ?_); (focus (first | rfl | omega | (simp; done) | (simp; omega)))) | assumption | refine Own.alloc ?_ _ | refine Own.drew ?_ | (refine Own.far ?_ ?_ _; rotate_left; (focus (first | rfl | omega | (simp; done) | (simp; omega))))))
  have hg : Gr w ((w.alloc (.cells #[.int .i64 x, .int .i64 y, .int .i64 z] 31)).alloc (.cells #[.int .i64 x', .int .i64 y', .int .i64 z'] 31)) := ((Gr.refl _).alloc _).alloc _
  generalize (w.alloc (.cells #[.int .i64 x, .int .i64 y, .int .i64 z] 31)).alloc (.cells #[.int .i64 x', .int .i64 y', .int .i64 z'] 31) = W at *
  refine LG.region_late 15 [] (by kernel_rfl) (by kernel_rfl) (by rfl) ?_
  apply Exists.intro
  refine ⟨fun v hv hne => ?_, fun u hu => ?_⟩
  · simp only [List.take_succ_cons, List.take_zero]
    have d1 := fun x => (LG.Own.later (v := v) (T := []) o1 (by simp) x).cell
    have d2 := fun x => (LG.Own.later (v := v) (T := []) o2 (by simp) x).cell
    repeat (go_big_quiet_step ((first | (go_at_call 69; with_reducible exact LG.lateB (callv (cmp_Compare _ _ _) H0.out)) | (go_at_call 69; with_reducible exact LG.lateB (callv (cmp_Compare _ _ _) H1.out)) | (go_at_call 69; with_reducible exact LG.lateB (callv (cmp_Compare _ _ _) H2.out)))))
    refine wpQuiet_nil ?_
    exact rfl
  · simp only [List.drop_succ_cons, List.drop_zero]
    refine LG.late_mem (fun K hK => ?_)
    go_simp
    refine hK _ _ ((Keeps.of_below (Gr.below hu)).alloc _) (fun u2 hu2 => ?_)
    clear hK K
    have o3 : Own u2 u.heap.size #[.int .i64 r0, .int .i64 r1, .int .i64 r2] := Own.below (Own.new rfl) (Gr.below hu2)
    have hk : Keeps [] W u2 := ((Keeps.of_below (T := []) (Gr.below hu)).alloc _).later (Gr.below hu2)
    have hg2 : Gr w u2 := Gr.trans (Gr.alloc (Gr.trans hg hu) _) hu2
    generalize u.heap.size = ob at *
    clear hu hu2 o1 o2 hg u
    refine LG.late_mem (fun K hK => ?_)
    go_simp
    refine (callv (cmp_Or ob r0 r1 r2 u2 o3) H3.out).mono ?_
    rintro e w3 ⟨rfl, hb3⟩
    refine ⟨_, rfl, hK _ _ (hk.later (Gr.below hb3)) (fun u4 hu4 => ?_)⟩
    clear hK K
    replace hk := (hk.later (Gr.below hb3)).later (Gr.below hu4)
    replace hg2 := Gr.trans (Gr.trans hg2 hb3) hu4
    clear hb3 hu4 o3
    refine LG.late_mem (fun K hK => ?_)
    go_simp
    refine hK _ _ hk (fun u5 hu5 => ?_)
    clear hK K
    replace hg2 := Gr.trans hg2 hu5
    clear hk hu5
    refine LG.late_nil ?_
    (try simp only [Act.put, List.setIfInBounds_toArray, List.set_cons_zero, List.set_cons_succ])
    go_wp2
    go_ret
    exact ⟨rfl, hg2⟩
end Go.Proofs.Ytccnlnkgoaelpaa
