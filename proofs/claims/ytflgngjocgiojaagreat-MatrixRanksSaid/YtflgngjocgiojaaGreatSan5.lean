/- The sanity of the laws of package matrix returns true. -/
import Derived.Test.YtflgngjocgiojaaGreatRowI
namespace Go.Proofs.YtflgngjocgiojaaGreat
open Go.RowKit

theorem rows_none (w : World) : RowsAt w none 0 [] := ⟨rfl, fun h => absurd h (Nat.lt_irrefl 0)⟩
set_option maxRecDepth 100000 in
set_option maxHeartbeats 8000000 in
theorem law05_sanity (w : World) :
  Calls Tryz.prog 9 #[] w fun e w' => e = .returned (.bool true) ∧ Below w.heap.size w w' := by
 have hw := Below.refl w.heap.size w
 go_enter Tryz.func9, Tryz.ntmps9
 have HFo : Own ((((((w.alloc (.cells #[.int .i64 1, .int .i64 2] 3)).alloc (.cells #[.int .i64 2, .int .i64 4] 3)).alloc (.cells #[.slice (some ⟨w.heap.size, 0, none⟩) 2 2, .slice (some ⟨w.heap.size + 1, 0, none⟩) 2 2] 22)).alloc (.cells #[.int .i64 1, .int .i64 2] 3)).alloc (.cells #[.int .i64 3, .int .i64 4] 3)).alloc (.cells #[.slice (some ⟨w.heap.size + 1 + 1 + 1, 0, none⟩) 2 2, .slice (some ⟨w.heap.size + 1 + 1 + 1 + 1, 0, none⟩) 2 2] 22)) (w.heap.size + 1 + 1) #[.slice (some ⟨w.heap.size, 0, none⟩) 2 2, .slice (some ⟨w.heap.size + 1, 0, none⟩) 2 2] := (by repeat' (first | ((refine Own.new ?_); (focus (first | rfl | omega | (simp; done) | (simp; omega)))) | assumption | refine Own.alloc ?_ _ | refine Own.drew ?_ | (refine Own.far ?_ ?_ _; rotate_left; (focus (first | rfl | omega | (simp; done) | (simp; omega))))))
 have HF0 : IntsAt ((((((w.alloc (.cells #[.int .i64 1, .int .i64 2] 3)).alloc (.cells #[.int .i64 2, .int .i64 4] 3)).alloc (.cells #[.slice (some ⟨w.heap.size, 0, none⟩) 2 2, .slice (some ⟨w.heap.size + 1, 0, none⟩) 2 2] 22)).alloc (.cells #[.int .i64 1, .int .i64 2] 3)).alloc (.cells #[.int .i64 3, .int .i64 4] 3)).alloc (.cells #[.slice (some ⟨w.heap.size + 1 + 1 + 1, 0, none⟩) 2 2, .slice (some ⟨w.heap.size + 1 + 1 + 1 + 1, 0, none⟩) 2 2] 22)) (some ⟨w.heap.size, 0, none⟩) 2 [1, 2] := ints_lit (cs := #[.int .i64 1, .int .i64 2]) (by repeat' (first | ((refine Own.new ?_); (focus (first | rfl | omega | (simp; done) | (simp; omega)))) | assumption | refine Own.alloc ?_ _ | refine Own.drew ?_ | (refine Own.far ?_ ?_ _; rotate_left; (focus (first | rfl | omega | (simp; done) | (simp; omega)))))) rfl rfl (by unfold I64L; decide)
 have HF1 : IntsAt ((((((w.alloc (.cells #[.int .i64 1, .int .i64 2] 3)).alloc (.cells #[.int .i64 2, .int .i64 4] 3)).alloc (.cells #[.slice (some ⟨w.heap.size, 0, none⟩) 2 2, .slice (some ⟨w.heap.size + 1, 0, none⟩) 2 2] 22)).alloc (.cells #[.int .i64 1, .int .i64 2] 3)).alloc (.cells #[.int .i64 3, .int .i64 4] 3)).alloc (.cells #[.slice (some ⟨w.heap.size + 1 + 1 + 1, 0, none⟩) 2 2, .slice (some ⟨w.heap.size + 1 + 1 + 1 + 1, 0, none⟩) 2 2] 22)) (some ⟨w.heap.size + 1, 0, none⟩) 2 [2, 4] := ints_lit (cs := #[.int .i64 2, .int .i64 4]) (by repeat' (first | ((refine Own.new ?_); (focus (first | rfl | omega | (simp; done) | (simp; omega)))) | assumption | refine Own.alloc ?_ _ | refine Own.drew ?_ | (refine Own.far ?_ ?_ _; rotate_left; (focus (first | rfl | omega | (simp; done) | (simp; omega)))))) rfl rfl (by unfold I64L; decide)
 have HF : RowsAt ((((((w.alloc (.cells #[.int .i64 1, .int .i64 2] 3)).alloc (.cells #[.int .i64 2, .int .i64 4] 3)).alloc (.cells #[.slice (some ⟨w.heap.size, 0, none⟩) 2 2, .slice (some ⟨w.heap.size + 1, 0, none⟩) 2 2] 22)).alloc (.cells #[.int .i64 1, .int .i64 2] 3)).alloc (.cells #[.int .i64 3, .int .i64 4] 3)).alloc (.cells #[.slice (some ⟨w.heap.size + 1 + 1 + 1, 0, none⟩) 2 2, .slice (some ⟨w.heap.size + 1 + 1 + 1 + 1, 0, none⟩) 2 2] 22)) (some ⟨w.heap.size + 1 + 1, 0, none⟩) 2 flatM := rows_two HFo (by omega) (by omega) HF0 (by omega) (by omega) HF1
 clear HFo HF0 HF1
 have HSo : Own ((((((w.alloc (.cells #[.int .i64 1, .int .i64 2] 3)).alloc (.cells #[.int .i64 2, .int .i64 4] 3)).alloc (.cells #[.slice (some ⟨w.heap.size, 0, none⟩) 2 2, .slice (some ⟨w.heap.size + 1, 0, none⟩) 2 2] 22)).alloc (.cells #[.int .i64 1, .int .i64 2] 3)).alloc (.cells #[.int .i64 3, .int .i64 4] 3)).alloc (.cells #[.slice (some ⟨w.heap.size + 1 + 1 + 1, 0, none⟩) 2 2, .slice (some ⟨w.heap.size + 1 + 1 + 1 + 1, 0, none⟩) 2 2] 22)) (w.heap.size + 1 + 1 + 1 + 1 + 1) #[.slice (some ⟨w.heap.size + 1 + 1 + 1, 0, none⟩) 2 2, .slice (some ⟨w.heap.size + 1 + 1 + 1 + 1, 0, none⟩) 2 2] := (by repeat' (first | ((refine Own.new ?_); (focus (first | rfl | omega | (simp; done) | (simp; omega)))) | assumption | refine Own.alloc ?_ _ | refine Own.drew ?_ | (refine Own.far ?_ ?_ _; rotate_left; (focus (first | rfl | omega | (simp; done) | (simp; omega))))))
 have HS0 : IntsAt ((((((w.alloc (.cells #[.int .i64 1, .int .i64 2] 3)).alloc (.cells #[.int .i64 2, .int .i64 4] 3)).alloc (.cells #[.slice (some ⟨w.heap.size, 0, none⟩) 2 2, .slice (some ⟨w.heap.size + 1, 0, none⟩) 2 2] 22)).alloc (.cells #[.int .i64 1, .int .i64 2] 3)).alloc (.cells #[.int .i64 3, .int .i64 4] 3)).alloc (.cells #[.slice (some ⟨w.heap.size + 1 + 1 + 1, 0, none⟩) 2 2, .slice (some ⟨w.heap.size + 1 + 1 + 1 + 1, 0, none⟩) 2 2] 22)) (some ⟨w.heap.size + 1 + 1 + 1, 0, none⟩) 2 [1, 2] := ints_lit (cs := #[.int .i64 1, .int .i64 2]) (by repeat' (first | ((refine Own.new ?_); (focus (first | rfl | omega | (simp; done) | (simp; omega)))) | assumption | refine Own.alloc ?_ _ | refine Own.drew ?_ | (refine Own.far ?_ ?_ _; rotate_left; (focus (first | rfl | omega | (simp; done) | (simp; omega)))))) rfl rfl (by unfold I64L; decide)
 have HS1 : IntsAt ((((((w.alloc (.cells #[.int .i64 1, .int .i64 2] 3)).alloc (.cells #[.int .i64 2, .int .i64 4] 3)).alloc (.cells #[.slice (some ⟨w.heap.size, 0, none⟩) 2 2, .slice (some ⟨w.heap.size + 1, 0, none⟩) 2 2] 22)).alloc (.cells #[.int .i64 1, .int .i64 2] 3)).alloc (.cells #[.int .i64 3, .int .i64 4] 3)).alloc (.cells #[.slice (some ⟨w.heap.size + 1 + 1 + 1, 0, none⟩) 2 2, .slice (some ⟨w.heap.size + 1 + 1 + 1 + 1, 0, none⟩) 2 2] 22)) (some ⟨w.heap.size + 1 + 1 + 1 + 1, 0, none⟩) 2 [3, 4] := ints_lit (cs := #[.int .i64 3, .int .i64 4]) (by repeat' (first | ((refine Own.new ?_); (focus (first | rfl | omega | (simp; done) | (simp; omega)))) | assumption | refine Own.alloc ?_ _ | refine Own.drew ?_ | (refine Own.far ?_ ?_ _; rotate_left; (focus (first | rfl | omega | (simp; done) | (simp; omega)))))) rfl rfl (by unfold I64L; decide)
 have HS : RowsAt ((((((w.alloc (.cells #[.int .i64 1, .int .i64 2] 3)).alloc (.cells #[.int .i64 2, .int .i64 4] 3)).alloc (.cells #[.slice (some ⟨w.heap.size, 0, none⟩) 2 2, .slice (some ⟨w.heap.size + 1, 0, none⟩) 2 2] 22)).alloc (.cells #[.int .i64 1, .int .i64 2] 3)).alloc (.cells #[.int .i64 3, .int .i64 4] 3)).alloc (.cells #[.slice (some ⟨w.heap.size + 1 + 1 + 1, 0, none⟩) 2 2, .slice (some ⟨w.heap.size + 1 + 1 + 1 + 1, 0, none⟩) 2 2] 22)) (some ⟨w.heap.size + 1 + 1 + 1 + 1 + 1, 0, none⟩) 2 squareM := rows_two HSo (by omega) (by omega) HS0 (by omega) (by omega) HS1
 clear HSo HS0 HS1
 replace HF := Lib.hid HF
 replace HS := Lib.hid HS
 go_wp2_with fail
 replace hw : Below w.heap.size w ((((((w.alloc (.cells #[.int .i64 1, .int .i64 2] 3)).alloc (.cells #[.int .i64 2, .int .i64 4] 3)).alloc (.cells #[.slice (some ⟨w.heap.size, 0, none⟩) 2 2, .slice (some ⟨w.heap.size + 1, 0, none⟩) 2 2] 22)).alloc (.cells #[.int .i64 1, .int .i64 2] 3)).alloc (.cells #[.int .i64 3, .int .i64 4] 3)).alloc (.cells #[.slice (some ⟨w.heap.size + 1 + 1 + 1, 0, none⟩) 2 2, .slice (some ⟨w.heap.size + 1 + 1 + 1 + 1, 0, none⟩) 2 2] 22)) := (((((((Below.refl w.heap.size w).alloc (Nat.le_refl _) (.cells #[.int .i64 1, .int .i64 2] 3)).alloc (by simp; try omega) (.cells #[.int .i64 2, .int .i64 4] 3)).alloc (by simp; try omega) (.cells #[.slice (some ⟨w.heap.size, 0, none⟩) 2 2, .slice (some ⟨w.heap.size + 1, 0, none⟩) 2 2] 22)).alloc (by simp; try omega) (.cells #[.int .i64 1, .int .i64 2] 3)).alloc (by simp; try omega) (.cells #[.int .i64 3, .int .i64 4] 3)).alloc (by simp; try omega) (.cells #[.slice (some ⟨w.heap.size + 1 + 1 + 1, 0, none⟩) 2 2, .slice (some ⟨w.heap.size + 1 + 1 + 1 + 1, 0, none⟩) 2 2] 22))
 generalize ((((((w.alloc (.cells #[.int .i64 1, .int .i64 2] 3)).alloc (.cells #[.int .i64 2, .int .i64 4] 3)).alloc (.cells #[.slice (some ⟨w.heap.size, 0, none⟩) 2 2, .slice (some ⟨w.heap.size + 1, 0, none⟩) 2 2] 22)).alloc (.cells #[.int .i64 1, .int .i64 2] 3)).alloc (.cells #[.int .i64 3, .int .i64 4] 3)).alloc (.cells #[.slice (some ⟨w.heap.size + 1 + 1 + 1, 0, none⟩) 2 2, .slice (some ⟨w.heap.size + 1 + 1 + 1 + 1, 0, none⟩) 2 2] 22)) = w1 at *
 generalize hfb : w.heap.size + 1 + 1 = fb at *
 generalize hsb : w.heap.size + 1 + 1 + 1 + 1 + 1 = sb at *
 clear hfb hsb
 refine Calls.mono (callv (matrix_Rank 2 HF.out (fun h => rank_fine h)) (show _ = Value.tuple #[.int .i64 1, .int .i64 0] by rw [v_flat.1, v_flat.2]; rfl)) ?_
 rintro e w2 ⟨rfl, hbx⟩
 have HF' := Lib.hid (HF.out.below hbx)
 clear HF
 have HF := HF'
 clear HF'
 have HS' := Lib.hid (HS.out.below hbx)
 clear HS
 have HS := HS'
 clear HS'
 have hw' : Below w.heap.size w w2 := hw.trans (hbx.mono hw.size)
 clear hw hbx
 have hw := hw'
 clear hw'
 go_wp2_with fail
 refine Calls.mono (callv (matrix_Rank 2 HS.out (fun h => rank_fine h)) (show _ = Value.tuple #[.int .i64 2, .int .i64 0] by rw [v_square.1, v_square.2]; rfl)) ?_
 rintro e w3 ⟨rfl, hbx⟩
 have HF' := Lib.hid (HF.out.below hbx)
 clear HF
 have HF := HF'
 clear HF'
 have HS' := Lib.hid (HS.out.below hbx)
 clear HS
 have HS := HS'
 clear HS'
 have hw' : Below w.heap.size w w3 := hw.trans (hbx.mono hw.size)
 clear hw hbx
 have hw := hw'
 clear hw'
 go_wp2_with fail
 refine Calls.mono (callv (matrix_Rank 0 (rows_none _) (fun h => rank_fine h)) (show _ = Value.tuple #[.int .i64 0, .int .i64 0] by rw [v_nil.1, v_nil.2]; rfl)) ?_
 rintro e w4 ⟨rfl, hbx⟩
 have HF' := Lib.hid (HF.out.below hbx)
 clear HF
 have HF := HF'
 clear HF'
 have HS' := Lib.hid (HS.out.below hbx)
 clear HS
 have HS := HS'
 clear HS'
 have hw' : Below w.heap.size w w4 := hw.trans (hbx.mono hw.size)
 clear hw hbx
 have hw := hw'
 clear hw'
 have HRo : Own (((w4.alloc (.cells #[] 3)).alloc (.cells #[] 3)).alloc (.cells #[.slice (some ⟨w4.heap.size, 0, none⟩) 0 0, .slice (some ⟨w4.heap.size + 1, 0, none⟩) 0 0] 22)) (w4.heap.size + 1 + 1) #[.slice (some ⟨w4.heap.size, 0, none⟩) 0 0, .slice (some ⟨w4.heap.size + 1, 0, none⟩) 0 0] := (by repeat' (first | ((refine Own.new ?_); (focus (first | rfl | omega | (simp; done) | (simp; omega)))) | assumption | refine Own.alloc ?_ _ | refine Own.drew ?_ | (refine Own.far ?_ ?_ _; rotate_left; (focus (first | rfl | omega | (simp; done) | (simp; omega))))))
 have HR0 : IntsAt (((w4.alloc (.cells #[] 3)).alloc (.cells #[] 3)).alloc (.cells #[.slice (some ⟨w4.heap.size, 0, none⟩) 0 0, .slice (some ⟨w4.heap.size + 1, 0, none⟩) 0 0] 22)) (some ⟨w4.heap.size, 0, none⟩) 0 [] := ints_lit (cs := #[]) (by repeat' (first | ((refine Own.new ?_); (focus (first | rfl | omega | (simp; done) | (simp; omega)))) | assumption | refine Own.alloc ?_ _ | refine Own.drew ?_ | (refine Own.far ?_ ?_ _; rotate_left; (focus (first | rfl | omega | (simp; done) | (simp; omega)))))) rfl rfl (by unfold I64L; decide)
 have HR1 : IntsAt (((w4.alloc (.cells #[] 3)).alloc (.cells #[] 3)).alloc (.cells #[.slice (some ⟨w4.heap.size, 0, none⟩) 0 0, .slice (some ⟨w4.heap.size + 1, 0, none⟩) 0 0] 22)) (some ⟨w4.heap.size + 1, 0, none⟩) 0 [] := ints_lit (cs := #[]) (by repeat' (first | ((refine Own.new ?_); (focus (first | rfl | omega | (simp; done) | (simp; omega)))) | assumption | refine Own.alloc ?_ _ | refine Own.drew ?_ | (refine Own.far ?_ ?_ _; rotate_left; (focus (first | rfl | omega | (simp; done) | (simp; omega)))))) rfl rfl (by unfold I64L; decide)
 have HR : RowsAt (((w4.alloc (.cells #[] 3)).alloc (.cells #[] 3)).alloc (.cells #[.slice (some ⟨w4.heap.size, 0, none⟩) 0 0, .slice (some ⟨w4.heap.size + 1, 0, none⟩) 0 0] 22)) (some ⟨w4.heap.size + 1 + 1, 0, none⟩) 2 [[], []] := rows_two HRo (by omega) (by omega) HR0 (by omega) (by omega) HR1
 clear HRo HR0 HR1
 replace HR := Lib.hid HR
 go_wp2_with fail
 have hal : Below w4.heap.size w4 (((w4.alloc (.cells #[] 3)).alloc (.cells #[] 3)).alloc (.cells #[.slice (some ⟨w4.heap.size, 0, none⟩) 0 0, .slice (some ⟨w4.heap.size + 1, 0, none⟩) 0 0] 22)) := ((((Below.refl w4.heap.size w4).alloc (Nat.le_refl _) (.cells #[] 3)).alloc (by simp; try omega) (.cells #[] 3)).alloc (by simp; try omega) (.cells #[.slice (some ⟨w4.heap.size, 0, none⟩) 0 0, .slice (some ⟨w4.heap.size + 1, 0, none⟩) 0 0] 22))
 have HF' := Lib.hid (HF.out.below hal)
 clear HF
 have HF := HF'
 clear HF'
 have HS' := Lib.hid (HS.out.below hal)
 clear HS
 have HS := HS'
 clear HS'
 have hw' := hw.trans (hal.mono hw.size)
 clear hw hal
 have hw := hw'
 clear hw'
 refine Calls.mono (callv (matrix_Rank 2 HR.out (fun h => rank_fine h)) (show _ = Value.tuple #[.int .i64 0, .int .i64 0] by rw [v_empty.1, v_empty.2]; rfl)) ?_
 rintro e w5 ⟨rfl, hbx⟩
 have HF' := Lib.hid (HF.out.below hbx)
 clear HF
 have HF := HF'
 clear HF'
 have HS' := Lib.hid (HS.out.below hbx)
 clear HS
 have HS := HS'
 clear HS'
 have hw' : Below w.heap.size w w5 := hw.trans (hbx.mono hw.size)
 clear hw hbx
 have hw := hw'
 clear hw'
 clear HR
 have HRo : Own (((w5.alloc (.cells #[.int .i64 1, .int .i64 2] 3)).alloc (.cells #[.int .i64 3] 3)).alloc (.cells #[.slice (some ⟨w5.heap.size, 0, none⟩) 2 2, .slice (some ⟨w5.heap.size + 1, 0, none⟩) 1 1] 22)) (w5.heap.size + 1 + 1) #[.slice (some ⟨w5.heap.size, 0, none⟩) 2 2, .slice (some ⟨w5.heap.size + 1, 0, none⟩) 1 1] := (by repeat' (first | ((refine Own.new ?_); (focus (first | rfl | omega | (simp; done) | (simp; omega)))) | assumption | refine Own.alloc ?_ _ | refine Own.drew ?_ | (refine Own.far ?_ ?_ _; rotate_left; (focus (first | rfl | omega | (simp; done) | (simp; omega))))))
 have HR0 : IntsAt (((w5.alloc (.cells #[.int .i64 1, .int .i64 2] 3)).alloc (.cells #[.int .i64 3] 3)).alloc (.cells #[.slice (some ⟨w5.heap.size, 0, none⟩) 2 2, .slice (some ⟨w5.heap.size + 1, 0, none⟩) 1 1] 22)) (some ⟨w5.heap.size, 0, none⟩) 2 [1, 2] := ints_lit (cs := #[.int .i64 1, .int .i64 2]) (by repeat' (first | ((refine Own.new ?_); (focus (first | rfl | omega | (simp; done) | (simp; omega)))) | assumption | refine Own.alloc ?_ _ | refine Own.drew ?_ | (refine Own.far ?_ ?_ _; rotate_left; (focus (first | rfl | omega | (simp; done) | (simp; omega)))))) rfl rfl (by unfold I64L; decide)
 have HR1 : IntsAt (((w5.alloc (.cells #[.int .i64 1, .int .i64 2] 3)).alloc (.cells #[.int .i64 3] 3)).alloc (.cells #[.slice (some ⟨w5.heap.size, 0, none⟩) 2 2, .slice (some ⟨w5.heap.size + 1, 0, none⟩) 1 1] 22)) (some ⟨w5.heap.size + 1, 0, none⟩) 1 [3] := ints_lit (cs := #[.int .i64 3]) (by repeat' (first | ((refine Own.new ?_); (focus (first | rfl | omega | (simp; done) | (simp; omega)))) | assumption | refine Own.alloc ?_ _ | refine Own.drew ?_ | (refine Own.far ?_ ?_ _; rotate_left; (focus (first | rfl | omega | (simp; done) | (simp; omega)))))) rfl rfl (by unfold I64L; decide)
 have HR : RowsAt (((w5.alloc (.cells #[.int .i64 1, .int .i64 2] 3)).alloc (.cells #[.int .i64 3] 3)).alloc (.cells #[.slice (some ⟨w5.heap.size, 0, none⟩) 2 2, .slice (some ⟨w5.heap.size + 1, 0, none⟩) 1 1] 22)) (some ⟨w5.heap.size + 1 + 1, 0, none⟩) 2 [[1, 2], [3]] := rows_two HRo (by omega) (by omega) HR0 (by omega) (by omega) HR1
 clear HRo HR0 HR1
 replace HR := Lib.hid HR
 go_wp2_with fail
 have hal : Below w5.heap.size w5 (((w5.alloc (.cells #[.int .i64 1, .int .i64 2] 3)).alloc (.cells #[.int .i64 3] 3)).alloc (.cells #[.slice (some ⟨w5.heap.size, 0, none⟩) 2 2, .slice (some ⟨w5.heap.size + 1, 0, none⟩) 1 1] 22)) := ((((Below.refl w5.heap.size w5).alloc (Nat.le_refl _) (.cells #[.int .i64 1, .int .i64 2] 3)).alloc (by simp; try omega) (.cells #[.int .i64 3] 3)).alloc (by simp; try omega) (.cells #[.slice (some ⟨w5.heap.size, 0, none⟩) 2 2, .slice (some ⟨w5.heap.size + 1, 0, none⟩) 1 1] 22))
 have HF' := Lib.hid (HF.out.below hal)
 clear HF
 have HF := HF'
 clear HF'
 have HS' := Lib.hid (HS.out.below hal)
 clear HS
 have HS := HS'
 clear HS'
 have hw' := hw.trans (hal.mono hw.size)
 clear hw hal
 have hw := hw'
 clear hw'
 refine Calls.mono (callv (matrix_Rank 2 HR.out (fun h => rank_fine h)) (show _ = Value.tuple #[.int .i64 0, .int .i64 4] by rw [v_odd.1, v_odd.2]; rfl)) ?_
 rintro e w6 ⟨rfl, hbx⟩
 have HF' := Lib.hid (HF.out.below hbx)
 clear HF
 have HF := HF'
 clear HF'
 have HS' := Lib.hid (HS.out.below hbx)
 clear HS
 have HS := HS'
 clear HS'
 have hw' : Below w.heap.size w w6 := hw.trans (hbx.mono hw.size)
 clear hw hbx
 have hw := hw'
 clear hw'
 clear HR
 have HRo : Own (((w6.alloc (.cells #[.int .i64 1, .int .i64 2, .int .i64 0] 3)).alloc (.cells #[.int .i64 2, .int .i64 4, .int .i64 1] 3)).alloc (.cells #[.slice (some ⟨w6.heap.size, 0, none⟩) 3 3, .slice (some ⟨w6.heap.size + 1, 0, none⟩) 3 3] 22)) (w6.heap.size + 1 + 1) #[.slice (some ⟨w6.heap.size, 0, none⟩) 3 3, .slice (some ⟨w6.heap.size + 1, 0, none⟩) 3 3] := (by repeat' (first | ((refine Own.new ?_); (focus (first | rfl | omega | (simp; done) | (simp; omega)))) | assumption | refine Own.alloc ?_ _ | refine Own.drew ?_ | (refine Own.far ?_ ?_ _; rotate_left; (focus (first | rfl | omega | (simp; done) | (simp; omega))))))
 have HR0 : IntsAt (((w6.alloc (.cells #[.int .i64 1, .int .i64 2, .int .i64 0] 3)).alloc (.cells #[.int .i64 2, .int .i64 4, .int .i64 1] 3)).alloc (.cells #[.slice (some ⟨w6.heap.size, 0, none⟩) 3 3, .slice (some ⟨w6.heap.size + 1, 0, none⟩) 3 3] 22)) (some ⟨w6.heap.size, 0, none⟩) 3 [1, 2, 0] := ints_lit (cs := #[.int .i64 1, .int .i64 2, .int .i64 0]) (by repeat' (first | ((refine Own.new ?_); (focus (first | rfl | omega | (simp; done) | (simp; omega)))) | assumption | refine Own.alloc ?_ _ | refine Own.drew ?_ | (refine Own.far ?_ ?_ _; rotate_left; (focus (first | rfl | omega | (simp; done) | (simp; omega)))))) rfl rfl (by unfold I64L; decide)
 have HR1 : IntsAt (((w6.alloc (.cells #[.int .i64 1, .int .i64 2, .int .i64 0] 3)).alloc (.cells #[.int .i64 2, .int .i64 4, .int .i64 1] 3)).alloc (.cells #[.slice (some ⟨w6.heap.size, 0, none⟩) 3 3, .slice (some ⟨w6.heap.size + 1, 0, none⟩) 3 3] 22)) (some ⟨w6.heap.size + 1, 0, none⟩) 3 [2, 4, 1] := ints_lit (cs := #[.int .i64 2, .int .i64 4, .int .i64 1]) (by repeat' (first | ((refine Own.new ?_); (focus (first | rfl | omega | (simp; done) | (simp; omega)))) | assumption | refine Own.alloc ?_ _ | refine Own.drew ?_ | (refine Own.far ?_ ?_ _; rotate_left; (focus (first | rfl | omega | (simp; done) | (simp; omega)))))) rfl rfl (by unfold I64L; decide)
 have HR : RowsAt (((w6.alloc (.cells #[.int .i64 1, .int .i64 2, .int .i64 0] 3)).alloc (.cells #[.int .i64 2, .int .i64 4, .int .i64 1] 3)).alloc (.cells #[.slice (some ⟨w6.heap.size, 0, none⟩) 3 3, .slice (some ⟨w6.heap.size + 1, 0, none⟩) 3 3] 22)) (some ⟨w6.heap.size + 1 + 1, 0, none⟩) 2 kernM1 := rows_two HRo (by omega) (by omega) HR0 (by omega) (by omega) HR1
 clear HRo HR0 HR1
 replace HR := Lib.hid HR
 obtain ⟨xk, hxk⟩ := kern_fine (M := kernM1)
 have hq := matrix_Kernel 2 HR.out hxk
 rw [v_k1.1] at hq
 have hz := kern_one v_k1.1 v_k1.2.1 (by rw [v_k1.2.2.1]; omega) hxk v_k1.2.2.2
 rw [v_k1.2.1, v_k1.2.2.1, hz, z_k1] at hq
 clear hz
 have HQ := Lib.hid hq
 clear hq hxk
 go_wp2_with fail
 have hal : Below w6.heap.size w6 (((w6.alloc (.cells #[.int .i64 1, .int .i64 2, .int .i64 0] 3)).alloc (.cells #[.int .i64 2, .int .i64 4, .int .i64 1] 3)).alloc (.cells #[.slice (some ⟨w6.heap.size, 0, none⟩) 3 3, .slice (some ⟨w6.heap.size + 1, 0, none⟩) 3 3] 22)) := ((((Below.refl w6.heap.size w6).alloc (Nat.le_refl _) (.cells #[.int .i64 1, .int .i64 2, .int .i64 0] 3)).alloc (by simp; try omega) (.cells #[.int .i64 2, .int .i64 4, .int .i64 1] 3)).alloc (by simp; try omega) (.cells #[.slice (some ⟨w6.heap.size, 0, none⟩) 3 3, .slice (some ⟨w6.heap.size + 1, 0, none⟩) 3 3] 22))
 have HF' := Lib.hid (HF.out.below hal)
 clear HF
 have HF := HF'
 clear HF'
 have HS' := Lib.hid (HS.out.below hal)
 clear HS
 have HS := HS'
 clear HS'
 have hw' := hw.trans (hal.mono hw.size)
 clear hw hal
 have hw := hw'
 clear hw'
 refine Calls.mono (HQ.out) ?_
 rintro e w7 ⟨⟨v, rfl, hv⟩, hbx⟩
 have HF' := Lib.hid (HF.out.below hbx)
 clear HF
 have HF := HF'
 clear HF'
 have HS' := Lib.hid (HS.out.below hbx)
 clear HS
 have HS := HS'
 clear HS'
 obtain ⟨Ai, ci, rfl, _, _, _, hxi⟩ : RowV (fun _ => True) v [(-2), 1, 0] w7 := by
  rcases hv with ⟨h, _⟩ | ⟨_, _, h⟩
  ·exact absurd ⟨trivial, by omega⟩ h
  ·exact h
 have Ki := Lib.hid hxi
 clear hv hxi
 simp only [List.length_cons, List.length_nil] at Ki ⊢
 have hw' : Below w.heap.size w w7 := hw.trans (hbx.mono hw.size)
 clear hw hbx
 have hw := hw'
 clear hw'
 clear HR HQ xk
 have HRo : Own ((w7.alloc (.cells #[.int .i64 2, .int .i64 3] 3)).alloc (.cells #[.slice (some ⟨w7.heap.size, 0, none⟩) 2 2] 22)) (w7.heap.size + 1) #[.slice (some ⟨w7.heap.size, 0, none⟩) 2 2] := (by repeat' (first | ((refine Own.new ?_); (focus (first | rfl | omega | (simp; done) | (simp; omega)))) | assumption | refine Own.alloc ?_ _ | refine Own.drew ?_ | (refine Own.far ?_ ?_ _; rotate_left; (focus (first | rfl | omega | (simp; done) | (simp; omega))))))
 have HR0 : IntsAt ((w7.alloc (.cells #[.int .i64 2, .int .i64 3] 3)).alloc (.cells #[.slice (some ⟨w7.heap.size, 0, none⟩) 2 2] 22)) (some ⟨w7.heap.size, 0, none⟩) 2 [2, 3] := ints_lit (cs := #[.int .i64 2, .int .i64 3]) (by repeat' (first | ((refine Own.new ?_); (focus (first | rfl | omega | (simp; done) | (simp; omega)))) | assumption | refine Own.alloc ?_ _ | refine Own.drew ?_ | (refine Own.far ?_ ?_ _; rotate_left; (focus (first | rfl | omega | (simp; done) | (simp; omega)))))) rfl rfl (by unfold I64L; decide)
 have HR : RowsAt ((w7.alloc (.cells #[.int .i64 2, .int .i64 3] 3)).alloc (.cells #[.slice (some ⟨w7.heap.size, 0, none⟩) 2 2] 22)) (some ⟨w7.heap.size + 1, 0, none⟩) 1 kernM2 := rows_one HRo (by omega) (by omega) HR0
 clear HRo HR0
 replace HR := Lib.hid HR
 obtain ⟨xk, hxk⟩ := kern_fine (M := kernM2)
 have hq := matrix_Kernel 1 HR.out hxk
 rw [v_k2.1] at hq
 have hz := kern_one v_k2.1 v_k2.2.1 (by rw [v_k2.2.2.1]; omega) hxk v_k2.2.2.2
 rw [v_k2.2.1, v_k2.2.2.1, hz, z_k2] at hq
 clear hz
 have HQ := Lib.hid hq
 clear hq hxk
 go_wp2_with fail
 have hal : Below w7.heap.size w7 ((w7.alloc (.cells #[.int .i64 2, .int .i64 3] 3)).alloc (.cells #[.slice (some ⟨w7.heap.size, 0, none⟩) 2 2] 22)) := (((Below.refl w7.heap.size w7).alloc (Nat.le_refl _) (.cells #[.int .i64 2, .int .i64 3] 3)).alloc (by simp; try omega) (.cells #[.slice (some ⟨w7.heap.size, 0, none⟩) 2 2] 22))
 have HF' := Lib.hid (HF.out.below hal)
 clear HF
 have HF := HF'
 clear HF'
 have HS' := Lib.hid (HS.out.below hal)
 clear HS
 have HS := HS'
 clear HS'
 have Ki' := Lib.hid (Ki.out.below hal)
 clear Ki
 have Ki := Ki'
 clear Ki'
 have hw' := hw.trans (hal.mono hw.size)
 clear hw hal
 have hw := hw'
 clear hw'
 refine Calls.mono (HQ.out) ?_
 rintro e w8 ⟨⟨v, rfl, hv⟩, hbx⟩
 have HF' := Lib.hid (HF.out.below hbx)
 clear HF
 have HF := HF'
 clear HF'
 have HS' := Lib.hid (HS.out.below hbx)
 clear HS
 have HS := HS'
 clear HS'
 have Ki' := Lib.hid (Ki.out.below hbx)
 clear Ki
 have Ki := Ki'
 clear Ki'
 obtain ⟨Aj, cj, rfl, _, _, _, hxj⟩ : RowV (fun _ => True) v [(-3), 2] w8 := by
  rcases hv with ⟨h, _⟩ | ⟨_, _, h⟩
  ·exact absurd ⟨trivial, by omega⟩ h
  ·exact h
 have Kj := Lib.hid hxj
 clear hv hxj
 simp only [List.length_cons, List.length_nil] at Kj ⊢
 have hw' : Below w.heap.size w w8 := hw.trans (hbx.mono hw.size)
 clear hw hbx
 have hw := hw'
 clear hw'
 clear HR HQ xk
 have HRo : Own ((w8.alloc (.cells #[.int .i64 0, .int .i64 5] 3)).alloc (.cells #[.slice (some ⟨w8.heap.size, 0, none⟩) 2 2] 22)) (w8.heap.size + 1) #[.slice (some ⟨w8.heap.size, 0, none⟩) 2 2] := (by repeat' (first | ((refine Own.new ?_); (focus (first | rfl | omega | (simp; done) | (simp; omega)))) | assumption | refine Own.alloc ?_ _ | refine Own.drew ?_ | (refine Own.far ?_ ?_ _; rotate_left; (focus (first | rfl | omega | (simp; done) | (simp; omega))))))
 have HR0 : IntsAt ((w8.alloc (.cells #[.int .i64 0, .int .i64 5] 3)).alloc (.cells #[.slice (some ⟨w8.heap.size, 0, none⟩) 2 2] 22)) (some ⟨w8.heap.size, 0, none⟩) 2 [0, 5] := ints_lit (cs := #[.int .i64 0, .int .i64 5]) (by repeat' (first | ((refine Own.new ?_); (focus (first | rfl | omega | (simp; done) | (simp; omega)))) | assumption | refine Own.alloc ?_ _ | refine Own.drew ?_ | (refine Own.far ?_ ?_ _; rotate_left; (focus (first | rfl | omega | (simp; done) | (simp; omega)))))) rfl rfl (by unfold I64L; decide)
 have HR : RowsAt ((w8.alloc (.cells #[.int .i64 0, .int .i64 5] 3)).alloc (.cells #[.slice (some ⟨w8.heap.size, 0, none⟩) 2 2] 22)) (some ⟨w8.heap.size + 1, 0, none⟩) 1 kernM3 := rows_one HRo (by omega) (by omega) HR0
 clear HRo HR0
 replace HR := Lib.hid HR
 obtain ⟨xk, hxk⟩ := kern_fine (M := kernM3)
 have hq := matrix_Kernel 1 HR.out hxk
 rw [v_k3.1] at hq
 have hz : kernQ xk 0 = kernQ (fun _ => ((0, 1) : QI)) 0 := kern_none
 rw [v_k3.2.1, v_k3.2.2, hz, z_k3] at hq
 clear hz
 have HQ := Lib.hid hq
 clear hq hxk
 go_wp2_with fail
 have hal : Below w8.heap.size w8 ((w8.alloc (.cells #[.int .i64 0, .int .i64 5] 3)).alloc (.cells #[.slice (some ⟨w8.heap.size, 0, none⟩) 2 2] 22)) := (((Below.refl w8.heap.size w8).alloc (Nat.le_refl _) (.cells #[.int .i64 0, .int .i64 5] 3)).alloc (by simp; try omega) (.cells #[.slice (some ⟨w8.heap.size, 0, none⟩) 2 2] 22))
 have HF' := Lib.hid (HF.out.below hal)
 clear HF
 have HF := HF'
 clear HF'
 have HS' := Lib.hid (HS.out.below hal)
 clear HS
 have HS := HS'
 clear HS'
 have Ki' := Lib.hid (Ki.out.below hal)
 clear Ki
 have Ki := Ki'
 clear Ki'
 have Kj' := Lib.hid (Kj.out.below hal)
 clear Kj
 have Kj := Kj'
 clear Kj'
 have hw' := hw.trans (hal.mono hw.size)
 clear hw hal
 have hw := hw'
 clear hw'
 refine Calls.mono (HQ.out) ?_
 rintro e w9 ⟨⟨v, rfl, hv⟩, hbx⟩
 have HF' := Lib.hid (HF.out.below hbx)
 clear HF
 have HF := HF'
 clear HF'
 have HS' := Lib.hid (HS.out.below hbx)
 clear HS
 have HS := HS'
 clear HS'
 have Ki' := Lib.hid (Ki.out.below hbx)
 clear Ki
 have Ki := Ki'
 clear Ki'
 have Kj' := Lib.hid (Kj.out.below hbx)
 clear Kj
 have Kj := Kj'
 clear Kj'
 obtain ⟨Ak, ck, rfl, _, _, _, hxk⟩ : RowV (fun _ => True) v [1, 0] w9 := by
  rcases hv with ⟨h, _⟩ | ⟨_, _, h⟩
  ·exact absurd ⟨trivial, by omega⟩ h
  ·exact h
 have Kk := Lib.hid hxk
 clear hv hxk
 simp only [List.length_cons, List.length_nil] at Kk ⊢
 have hw' : Below w.heap.size w w9 := hw.trans (hbx.mono hw.size)
 clear hw hbx
 have hw := hw'
 clear hw'
 clear HR HQ xk
 obtain ⟨xk, hxk⟩ := kern_fine (M := squareM)
 have hq := matrix_Kernel 2 HS.out hxk
 rw [v_k4.1, v_k4.2.1, v_k4.2.2] at hq
 have HQ := Lib.hid hq
 clear hq hxk
 go_wp2_with fail
 refine Calls.mono (HQ.out) ?_
 rintro e w10 ⟨⟨v, rfl, hv⟩, hbx⟩
 have HF' := Lib.hid (HF.out.below hbx)
 clear HF
 have HF := HF'
 clear HF'
 have HS' := Lib.hid (HS.out.below hbx)
 clear HS
 have HS := HS'
 clear HS'
 have Ki' := Lib.hid (Ki.out.below hbx)
 clear Ki
 have Ki := Ki'
 clear Ki'
 have Kj' := Lib.hid (Kj.out.below hbx)
 clear Kj
 have Kj := Kj'
 clear Kj'
 have Kk' := Lib.hid (Kk.out.below hbx)
 clear Kk
 have Kk := Kk'
 clear Kk'
 obtain rfl : v = .slice none 0 0 := by
  rcases hv with ⟨_, h⟩ | ⟨_, h, _⟩
  ·exact h
  ·omega
 clear hv
 have hw' : Below w.heap.size w w10 := hw.trans (hbx.mono hw.size)
 clear hw hbx
 have hw := hw'
 clear hw'
 clear HQ xk
 have HI : IntsAt (w10.alloc (.cells #[.int .i64 (-2), .int .i64 1, .int .i64 0] 3)) (some ⟨w10.heap.size, 0, none⟩) 3 [(-2), 1, 0] := ints_lit (cs := #[.int .i64 (-2), .int .i64 1, .int .i64 0]) (by repeat' (first | ((refine Own.new ?_); (focus (first | rfl | omega | (simp; done) | (simp; omega)))) | assumption | refine Own.alloc ?_ _ | refine Own.drew ?_ | (refine Own.far ?_ ?_ _; rotate_left; (focus (first | rfl | omega | (simp; done) | (simp; omega)))))) rfl rfl (by unfold I64L; decide)
 replace HI := Lib.hid HI
 go_wp2_with fail
 have hal : Below w10.heap.size w10 (w10.alloc (.cells #[.int .i64 (-2), .int .i64 1, .int .i64 0] 3)) := ((Below.refl w10.heap.size w10).alloc (Nat.le_refl _) (.cells #[.int .i64 (-2), .int .i64 1, .int .i64 0] 3))
 have HF' := Lib.hid (HF.out.below hal)
 clear HF
 have HF := HF'
 clear HF'
 have HS' := Lib.hid (HS.out.below hal)
 clear HS
 have HS := HS'
 clear HS'
 have Ki' := Lib.hid (Ki.out.below hal)
 clear Ki
 have Ki := Ki'
 clear Ki'
 have Kj' := Lib.hid (Kj.out.below hal)
 clear Kj
 have Kj := Kj'
 clear Kj'
 have Kk' := Lib.hid (Kk.out.below hal)
 clear Kk
 have Kk := Kk'
 clear Kk'
 have hw' := hw.trans (hal.mono hw.size)
 clear hw hal
 have hw := hw'
 clear hw'
 refine Calls.mono (law05_nums ci 3 Ki.out HI.out (by omega)) ?_
 rintro e w11 ⟨rfl, hbx⟩
 have HF' := Lib.hid (HF.out.below hbx)
 clear HF
 have HF := HF'
 clear HF'
 have HS' := Lib.hid (HS.out.below hbx)
 clear HS
 have HS := HS'
 clear HS'
 have Ki' := Lib.hid (Ki.out.below hbx)
 clear Ki
 have Ki := Ki'
 clear Ki'
 have Kj' := Lib.hid (Kj.out.below hbx)
 clear Kj
 have Kj := Kj'
 clear Kj'
 have Kk' := Lib.hid (Kk.out.below hbx)
 clear Kk
 have Kk := Kk'
 clear Kk'
 have hw' : Below w.heap.size w w11 := hw.trans (hbx.mono hw.size)
 clear hw hbx
 have hw := hw'
 clear hw'
 clear HI Ki
 have HI : IntsAt (w11.alloc (.cells #[.int .i64 (-3), .int .i64 2] 3)) (some ⟨w11.heap.size, 0, none⟩) 2 [(-3), 2] := ints_lit (cs := #[.int .i64 (-3), .int .i64 2]) (by repeat' (first | ((refine Own.new ?_); (focus (first | rfl | omega | (simp; done) | (simp; omega)))) | assumption | refine Own.alloc ?_ _ | refine Own.drew ?_ | (refine Own.far ?_ ?_ _; rotate_left; (focus (first | rfl | omega | (simp; done) | (simp; omega)))))) rfl rfl (by unfold I64L; decide)
 replace HI := Lib.hid HI
 go_wp2_with fail
 have hal : Below w11.heap.size w11 (w11.alloc (.cells #[.int .i64 (-3), .int .i64 2] 3)) := ((Below.refl w11.heap.size w11).alloc (Nat.le_refl _) (.cells #[.int .i64 (-3), .int .i64 2] 3))
 have HF' := Lib.hid (HF.out.below hal)
 clear HF
 have HF := HF'
 clear HF'
 have HS' := Lib.hid (HS.out.below hal)
 clear HS
 have HS := HS'
 clear HS'
 have Kj' := Lib.hid (Kj.out.below hal)
 clear Kj
 have Kj := Kj'
 clear Kj'
 have Kk' := Lib.hid (Kk.out.below hal)
 clear Kk
 have Kk := Kk'
 clear Kk'
 have hw' := hw.trans (hal.mono hw.size)
 clear hw hal
 have hw := hw'
 clear hw'
 refine Calls.mono (law05_nums cj 2 Kj.out HI.out (by omega)) ?_
 rintro e w12 ⟨rfl, hbx⟩
 have HF' := Lib.hid (HF.out.below hbx)
 clear HF
 have HF := HF'
 clear HF'
 have HS' := Lib.hid (HS.out.below hbx)
 clear HS
 have HS := HS'
 clear HS'
 have Kj' := Lib.hid (Kj.out.below hbx)
 clear Kj
 have Kj := Kj'
 clear Kj'
 have Kk' := Lib.hid (Kk.out.below hbx)
 clear Kk
 have Kk := Kk'
 clear Kk'
 have hw' : Below w.heap.size w w12 := hw.trans (hbx.mono hw.size)
 clear hw hbx
 have hw := hw'
 clear hw'
 clear HI Kj
 have HI : IntsAt (w12.alloc (.cells #[.int .i64 1, .int .i64 0] 3)) (some ⟨w12.heap.size, 0, none⟩) 2 [1, 0] := ints_lit (cs := #[.int .i64 1, .int .i64 0]) (by repeat' (first | ((refine Own.new ?_); (focus (first | rfl | omega | (simp; done) | (simp; omega)))) | assumption | refine Own.alloc ?_ _ | refine Own.drew ?_ | (refine Own.far ?_ ?_ _; rotate_left; (focus (first | rfl | omega | (simp; done) | (simp; omega)))))) rfl rfl (by unfold I64L; decide)
 replace HI := Lib.hid HI
 go_wp2_with fail
 have hal : Below w12.heap.size w12 (w12.alloc (.cells #[.int .i64 1, .int .i64 0] 3)) := ((Below.refl w12.heap.size w12).alloc (Nat.le_refl _) (.cells #[.int .i64 1, .int .i64 0] 3))
 have HF' := Lib.hid (HF.out.below hal)
 clear HF
 have HF := HF'
 clear HF'
 have HS' := Lib.hid (HS.out.below hal)
 clear HS
 have HS := HS'
 clear HS'
 have Kk' := Lib.hid (Kk.out.below hal)
 clear Kk
 have Kk := Kk'
 clear Kk'
 have hw' := hw.trans (hal.mono hw.size)
 clear hw hal
 have hw := hw'
 clear hw'
 refine Calls.mono (law05_nums ck 2 Kk.out HI.out (by omega)) ?_
 rintro e w13 ⟨rfl, hbx⟩
 have HF' := Lib.hid (HF.out.below hbx)
 clear HF
 have HF := HF'
 clear HF'
 have HS' := Lib.hid (HS.out.below hbx)
 clear HS
 have HS := HS'
 clear HS'
 have Kk' := Lib.hid (Kk.out.below hbx)
 clear Kk
 have Kk := Kk'
 clear Kk'
 have hw' : Below w.heap.size w w13 := hw.trans (hbx.mono hw.size)
 clear hw hbx
 have hw := hw'
 clear hw'
 clear HI Kk
 obtain ⟨xs, hxs⟩ := solve_all squareM [5, 6]
 have HI : IntsAt (w13.alloc (.cells #[.int .i64 5, .int .i64 6] 3)) (some ⟨w13.heap.size, 0, none⟩) 2 [5, 6] := ints_lit (cs := #[.int .i64 5, .int .i64 6]) (by repeat' (first | ((refine Own.new ?_); (focus (first | rfl | omega | (simp; done) | (simp; omega)))) | assumption | refine Own.alloc ?_ _ | refine Own.drew ?_ | (refine Own.far ?_ ?_ _; rotate_left; (focus (first | rfl | omega | (simp; done) | (simp; omega)))))) rfl rfl (by unfold I64L; decide)
 replace HI := Lib.hid HI
 have hal : Below w13.heap.size w13 (w13.alloc (.cells #[.int .i64 5, .int .i64 6] 3)) := ((Below.refl w13.heap.size w13).alloc (Nat.le_refl _) (.cells #[.int .i64 5, .int .i64 6] 3))
 have hq := matrix_Solve 2 2 (HS.out.below hal) HI.out hxs
 rw [v_s1.1] at hq
 have HQ := Lib.hid hq
 have HXS := Lib.hid (solve_want hxs)
 clear hq hxs hal
 go_wp2_with fail
 have hal : Below w13.heap.size w13 (w13.alloc (.cells #[.int .i64 5, .int .i64 6] 3)) := ((Below.refl w13.heap.size w13).alloc (Nat.le_refl _) (.cells #[.int .i64 5, .int .i64 6] 3))
 have HF' := Lib.hid (HF.out.below hal)
 clear HF
 have HF := HF'
 clear HF'
 have HS' := Lib.hid (HS.out.below hal)
 clear HS
 have HS := HS'
 clear HS'
 have hw' := hw.trans (hal.mono hw.size)
 clear hw hal
 have hw := hw'
 clear hw'
 refine Calls.mono (HQ.out) ?_
 rintro e w14 ⟨⟨v, rfl, hv⟩, hbx⟩
 have HF' := Lib.hid (HF.out.below hbx)
 clear HF
 have HF := HF'
 clear HF'
 have HS' := Lib.hid (HS.out.below hbx)
 clear HS
 have HS := HS'
 clear HS'
 obtain ⟨bk, rfl, hx⟩ : ∃ bk, v = .slice (some ⟨bk, 0, none⟩) 2 2 ∧ RatsA w14 (some ⟨bk, 0, none⟩) 2 wantQ := by
  rcases hv with ⟨h, _⟩ | ⟨_, bk, h1, _, h2⟩
  ·exact absurd rfl h
  ·exact ⟨bk, h1, h2.rats.congr HXS.out⟩
 have KX := Lib.hid hx
 clear hv hx
 have hw' : Below w.heap.size w w14 := hw.trans (hbx.mono hw.size)
 clear hw hbx
 have hw := hw'
 clear hw'
 clear HI HQ HXS xs
 obtain ⟨xs, hxs⟩ := solve_all flatM [1, 2]
 have HI : IntsAt (w14.alloc (.cells #[.int .i64 1, .int .i64 2] 3)) (some ⟨w14.heap.size, 0, none⟩) 2 [1, 2] := ints_lit (cs := #[.int .i64 1, .int .i64 2]) (by repeat' (first | ((refine Own.new ?_); (focus (first | rfl | omega | (simp; done) | (simp; omega)))) | assumption | refine Own.alloc ?_ _ | refine Own.drew ?_ | (refine Own.far ?_ ?_ _; rotate_left; (focus (first | rfl | omega | (simp; done) | (simp; omega)))))) rfl rfl (by unfold I64L; decide)
 replace HI := Lib.hid HI
 have hal : Below w14.heap.size w14 (w14.alloc (.cells #[.int .i64 1, .int .i64 2] 3)) := ((Below.refl w14.heap.size w14).alloc (Nat.le_refl _) (.cells #[.int .i64 1, .int .i64 2] 3))
 have hq := matrix_Solve 2 2 (HF.out.below hal) HI.out hxs
 rw [v_s2] at hq
 have HQ := Lib.hid hq
 clear hq hxs hal
 go_wp2_with fail
 have hal : Below w14.heap.size w14 (w14.alloc (.cells #[.int .i64 1, .int .i64 2] 3)) := ((Below.refl w14.heap.size w14).alloc (Nat.le_refl _) (.cells #[.int .i64 1, .int .i64 2] 3))
 have HF' := Lib.hid (HF.out.below hal)
 clear HF
 have HF := HF'
 clear HF'
 have HS' := Lib.hid (HS.out.below hal)
 clear HS
 have HS := HS'
 clear HS'
 have KX' := Lib.hid (KX.out.below hal)
 clear KX
 have KX := KX'
 clear KX'
 have hw' := hw.trans (hal.mono hw.size)
 clear hw hal
 have hw := hw'
 clear hw'
 refine Calls.mono (HQ.out) ?_
 rintro e w15 ⟨⟨v, rfl, hv⟩, hbx⟩
 have HF' := Lib.hid (HF.out.below hbx)
 clear HF
 have HF := HF'
 clear HF'
 have HS' := Lib.hid (HS.out.below hbx)
 clear HS
 have HS := HS'
 clear HS'
 have KX' := Lib.hid (KX.out.below hbx)
 clear KX
 have KX := KX'
 clear KX'
 obtain rfl : v = .slice none 0 0 := by
  rcases hv with ⟨_, h⟩ | ⟨h, _⟩
  ·exact h
  ·omega
 clear hv
 have hw' : Below w.heap.size w w15 := hw.trans (hbx.mono hw.size)
 clear hw hbx
 have hw := hw'
 clear hw'
 clear HI HQ xs
 obtain ⟨xs, hxs⟩ := solve_all [[1, 2]] [1]
 have HI : IntsAt (((w15.alloc (.cells #[.int .i64 1, .int .i64 2] 3)).alloc (.cells #[.slice (some ⟨w15.heap.size, 0, none⟩) 2 2] 22)).alloc (.cells #[.int .i64 1] 3)) (some ⟨w15.heap.size + 1 + 1, 0, none⟩) 1 [1] := ints_lit (cs := #[.int .i64 1]) (by repeat' (first | ((refine Own.new ?_); (focus (first | rfl | omega | (simp; done) | (simp; omega)))) | assumption | refine Own.alloc ?_ _ | refine Own.drew ?_ | (refine Own.far ?_ ?_ _; rotate_left; (focus (first | rfl | omega | (simp; done) | (simp; omega)))))) rfl rfl (by unfold I64L; decide)
 replace HI := Lib.hid HI
 have HRo : Own (((w15.alloc (.cells #[.int .i64 1, .int .i64 2] 3)).alloc (.cells #[.slice (some ⟨w15.heap.size, 0, none⟩) 2 2] 22)).alloc (.cells #[.int .i64 1] 3)) (w15.heap.size + 1) #[.slice (some ⟨w15.heap.size, 0, none⟩) 2 2] := (by repeat' (first | ((refine Own.new ?_); (focus (first | rfl | omega | (simp; done) | (simp; omega)))) | assumption | refine Own.alloc ?_ _ | refine Own.drew ?_ | (refine Own.far ?_ ?_ _; rotate_left; (focus (first | rfl | omega | (simp; done) | (simp; omega))))))
 have HR0 : IntsAt (((w15.alloc (.cells #[.int .i64 1, .int .i64 2] 3)).alloc (.cells #[.slice (some ⟨w15.heap.size, 0, none⟩) 2 2] 22)).alloc (.cells #[.int .i64 1] 3)) (some ⟨w15.heap.size, 0, none⟩) 2 [1, 2] := ints_lit (cs := #[.int .i64 1, .int .i64 2]) (by repeat' (first | ((refine Own.new ?_); (focus (first | rfl | omega | (simp; done) | (simp; omega)))) | assumption | refine Own.alloc ?_ _ | refine Own.drew ?_ | (refine Own.far ?_ ?_ _; rotate_left; (focus (first | rfl | omega | (simp; done) | (simp; omega)))))) rfl rfl (by unfold I64L; decide)
 have HR : RowsAt (((w15.alloc (.cells #[.int .i64 1, .int .i64 2] 3)).alloc (.cells #[.slice (some ⟨w15.heap.size, 0, none⟩) 2 2] 22)).alloc (.cells #[.int .i64 1] 3)) (some ⟨w15.heap.size + 1, 0, none⟩) 1 [[1, 2]] := rows_one HRo (by omega) (by omega) HR0
 clear HRo HR0
 replace HR := Lib.hid HR
 have hq := matrix_Solve 1 1 HR.out HI.out hxs
 rw [v_s3] at hq
 have HQ := Lib.hid hq
 clear hq hxs
 go_wp2_with fail
 have hal : Below w15.heap.size w15 (((w15.alloc (.cells #[.int .i64 1, .int .i64 2] 3)).alloc (.cells #[.slice (some ⟨w15.heap.size, 0, none⟩) 2 2] 22)).alloc (.cells #[.int .i64 1] 3)) := ((((Below.refl w15.heap.size w15).alloc (Nat.le_refl _) (.cells #[.int .i64 1, .int .i64 2] 3)).alloc (by simp; try omega) (.cells #[.slice (some ⟨w15.heap.size, 0, none⟩) 2 2] 22)).alloc (by simp; try omega) (.cells #[.int .i64 1] 3))
 have HF' := Lib.hid (HF.out.below hal)
 clear HF
 have HF := HF'
 clear HF'
 have HS' := Lib.hid (HS.out.below hal)
 clear HS
 have HS := HS'
 clear HS'
 have KX' := Lib.hid (KX.out.below hal)
 clear KX
 have KX := KX'
 clear KX'
 have hw' := hw.trans (hal.mono hw.size)
 clear hw hal
 have hw := hw'
 clear hw'
 refine Calls.mono (HQ.out) ?_
 rintro e w16 ⟨⟨v, rfl, hv⟩, hbx⟩
 have HF' := Lib.hid (HF.out.below hbx)
 clear HF
 have HF := HF'
 clear HF'
 have HS' := Lib.hid (HS.out.below hbx)
 clear HS
 have HS := HS'
 clear HS'
 have KX' := Lib.hid (KX.out.below hbx)
 clear KX
 have KX := KX'
 clear KX'
 obtain rfl : v = .slice none 0 0 := by
  rcases hv with ⟨_, h⟩ | ⟨h, _⟩
  ·exact h
  ·omega
 clear hv
 have hw' : Below w.heap.size w w16 := hw.trans (hbx.mono hw.size)
 clear hw hbx
 have hw := hw'
 clear hw'
 clear HI HQ xs HR
 go_wp2_with fail
 refine Calls.mono (ref3_Int (-4) (by omega) (by omega)) ?_
 rintro e w17 ⟨⟨s1, A1, n1, c1, s2, A2, n2, c2, rfl, hx⟩, hbx⟩
 have HF' := Lib.hid (HF.out.below hbx)
 clear HF
 have HF := HF'
 clear HF'
 have HS' := Lib.hid (HS.out.below hbx)
 clear HS
 have HS := HS'
 clear HS'
 have KX' := Lib.hid (KX.out.below hbx)
 clear KX
 have KX := KX'
 clear KX'
 have N1 := Lib.hid hx.2.2.1
 have N2 := Lib.hid hx.2.2.2
 clear hx
 have hw' : Below w.heap.size w w17 := hw.trans (hbx.mono hw.size)
 clear hw hbx
 have hw := hw'
 clear hw'
 go_wp2_with fail
 refine Calls.mono (law05_half 9 (by omega) (by omega)) ?_
 rintro e w18 ⟨⟨s3, A3, n3, c3, s4, A4, n4, c4, rfl, hx⟩, hbx⟩
 have HF' := Lib.hid (HF.out.below hbx)
 clear HF
 have HF := HF'
 clear HF'
 have HS' := Lib.hid (HS.out.below hbx)
 clear HS
 have HS := HS'
 clear HS'
 have KX' := Lib.hid (KX.out.below hbx)
 clear KX
 have KX := KX'
 clear KX'
 have N1' := Lib.hid (N1.out.below hbx)
 clear N1
 have N1 := N1'
 clear N1'
 have N2' := Lib.hid (N2.out.below hbx)
 clear N2
 have N2 := N2'
 clear N2'
 have N3 := Lib.hid hx.2.2.1
 have N4 := Lib.hid hx.2.2.2
 clear hx
 have hw' : Below w.heap.size w w18 := hw.trans (hbx.mono hw.size)
 clear hw hbx
 have hw := hw'
 clear hw'
 have hal : Below w18.heap.size w18 (w18.alloc (.cells #[.bool s1, .slice A1 n1 c1, .bool s2, .slice A2 n2 c2, .bool s3, .slice A3 n3 c3, .bool s4, .slice A4 n4 c4] 37)) := ((Below.refl w18.heap.size w18).alloc (Nat.le_refl _) (.cells #[.bool s1, .slice A1 n1 c1, .bool s2, .slice A2 n2 c2, .bool s3, .slice A3 n3 c3, .bool s4, .slice A4 n4 c4] 37))
 have KW0 : RatsA (w18.alloc (.cells #[.bool s1, .slice A1 n1 c1, .bool s2, .slice A2 n2 c2, .bool s3, .slice A3 n3 c3, .bool s4, .slice A4 n4 c4] 37)) (some ⟨w18.heap.size, 0, none⟩) 2 wantQ := rats_two (x := wantQ) ((by repeat' (first | ((refine Own.new ?_); (focus (first | rfl | omega | (simp; done) | (simp; omega)))) | assumption | refine Own.alloc ?_ _ | refine Own.drew ?_ | (refine Own.far ?_ ?_ _; rotate_left; (focus (first | rfl | omega | (simp; done) | (simp; omega)))))) : Own (w18.alloc (.cells #[.bool s1, .slice A1 n1 c1, .bool s2, .slice A2 n2 c2, .bool s3, .slice A3 n3 c3, .bool s4, .slice A4 n4 c4] 37)) (w18.heap.size) #[.bool s1, .slice A1 n1 c1, .bool s2, .slice A2 n2 c2, .bool s3, .slice A3 n3 c3, .bool s4, .slice A4 n4 c4]) (N1.out.below hal) (N2.out.below hal) (N3.out.below hal) (N4.out.below hal)
 have KW := Lib.hid KW0
 clear KW0
 have HQ := Lib.hid (matrix_Times_ok 2 2 (HS.out.below hal) KW.out v_k4.2.2 v_square.2 times_want)
 clear hal N1 N2 N3 N4
 go_wp2_with fail
 have hal : Below w18.heap.size w18 (w18.alloc (.cells #[.bool s1, .slice A1 n1 c1, .bool s2, .slice A2 n2 c2, .bool s3, .slice A3 n3 c3, .bool s4, .slice A4 n4 c4] 37)) := ((Below.refl w18.heap.size w18).alloc (Nat.le_refl _) (.cells #[.bool s1, .slice A1 n1 c1, .bool s2, .slice A2 n2 c2, .bool s3, .slice A3 n3 c3, .bool s4, .slice A4 n4 c4] 37))
 have HF' := Lib.hid (HF.out.below hal)
 clear HF
 have HF := HF'
 clear HF'
 have HS' := Lib.hid (HS.out.below hal)
 clear HS
 have HS := HS'
 clear HS'
 have KX' := Lib.hid (KX.out.below hal)
 clear KX
 have KX := KX'
 clear KX'
 have hw' := hw.trans (hal.mono hw.size)
 clear hw hal
 have hw := hw'
 clear hw'
 refine Calls.mono (HQ.out) ?_
 rintro e w19 ⟨⟨by_, rfl, _, hy⟩, hbx⟩
 have HF' := Lib.hid (HF.out.below hbx)
 clear HF
 have HF := HF'
 clear HF'
 have HS' := Lib.hid (HS.out.below hbx)
 clear HS
 have HS := HS'
 clear HS'
 have KX' := Lib.hid (KX.out.below hbx)
 clear KX
 have KX := KX'
 clear KX'
 have KY := Lib.hid (hy.rats.congr (y := backQ) times_back)
 clear hy
 have KW' := Lib.hid (KW.out.below hbx)
 clear KW
 have KW := KW'
 clear KW'
 have hw' : Below w.heap.size w w19 := hw.trans (hbx.mono hw.size)
 clear hw hbx
 have hw := hw'
 clear hw'
 clear HQ
 go_wp2_with fail
 refine Calls.mono (callv (ref3_SameAll 2 2 KX.out KW.out (by omega)) (congrArg Value.bool (sameA_eq (P := wantQ) (Q := wantQ) 2 (fun _ _ => rfl)))) ?_
 rintro e w20 ⟨rfl, hbx⟩
 have HF' := Lib.hid (HF.out.below hbx)
 clear HF
 have HF := HF'
 clear HF'
 have HS' := Lib.hid (HS.out.below hbx)
 clear HS
 have HS := HS'
 clear HS'
 have KX' := Lib.hid (KX.out.below hbx)
 clear KX
 have KX := KX'
 clear KX'
 have KY' := Lib.hid (KY.out.below hbx)
 clear KY
 have KY := KY'
 clear KY'
 have KW' := Lib.hid (KW.out.below hbx)
 clear KW
 have KW := KW'
 clear KW'
 have hw' : Below w.heap.size w w20 := hw.trans (hbx.mono hw.size)
 clear hw hbx
 have hw := hw'
 clear hw'
 go_wp2_with fail
 refine Calls.mono (ref3_Int 5 (by omega) (by omega)) ?_
 rintro e w21 ⟨⟨s5, A5, n5, c5, s6, A6, n6, c6, rfl, hx⟩, hbx⟩
 have HF' := Lib.hid (HF.out.below hbx)
 clear HF
 have HF := HF'
 clear HF'
 have HS' := Lib.hid (HS.out.below hbx)
 clear HS
 have HS := HS'
 clear HS'
 have KX' := Lib.hid (KX.out.below hbx)
 clear KX
 have KX := KX'
 clear KX'
 have KY' := Lib.hid (KY.out.below hbx)
 clear KY
 have KY := KY'
 clear KY'
 have KW' := Lib.hid (KW.out.below hbx)
 clear KW
 have KW := KW'
 clear KW'
 have N1 := Lib.hid hx.2.2.1
 have N2 := Lib.hid hx.2.2.2
 clear hx
 have hw' : Below w.heap.size w w21 := hw.trans (hbx.mono hw.size)
 clear hw hbx
 have hw := hw'
 clear hw'
 go_wp2_with fail
 refine Calls.mono (ref3_Int 6 (by omega) (by omega)) ?_
 rintro e w22 ⟨⟨s7, A7, n7, c7, s8, A8, n8, c8, rfl, hx⟩, hbx⟩
 have HF' := Lib.hid (HF.out.below hbx)
 clear HF
 have HF := HF'
 clear HF'
 have HS' := Lib.hid (HS.out.below hbx)
 clear HS
 have HS := HS'
 clear HS'
 have KX' := Lib.hid (KX.out.below hbx)
 clear KX
 have KX := KX'
 clear KX'
 have KY' := Lib.hid (KY.out.below hbx)
 clear KY
 have KY := KY'
 clear KY'
 have KW' := Lib.hid (KW.out.below hbx)
 clear KW
 have KW := KW'
 clear KW'
 have N1' := Lib.hid (N1.out.below hbx)
 clear N1
 have N1 := N1'
 clear N1'
 have N2' := Lib.hid (N2.out.below hbx)
 clear N2
 have N2 := N2'
 clear N2'
 have N3 := Lib.hid hx.2.2.1
 have N4 := Lib.hid hx.2.2.2
 clear hx
 have hw' : Below w.heap.size w w22 := hw.trans (hbx.mono hw.size)
 clear hw hbx
 have hw := hw'
 clear hw'
 have hal : Below w22.heap.size w22 (w22.alloc (.cells #[.bool s5, .slice A5 n5 c5, .bool s6, .slice A6 n6 c6, .bool s7, .slice A7 n7 c7, .bool s8, .slice A8 n8 c8] 37)) := ((Below.refl w22.heap.size w22).alloc (Nat.le_refl _) (.cells #[.bool s5, .slice A5 n5 c5, .bool s6, .slice A6 n6 c6, .bool s7, .slice A7 n7 c7, .bool s8, .slice A8 n8 c8] 37))
 have KB0 : RatsA (w22.alloc (.cells #[.bool s5, .slice A5 n5 c5, .bool s6, .slice A6 n6 c6, .bool s7, .slice A7 n7 c7, .bool s8, .slice A8 n8 c8] 37)) (some ⟨w22.heap.size, 0, none⟩) 2 backQ := rats_two (x := backQ) ((by repeat' (first | ((refine Own.new ?_); (focus (first | rfl | omega | (simp; done) | (simp; omega)))) | assumption | refine Own.alloc ?_ _ | refine Own.drew ?_ | (refine Own.far ?_ ?_ _; rotate_left; (focus (first | rfl | omega | (simp; done) | (simp; omega)))))) : Own (w22.alloc (.cells #[.bool s5, .slice A5 n5 c5, .bool s6, .slice A6 n6 c6, .bool s7, .slice A7 n7 c7, .bool s8, .slice A8 n8 c8] 37)) (w22.heap.size) #[.bool s5, .slice A5 n5 c5, .bool s6, .slice A6 n6 c6, .bool s7, .slice A7 n7 c7, .bool s8, .slice A8 n8 c8]) (N1.out.below hal) (N2.out.below hal) (N3.out.below hal) (N4.out.below hal)
 have KB := Lib.hid KB0
 clear KB0
 have HQ := Lib.hid (callv (ref3_SameAll 2 2 (KY.out.below hal) KB.out (by omega)) (congrArg Value.bool (sameA_eq (P := backQ) (Q := backQ) 2 (fun _ _ => rfl))))
 clear hal N1 N2 N3 N4
 go_wp2_with fail
 have hal : Below w22.heap.size w22 (w22.alloc (.cells #[.bool s5, .slice A5 n5 c5, .bool s6, .slice A6 n6 c6, .bool s7, .slice A7 n7 c7, .bool s8, .slice A8 n8 c8] 37)) := ((Below.refl w22.heap.size w22).alloc (Nat.le_refl _) (.cells #[.bool s5, .slice A5 n5 c5, .bool s6, .slice A6 n6 c6, .bool s7, .slice A7 n7 c7, .bool s8, .slice A8 n8 c8] 37))
 have HF' := Lib.hid (HF.out.below hal)
 clear HF
 have HF := HF'
 clear HF'
 have HS' := Lib.hid (HS.out.below hal)
 clear HS
 have HS := HS'
 clear HS'
 have KX' := Lib.hid (KX.out.below hal)
 clear KX
 have KX := KX'
 clear KX'
 have KY' := Lib.hid (KY.out.below hal)
 clear KY
 have KY := KY'
 clear KY'
 have KW' := Lib.hid (KW.out.below hal)
 clear KW
 have KW := KW'
 clear KW'
 have hw' := hw.trans (hal.mono hw.size)
 clear hw hal
 have hw := hw'
 clear hw'
 refine Calls.mono (HQ.out) ?_
 rintro e w23 ⟨rfl, hbx⟩
 have HF' := Lib.hid (HF.out.below hbx)
 clear HF
 have HF := HF'
 clear HF'
 have HS' := Lib.hid (HS.out.below hbx)
 clear HS
 have HS := HS'
 clear HS'
 have KX' := Lib.hid (KX.out.below hbx)
 clear KX
 have KX := KX'
 clear KX'
 have KY' := Lib.hid (KY.out.below hbx)
 clear KY
 have KY := KY'
 clear KY'
 have KW' := Lib.hid (KW.out.below hbx)
 clear KW
 have KW := KW'
 clear KW'
 have hw' : Below w.heap.size w w23 := hw.trans (hbx.mono hw.size)
 clear hw hbx
 have hw := hw'
 clear hw'
 go_wp2
 go_ret
 exact ⟨rfl, hw⟩
end Go.Proofs.YtflgngjocgiojaaGreat
