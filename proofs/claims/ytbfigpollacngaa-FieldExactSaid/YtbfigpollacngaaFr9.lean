/- the walks over retrofitref04, on: bounds, what fits -/
import Derived.Test.YtbfigpollacngaaFr4
import Derived.Test.YtbfigpollacngaaNmC
namespace Go.Proofs.Ytbfigpollacngaa
open Go.RowKit
open Rf
open Wide
attribute [local go_sem ↓] Go.wp_at_zero Go.wp_at_succ

def lowR (k : Int) : Int := if k = 2 then 128 else if k = 3 then 32768 else if k = 4 then 2147483648 else if k = 5 then 9223372036854775808 else 0
theorem bounds_vals (k : Int) : mk (lK k) = ⟨decide (0 < lowR k), 0, lowR k⟩ ∧ mk (gK k) = ⟨false, 0, gK k⟩ := by
  constructor
  · rcases kinds k with rfl | rfl | rfl | rfl | rfl | rfl | rfl | rfl | rfl | rfl | ⟨h1, h2⟩
    all_goals first | rfl | skip
    have hl : lK k = 0 := by unfold lK; rw [h2, if_neg (by decide)]
    have hr : lowR k = 0 := by
      rcases not_kind h1 with h | ⟨_, h⟩ <;> (unfold lowR; repeat rw [if_neg (by omega)])
    rw [hl, hr]; rfl
  · exact (mk_word _ (gK_bd k).1 (gK_bd k).2).symm
set_option maxRecDepth 100000 in
set_option maxHeartbeats 8000000 in
theorem boundsR_1 (w : World) : Calls Try.prog 14 #[.int .i64 1] w fun e w' => e = .returned (.tuple #[wv ⟨false, 0, 0⟩, wv ⟨false, 0, 1⟩]) ∧ Below w.heap.size w w' := by
  unfold wv
  dsimp only
  go_enter Try.func14, Try.ntmps14
  go_wp2
  go_region
  all_goals
    go_wp2
    exact bodyPost_ret (v := .tuple #[.agg #[.bool false, .int .u64 0, .int .u64 0], .agg #[.bool false, .int .u64 0, .int .u64 1]]) (by simp [results, Try.results14, go_sem]) rfl ⟨rfl, (by first | exact below_drewed (((below2 w _ _).alloc (by rw [size_alloc, size_alloc]; omega) _).alloc (by rw [size_alloc, size_alloc, size_alloc]; omega) _) | exact ((below2 w _ _).alloc (by rw [size_alloc, size_alloc]; omega) _).alloc (by rw [size_alloc, size_alloc, size_alloc]; omega) _)⟩
set_option maxRecDepth 100000 in
set_option maxHeartbeats 8000000 in
theorem boundsR_2 (w : World) : Calls Try.prog 14 #[.int .i64 2] w fun e w' => e = .returned (.tuple #[wv ⟨true, 0, 128⟩, wv ⟨false, 0, 127⟩]) ∧ Below w.heap.size w w' := by
  unfold wv
  dsimp only
  go_enter Try.func14, Try.ntmps14
  go_wp2
  go_region
  all_goals
    go_wp2
    exact bodyPost_ret (v := .tuple #[.agg #[.bool true, .int .u64 0, .int .u64 128], .agg #[.bool false, .int .u64 0, .int .u64 127]]) (by simp [results, Try.results14, go_sem]) rfl ⟨rfl, (by first | exact below_drewed (((below2 w _ _).alloc (by rw [size_alloc, size_alloc]; omega) _).alloc (by rw [size_alloc, size_alloc, size_alloc]; omega) _) | exact ((below2 w _ _).alloc (by rw [size_alloc, size_alloc]; omega) _).alloc (by rw [size_alloc, size_alloc, size_alloc]; omega) _)⟩
set_option maxRecDepth 100000 in
set_option maxHeartbeats 8000000 in
theorem boundsR_3 (w : World) : Calls Try.prog 14 #[.int .i64 3] w fun e w' => e = .returned (.tuple #[wv ⟨true, 0, 32768⟩, wv ⟨false, 0, 32767⟩]) ∧ Below w.heap.size w w' := by
  unfold wv
  dsimp only
  go_enter Try.func14, Try.ntmps14
  go_wp2
  go_region
  all_goals
    go_wp2
    exact bodyPost_ret (v := .tuple #[.agg #[.bool true, .int .u64 0, .int .u64 32768], .agg #[.bool false, .int .u64 0, .int .u64 32767]]) (by simp [results, Try.results14, go_sem]) rfl ⟨rfl, (by first | exact below_drewed (((below2 w _ _).alloc (by rw [size_alloc, size_alloc]; omega) _).alloc (by rw [size_alloc, size_alloc, size_alloc]; omega) _) | exact ((below2 w _ _).alloc (by rw [size_alloc, size_alloc]; omega) _).alloc (by rw [size_alloc, size_alloc, size_alloc]; omega) _)⟩
set_option maxRecDepth 100000 in
set_option maxHeartbeats 8000000 in
theorem boundsR_4 (w : World) : Calls Try.prog 14 #[.int .i64 4] w fun e w' => e = .returned (.tuple #[wv ⟨true, 0, 2147483648⟩, wv ⟨false, 0, 2147483647⟩]) ∧ Below w.heap.size w w' := by
  unfold wv
  dsimp only
  go_enter Try.func14, Try.ntmps14
  go_wp2
  go_region
  all_goals
    go_wp2
    exact bodyPost_ret (v := .tuple #[.agg #[.bool true, .int .u64 0, .int .u64 2147483648], .agg #[.bool false, .int .u64 0, .int .u64 2147483647]]) (by simp [results, Try.results14, go_sem]) rfl ⟨rfl, (by first | exact below_drewed (((below2 w _ _).alloc (by rw [size_alloc, size_alloc]; omega) _).alloc (by rw [size_alloc, size_alloc, size_alloc]; omega) _) | exact ((below2 w _ _).alloc (by rw [size_alloc, size_alloc]; omega) _).alloc (by rw [size_alloc, size_alloc, size_alloc]; omega) _)⟩
set_option maxRecDepth 100000 in
set_option maxHeartbeats 8000000 in
theorem boundsR_5 (w : World) : Calls Try.prog 14 #[.int .i64 5] w fun e w' => e = .returned (.tuple #[wv ⟨true, 0, 9223372036854775808⟩, wv ⟨false, 0, 9223372036854775807⟩]) ∧ Below w.heap.size w w' := by
  unfold wv
  dsimp only
  go_enter Try.func14, Try.ntmps14
  go_wp2
  go_region
  all_goals
    go_wp2
    exact bodyPost_ret (v := .tuple #[.agg #[.bool true, .int .u64 0, .int .u64 9223372036854775808], .agg #[.bool false, .int .u64 0, .int .u64 9223372036854775807]]) (by simp [results, Try.results14, go_sem]) rfl ⟨rfl, (by first | exact below_drewed (((below2 w _ _).alloc (by rw [size_alloc, size_alloc]; omega) _).alloc (by rw [size_alloc, size_alloc, size_alloc]; omega) _) | exact ((below2 w _ _).alloc (by rw [size_alloc, size_alloc]; omega) _).alloc (by rw [size_alloc, size_alloc, size_alloc]; omega) _)⟩
set_option maxRecDepth 100000 in
set_option maxHeartbeats 8000000 in
theorem boundsR_6 (w : World) : Calls Try.prog 14 #[.int .i64 6] w fun e w' => e = .returned (.tuple #[wv ⟨false, 0, 0⟩, wv ⟨false, 0, 255⟩]) ∧ Below w.heap.size w w' := by
  unfold wv
  dsimp only
  go_enter Try.func14, Try.ntmps14
  go_wp2
  go_region
  all_goals
    go_wp2
    exact bodyPost_ret (v := .tuple #[.agg #[.bool false, .int .u64 0, .int .u64 0], .agg #[.bool false, .int .u64 0, .int .u64 255]]) (by simp [results, Try.results14, go_sem]) rfl ⟨rfl, (by first | exact below_drewed (((below2 w _ _).alloc (by rw [size_alloc, size_alloc]; omega) _).alloc (by rw [size_alloc, size_alloc, size_alloc]; omega) _) | exact ((below2 w _ _).alloc (by rw [size_alloc, size_alloc]; omega) _).alloc (by rw [size_alloc, size_alloc, size_alloc]; omega) _)⟩
set_option maxRecDepth 100000 in
set_option maxHeartbeats 8000000 in
theorem boundsR_7 (w : World) : Calls Try.prog 14 #[.int .i64 7] w fun e w' => e = .returned (.tuple #[wv ⟨false, 0, 0⟩, wv ⟨false, 0, 65535⟩]) ∧ Below w.heap.size w w' := by
  unfold wv
  dsimp only
  go_enter Try.func14, Try.ntmps14
  go_wp2
  go_region
  all_goals
    go_wp2
    exact bodyPost_ret (v := .tuple #[.agg #[.bool false, .int .u64 0, .int .u64 0], .agg #[.bool false, .int .u64 0, .int .u64 65535]]) (by simp [results, Try.results14, go_sem]) rfl ⟨rfl, (by first | exact below_drewed (((below2 w _ _).alloc (by rw [size_alloc, size_alloc]; omega) _).alloc (by rw [size_alloc, size_alloc, size_alloc]; omega) _) | exact ((below2 w _ _).alloc (by rw [size_alloc, size_alloc]; omega) _).alloc (by rw [size_alloc, size_alloc, size_alloc]; omega) _)⟩
set_option maxRecDepth 100000 in
set_option maxHeartbeats 8000000 in
theorem boundsR_8 (w : World) : Calls Try.prog 14 #[.int .i64 8] w fun e w' => e = .returned (.tuple #[wv ⟨false, 0, 0⟩, wv ⟨false, 0, 4294967295⟩]) ∧ Below w.heap.size w w' := by
  unfold wv
  dsimp only
  go_enter Try.func14, Try.ntmps14
  go_wp2
  go_region
  all_goals
    go_wp2
    exact bodyPost_ret (v := .tuple #[.agg #[.bool false, .int .u64 0, .int .u64 0], .agg #[.bool false, .int .u64 0, .int .u64 4294967295]]) (by simp [results, Try.results14, go_sem]) rfl ⟨rfl, (by first | exact below_drewed (((below2 w _ _).alloc (by rw [size_alloc, size_alloc]; omega) _).alloc (by rw [size_alloc, size_alloc, size_alloc]; omega) _) | exact ((below2 w _ _).alloc (by rw [size_alloc, size_alloc]; omega) _).alloc (by rw [size_alloc, size_alloc, size_alloc]; omega) _)⟩
set_option maxRecDepth 100000 in
set_option maxHeartbeats 8000000 in
theorem boundsR_9 (w : World) : Calls Try.prog 14 #[.int .i64 9] w fun e w' => e = .returned (.tuple #[wv ⟨false, 0, 0⟩, wv ⟨false, 0, 18446744073709551615⟩]) ∧ Below w.heap.size w w' := by
  unfold wv
  dsimp only
  go_enter Try.func14, Try.ntmps14
  go_wp2
  go_region
  all_goals
    go_wp2
    exact bodyPost_ret (v := .tuple #[.agg #[.bool false, .int .u64 0, .int .u64 0], .agg #[.bool false, .int .u64 0, .int .u64 18446744073709551615]]) (by simp [results, Try.results14, go_sem]) rfl ⟨rfl, (by first | exact below_drewed (((below2 w _ _).alloc (by rw [size_alloc, size_alloc]; omega) _).alloc (by rw [size_alloc, size_alloc, size_alloc]; omega) _) | exact ((below2 w _ _).alloc (by rw [size_alloc, size_alloc]; omega) _).alloc (by rw [size_alloc, size_alloc, size_alloc]; omega) _)⟩
set_option maxRecDepth 100000 in
set_option maxHeartbeats 8000000 in
theorem boundsR_10 (w : World) : Calls Try.prog 14 #[.int .i64 10] w fun e w' => e = .returned (.tuple #[wv ⟨false, 0, 0⟩, wv ⟨false, 0, 18446744073709551615⟩]) ∧ Below w.heap.size w w' := by
  unfold wv
  dsimp only
  go_enter Try.func14, Try.ntmps14
  go_wp2
  go_region
  all_goals
    go_wp2
    exact bodyPost_ret (v := .tuple #[.agg #[.bool false, .int .u64 0, .int .u64 0], .agg #[.bool false, .int .u64 0, .int .u64 18446744073709551615]]) (by simp [results, Try.results14, go_sem]) rfl ⟨rfl, (by first | exact below_drewed (((below2 w _ _).alloc (by rw [size_alloc, size_alloc]; omega) _).alloc (by rw [size_alloc, size_alloc, size_alloc]; omega) _) | exact ((below2 w _ _).alloc (by rw [size_alloc, size_alloc]; omega) _).alloc (by rw [size_alloc, size_alloc, size_alloc]; omega) _)⟩

theorem boundsR_none (k : Int) (hk : isK k = false) (w : World) : Calls Try.prog 14 #[.int .i64 k] w fun e w' => e = .returned (.tuple #[wv ⟨false, 0, 0⟩, wv ⟨false, 0, 0⟩]) ∧ Below w.heap.size w w' := by
  unfold wv
  dsimp only
  rcases not_kind hk with h | ⟨h, h'⟩
  all_goals
    clear hk
    go_enter Try.func14, Try.ntmps14
    go_wp2
    exact bodyPost_ret (v := .tuple #[.agg #[.bool false, .int .u64 0, .int .u64 0], .agg #[.bool false, .int .u64 0, .int .u64 0]]) (by simp [results, Try.results14, go_sem]) rfl ⟨rfl, below2 w _ _⟩

set_option maxRecDepth 100000 in
set_option maxHeartbeats 4000000 in
theorem fitsR_N (k : Int) (x : WI) (sz : Int) (cb : Ret 11 #[.int .i64 k] (.int .i64 sz)) (hsz0 : (sz == 0) = true) (w : World) :
    Calls Try.prog 19 #[.int .i64 k, wv x] w fun e w' => e = .returned (.bool false) ∧ Below w.heap.size w w' := by
  obtain ⟨xn, xh, xl⟩ := x
  unfold wv at *
  dsimp only at *
  go_enter Try.func19, Try.ntmps19
  go_wp2_with fail
  refine (cb.on _).mono ?_
  rintro e w1 ⟨rfl, hb1⟩
  obtain ⟨gx, hb⟩ := one_new (x := ⟨xn, xh, xl⟩) hb1
  have hs := hb.size
  clear hb1
  replace gx := Lib.hid gx
  replace hb := Lib.hid hb
  go_wp2_with fail
  go_ret
  exact ⟨rfl, hb.out⟩

set_option maxRecDepth 100000 in
set_option maxHeartbeats 4000000 in
theorem fitsR_F (k : Int) (x : WI) (sz : Int) (cb : Ret 11 #[.int .i64 k] (.int .i64 sz)) (hsz0 : (sz == 0) = false) (gd : Ret 23 #[wv x] (.bool false)) (w : World) :
    Calls Try.prog 19 #[.int .i64 k, wv x] w fun e w' => e = .returned (.bool false) ∧ Below w.heap.size w w' := by
  obtain ⟨xn, xh, xl⟩ := x
  unfold wv at *
  dsimp only at *
  go_enter Try.func19, Try.ntmps19
  go_wp2_with fail
  refine (cb.on _).mono ?_
  rintro e w1 ⟨rfl, hb1⟩
  obtain ⟨gx, hb⟩ := one_new (x := ⟨xn, xh, xl⟩) hb1
  have hs := hb.size
  clear hb1
  replace gx := Lib.hid gx
  replace hb := Lib.hid hb
  obtain ⟨cx0, cx1, cx2⟩ := gx.out.all
  dsimp only at cx0 cx1 cx2
  go_wp2_with fail
  refine (gd.on _).mono ?_
  rintro e w2 ⟨rfl, hb2⟩
  replace gx := Lib.hid (isN_of hb2 gx.out)
  replace hb := Lib.hid (hb.out.trans (hb2.mono hs))
  clear hs hb2
  have hs := hb.out.size
  clear cx0 cx1 cx2
  go_wp2_with fail
  go_ret
  exact ⟨rfl, hb.out⟩

set_option maxRecDepth 100000 in
set_option maxHeartbeats 4000000 in
theorem fitsR_L (k : Int) (x : WI) (sz : Int) (cb : Ret 11 #[.int .i64 k] (.int .i64 sz)) (hsz0 : (sz == 0) = false) (gd : Ret 23 #[wv x] (.bool true)) (A B : WI) (bd : Ret 14 #[.int .i64 k] (.tuple #[wv A, wv B])) (u1 : Int) (c1 : Ret 24 #[wv x, wv A] (.int .i64 u1)) (d1 : decide (0 ≤ u1) = false) (w : World) :
    Calls Try.prog 19 #[.int .i64 k, wv x] w fun e w' => e = .returned (.bool false) ∧ Below w.heap.size w w' := by
  obtain ⟨xn, xh, xl⟩ := x
  obtain ⟨An, Ah, Al⟩ := A
  obtain ⟨Bn, Bh, Bl⟩ := B
  unfold wv at *
  dsimp only at *
  go_enter Try.func19, Try.ntmps19
  go_wp2_with fail
  refine (cb.on _).mono ?_
  rintro e w1 ⟨rfl, hb1⟩
  obtain ⟨gx, hb⟩ := one_new (x := ⟨xn, xh, xl⟩) hb1
  have hs := hb.size
  clear hb1
  replace gx := Lib.hid gx
  replace hb := Lib.hid hb
  obtain ⟨cx0, cx1, cx2⟩ := gx.out.all
  dsimp only at cx0 cx1 cx2
  go_wp2_with fail
  refine (gd.on _).mono ?_
  rintro e w2 ⟨rfl, hb2⟩
  replace gx := Lib.hid (isN_of hb2 gx.out)
  replace hb := Lib.hid (hb.out.trans (hb2.mono hs))
  clear hs hb2
  have hs := hb.out.size
  clear cx0 cx1 cx2
  go_wp2_with fail
  refine (bd.on _).mono ?_
  rintro e w3 ⟨rfl, hb3⟩
  replace gx := Lib.hid (isN_of hb3 gx.out)
  replace hb := Lib.hid (hb.out.trans (hb3.mono hs))
  clear hs hb3
  have hs := hb.out.size
  replace gx := Lib.hid ((gx.out.alloc (oN ⟨An, Ah, Al⟩)).alloc (oN ⟨Bn, Bh, Bl⟩))
  have ga := Lib.hid ((IsN.new w3 ⟨An, Ah, Al⟩).alloc (oN ⟨Bn, Bh, Bl⟩))
  have gb := Lib.hid (show IsN ((w3.alloc (oN ⟨An, Ah, Al⟩)).alloc (oN ⟨Bn, Bh, Bl⟩)) (w3.heap.size + 1) ⟨Bn, Bh, Bl⟩ from by have h := IsN.new (w3.alloc (oN ⟨An, Ah, Al⟩)) ⟨Bn, Bh, Bl⟩; rwa [size_alloc] at h)
  replace hb := Lib.hid ((hb.out.alloc hs (oN ⟨An, Ah, Al⟩)).alloc (by rw [size_alloc]; omega) (oN ⟨Bn, Bh, Bl⟩))
  clear hs
  have hs := hb.out.size
  obtain ⟨cx0, cx1, cx2⟩ := gx.out.all
  obtain ⟨ca0, ca1, ca2⟩ := ga.out.all
  dsimp only at cx0 cx1 cx2 ca0 ca1 ca2
  go_wp2_with fail
  refine (c1.on _).mono ?_
  rintro e w4 ⟨rfl, hb4⟩
  replace gx := Lib.hid (isN_of hb4 gx.out)
  replace ga := Lib.hid (isN_of hb4 ga.out)
  replace gb := Lib.hid (isN_of hb4 gb.out)
  replace hb := Lib.hid (hb.out.trans (hb4.mono hs))
  clear hs hb4
  have hs := hb.out.size
  clear cx0 cx1 cx2 ca0 ca1 ca2
  go_wp2_with fail
  go_ret
  exact ⟨rfl, hb.out⟩

set_option maxRecDepth 100000 in
set_option maxHeartbeats 4000000 in
theorem fitsR_H (k : Int) (x : WI) (sz : Int) (cb : Ret 11 #[.int .i64 k] (.int .i64 sz)) (hsz0 : (sz == 0) = false) (gd : Ret 23 #[wv x] (.bool true)) (A B : WI) (bd : Ret 14 #[.int .i64 k] (.tuple #[wv A, wv B])) (u1 : Int) (c1 : Ret 24 #[wv x, wv A] (.int .i64 u1)) (d1 : decide (0 ≤ u1) = true) (u2 : Int) (c2 : Ret 24 #[wv x, wv B] (.int .i64 u2)) (d2 : decide (u2 ≤ 0) = false) (w : World) :
    Calls Try.prog 19 #[.int .i64 k, wv x] w fun e w' => e = .returned (.bool false) ∧ Below w.heap.size w w' := by
  obtain ⟨xn, xh, xl⟩ := x
  obtain ⟨An, Ah, Al⟩ := A
  obtain ⟨Bn, Bh, Bl⟩ := B
  unfold wv at *
  dsimp only at *
  go_enter Try.func19, Try.ntmps19
  go_wp2_with fail
  refine (cb.on _).mono ?_
  rintro e w1 ⟨rfl, hb1⟩
  obtain ⟨gx, hb⟩ := one_new (x := ⟨xn, xh, xl⟩) hb1
  have hs := hb.size
  clear hb1
  replace gx := Lib.hid gx
  replace hb := Lib.hid hb
  obtain ⟨cx0, cx1, cx2⟩ := gx.out.all
  dsimp only at cx0 cx1 cx2
  go_wp2_with fail
  refine (gd.on _).mono ?_
  rintro e w2 ⟨rfl, hb2⟩
  replace gx := Lib.hid (isN_of hb2 gx.out)
  replace hb := Lib.hid (hb.out.trans (hb2.mono hs))
  clear hs hb2
  have hs := hb.out.size
  clear cx0 cx1 cx2
  go_wp2_with fail
  refine (bd.on _).mono ?_
  rintro e w3 ⟨rfl, hb3⟩
  replace gx := Lib.hid (isN_of hb3 gx.out)
  replace hb := Lib.hid (hb.out.trans (hb3.mono hs))
  clear hs hb3
  have hs := hb.out.size
  replace gx := Lib.hid ((gx.out.alloc (oN ⟨An, Ah, Al⟩)).alloc (oN ⟨Bn, Bh, Bl⟩))
  have ga := Lib.hid ((IsN.new w3 ⟨An, Ah, Al⟩).alloc (oN ⟨Bn, Bh, Bl⟩))
  have gb := Lib.hid (show IsN ((w3.alloc (oN ⟨An, Ah, Al⟩)).alloc (oN ⟨Bn, Bh, Bl⟩)) (w3.heap.size + 1) ⟨Bn, Bh, Bl⟩ from by have h := IsN.new (w3.alloc (oN ⟨An, Ah, Al⟩)) ⟨Bn, Bh, Bl⟩; rwa [size_alloc] at h)
  replace hb := Lib.hid ((hb.out.alloc hs (oN ⟨An, Ah, Al⟩)).alloc (by rw [size_alloc]; omega) (oN ⟨Bn, Bh, Bl⟩))
  clear hs
  have hs := hb.out.size
  obtain ⟨cx0, cx1, cx2⟩ := gx.out.all
  obtain ⟨ca0, ca1, ca2⟩ := ga.out.all
  dsimp only at cx0 cx1 cx2 ca0 ca1 ca2
  go_wp2_with fail
  refine (c1.on _).mono ?_
  rintro e w4 ⟨rfl, hb4⟩
  replace gx := Lib.hid (isN_of hb4 gx.out)
  replace ga := Lib.hid (isN_of hb4 ga.out)
  replace gb := Lib.hid (isN_of hb4 gb.out)
  replace hb := Lib.hid (hb.out.trans (hb4.mono hs))
  clear hs hb4
  have hs := hb.out.size
  clear cx0 cx1 cx2 ca0 ca1 ca2
  obtain ⟨cx0, cx1, cx2⟩ := gx.out.all
  obtain ⟨cb0, cb1, cb2⟩ := gb.out.all
  dsimp only at cx0 cx1 cx2 cb0 cb1 cb2
  go_wp2_with fail
  refine (c2.on _).mono ?_
  rintro e w5 ⟨rfl, hb5⟩
  replace gx := Lib.hid (isN_of hb5 gx.out)
  replace ga := Lib.hid (isN_of hb5 ga.out)
  replace gb := Lib.hid (isN_of hb5 gb.out)
  replace hb := Lib.hid (hb.out.trans (hb5.mono hs))
  clear hs hb5
  have hs := hb.out.size
  clear cx0 cx1 cx2 cb0 cb1 cb2
  go_wp2_with fail
  go_ret
  exact ⟨rfl, hb.out⟩

set_option maxRecDepth 100000 in
set_option maxHeartbeats 4000000 in
theorem fitsR_M (k : Int) (x : WI) (sz : Int) (cb : Ret 11 #[.int .i64 k] (.int .i64 sz)) (hsz0 : (sz == 0) = false) (gd : Ret 23 #[wv x] (.bool true)) (A B : WI) (bd : Ret 14 #[.int .i64 k] (.tuple #[wv A, wv B])) (u1 : Int) (c1 : Ret 24 #[wv x, wv A] (.int .i64 u1)) (d1 : decide (0 ≤ u1) = true) (u2 : Int) (c2 : Ret 24 #[wv x, wv B] (.int .i64 u2)) (d2 : decide (u2 ≤ 0) = true) (w : World) :
    Calls Try.prog 19 #[.int .i64 k, wv x] w fun e w' => e = .returned (.bool true) ∧ Below w.heap.size w w' := by
  obtain ⟨xn, xh, xl⟩ := x
  obtain ⟨An, Ah, Al⟩ := A
  obtain ⟨Bn, Bh, Bl⟩ := B
  unfold wv at *
  dsimp only at *
  go_enter Try.func19, Try.ntmps19
  go_wp2_with fail
  refine (cb.on _).mono ?_
  rintro e w1 ⟨rfl, hb1⟩
  obtain ⟨gx, hb⟩ := one_new (x := ⟨xn, xh, xl⟩) hb1
  have hs := hb.size
  clear hb1
  replace gx := Lib.hid gx
  replace hb := Lib.hid hb
  obtain ⟨cx0, cx1, cx2⟩ := gx.out.all
  dsimp only at cx0 cx1 cx2
  go_wp2_with fail
  refine (gd.on _).mono ?_
  rintro e w2 ⟨rfl, hb2⟩
  replace gx := Lib.hid (isN_of hb2 gx.out)
  replace hb := Lib.hid (hb.out.trans (hb2.mono hs))
  clear hs hb2
  have hs := hb.out.size
  clear cx0 cx1 cx2
  go_wp2_with fail
  refine (bd.on _).mono ?_
  rintro e w3 ⟨rfl, hb3⟩
  replace gx := Lib.hid (isN_of hb3 gx.out)
  replace hb := Lib.hid (hb.out.trans (hb3.mono hs))
  clear hs hb3
  have hs := hb.out.size
  replace gx := Lib.hid ((gx.out.alloc (oN ⟨An, Ah, Al⟩)).alloc (oN ⟨Bn, Bh, Bl⟩))
  have ga := Lib.hid ((IsN.new w3 ⟨An, Ah, Al⟩).alloc (oN ⟨Bn, Bh, Bl⟩))
  have gb := Lib.hid (show IsN ((w3.alloc (oN ⟨An, Ah, Al⟩)).alloc (oN ⟨Bn, Bh, Bl⟩)) (w3.heap.size + 1) ⟨Bn, Bh, Bl⟩ from by have h := IsN.new (w3.alloc (oN ⟨An, Ah, Al⟩)) ⟨Bn, Bh, Bl⟩; rwa [size_alloc] at h)
  replace hb := Lib.hid ((hb.out.alloc hs (oN ⟨An, Ah, Al⟩)).alloc (by rw [size_alloc]; omega) (oN ⟨Bn, Bh, Bl⟩))
  clear hs
  have hs := hb.out.size
  obtain ⟨cx0, cx1, cx2⟩ := gx.out.all
  obtain ⟨ca0, ca1, ca2⟩ := ga.out.all
  dsimp only at cx0 cx1 cx2 ca0 ca1 ca2
  go_wp2_with fail
  refine (c1.on _).mono ?_
  rintro e w4 ⟨rfl, hb4⟩
  replace gx := Lib.hid (isN_of hb4 gx.out)
  replace ga := Lib.hid (isN_of hb4 ga.out)
  replace gb := Lib.hid (isN_of hb4 gb.out)
  replace hb := Lib.hid (hb.out.trans (hb4.mono hs))
  clear hs hb4
  have hs := hb.out.size
  clear cx0 cx1 cx2 ca0 ca1 ca2
  obtain ⟨cx0, cx1, cx2⟩ := gx.out.all
  obtain ⟨cb0, cb1, cb2⟩ := gb.out.all
  dsimp only at cx0 cx1 cx2 cb0 cb1 cb2
  go_wp2_with fail
  refine (c2.on _).mono ?_
  rintro e w5 ⟨rfl, hb5⟩
  replace gx := Lib.hid (isN_of hb5 gx.out)
  replace ga := Lib.hid (isN_of hb5 ga.out)
  replace gb := Lib.hid (isN_of hb5 gb.out)
  replace hb := Lib.hid (hb.out.trans (hb5.mono hs))
  clear hs hb5
  have hs := hb.out.size
  clear cx0 cx1 cx2 cb0 cb1 cb2
  go_wp2_with fail
  go_ret
  exact ⟨rfl, hb.out⟩

theorem goodR_c (x : WI) : Ret 23 #[wv x] (.bool x.form) := fun w => good_c x w
theorem boundsR_c (k : Int) : Ret 14 #[.int .i64 k] (.tuple #[wv (mk (lK k)), wv (mk (gK k))]) := fun w => by
  rw [(bounds_vals k).1, (bounds_vals k).2]
  rcases kinds k with rfl | rfl | rfl | rfl | rfl | rfl | rfl | rfl | rfl | rfl | ⟨h1, h2⟩
  · exact boundsR_1 w
  · exact boundsR_2 w
  · exact boundsR_3 w
  · exact boundsR_4 w
  · exact boundsR_5 w
  · exact boundsR_6 w
  · exact boundsR_7 w
  · exact boundsR_8 w
  · exact boundsR_9 w
  · exact boundsR_10 w
  · have hr : lowR k = 0 := by
      rcases not_kind h1 with h | ⟨_, h⟩ <;> (unfold lowR; repeat rw [if_neg (by omega)])
    rw [hr, gK_none h1]
    exact boundsR_none k h1 w
theorem fitsR_c (k : Int) (x : WI) (ho : x.Ok) : Ret 19 #[.int .i64 k, wv x] (.bool (fitsF k x)) := fun w => by
  have cb := bytesR_c k
  have hz := size_zero (k := k)
  have bd := boundsR_c k
  have gd := goodR_c x
  unfold fitsF
  cases hk : isK k with
  | false => rw [hk] at hz; exact fitsR_N k x _ cb hz w
  | true =>
    rw [hk] at hz
    cases hf : x.form with
    | false => rw [hf] at gd; exact fitsR_F k x _ cb hz gd w
    | true =>
      rw [hf] at gd
      have c1 := refCmp_c x (mk (lK k)) ho (mk_ok _ (lK_in k))
      have c2 := refCmp_c x (mk (gK k)) ho (mk_ok _ (gK_in k))
      have e1 := refCmp_val ho (mk_ok _ (lK_in k)) hf (mk_form _ (lK_in k))
      have e2 := refCmp_val ho (mk_ok _ (gK_in k)) hf (mk_form _ (gK_in k))
      rw [mk_val] at e1 e2
      by_cases h1 : lK k ≤ x.val
      · have d1 : decide (0 ≤ refCmp x (mk (lK k))) = true := decide_eq_true (by rw [e1, sgn_ge]; omega)
        by_cases h2 : x.val ≤ gK k
        · have d2 : decide (refCmp x (mk (gK k)) ≤ 0) = true := decide_eq_true (by rw [e2, sgn_le]; omega)
          rw [decide_eq_true h1, decide_eq_true h2]
          exact fitsR_M k x _ cb hz gd _ _ bd _ c1 d1 _ c2 d2 w
        · have d2 : decide (refCmp x (mk (gK k)) ≤ 0) = false := decide_eq_false (by rw [e2, sgn_le]; omega)
          rw [decide_eq_true h1, decide_eq_false h2]
          exact fitsR_H k x _ cb hz gd _ _ bd _ c1 d1 _ c2 d2 w
      · have d1 : decide (0 ≤ refCmp x (mk (lK k))) = false := decide_eq_false (by rw [e1, sgn_ge]; omega)
        rw [decide_eq_false h1, Bool.and_false, Bool.false_and]
        exact fitsR_L k x _ cb hz gd _ _ bd _ c1 d1 w
end Go.Proofs.Ytbfigpollacngaa
