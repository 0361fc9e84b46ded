/- the walks over retrofitref01, ninth part: where nothing is done -/
import Derived.Test.YtbfigpollacngaaDoorNmW8
namespace Go.Proofs.YtbfigpollacngaaDoor
open Go.RowKit
open Rf
open Wide

set_option maxRecDepth 100000 in
set_option maxHeartbeats 4000000 in
theorem do1_bad1 (xn yn : Bool) (xh xl yh yl : Int) (c1 : Ret 19 #[wv ⟨xn, xh, xl⟩] (.bool false)) : Ret 27 #[.int .i64 1, wv ⟨xn, xh, xl⟩, wv ⟨yn, yh, yl⟩] (.tuple #[wv zero, .int .i64 1]) := fun w => by
  unfold wv zero at *
  dsimp only at *
  replace c1 := Lib.hid c1
  go_enter Tryd.func27, Tryd.ntmps27
  go_wp2_with fail
  refine (c1.out.on _).mono ?_
  rintro e w1 ⟨rfl, hbr⟩
  obtain ⟨gx, gy, gz, hb⟩ := three_new (x := ⟨xn, xh, xl⟩) (y := ⟨yn, yh, yl⟩) (z := ⟨false, 0, 0⟩) hbr
  clear hbr
  replace gx := Lib.hid gx
  replace gy := Lib.hid gy
  replace gz := Lib.hid gz
  replace hb := Lib.hid hb
  obtain ⟨z0, z1, z2⟩ := gz.out.all
  have fz := gz.out.f
  obtain ⟨r0, r1, r2, hfin⟩ := last_set gz.out ⟨false, 0, 0⟩ hb.out (by omega)
  dsimp only at z0 z1 z2 r0 r1 r2 hfin
  replace hfin := Lib.hid hfin
  clear gx gz hb gy
  go_wp2_with fail
  (try simp only [Exit.inBlock, Exit.then])
  refine bodyPost_ret (by simp [results, Tryd.results27, go_sem, r0, r1, r2]; try rfl) rfl ?_
  exact ⟨rfl, hfin.out⟩

set_option maxRecDepth 100000 in
set_option maxHeartbeats 4000000 in
theorem do1_bad2 (xn yn : Bool) (xh xl yh yl : Int) (c1 : Ret 19 #[wv ⟨xn, xh, xl⟩] (.bool true)) (c2 : Ret 19 #[wv ⟨yn, yh, yl⟩] (.bool false)) : Ret 27 #[.int .i64 1, wv ⟨xn, xh, xl⟩, wv ⟨yn, yh, yl⟩] (.tuple #[wv zero, .int .i64 1]) := fun w => by
  unfold wv zero at *
  dsimp only at *
  replace c1 := Lib.hid c1
  replace c2 := Lib.hid c2
  go_enter Tryd.func27, Tryd.ntmps27
  go_wp2_with fail
  refine (c1.out.on _).mono ?_
  rintro e w1 ⟨rfl, hbr⟩
  obtain ⟨gx, gy, gz, hb⟩ := three_new (x := ⟨xn, xh, xl⟩) (y := ⟨yn, yh, yl⟩) (z := ⟨false, 0, 0⟩) hbr
  clear hbr
  replace gx := Lib.hid gx
  replace gy := Lib.hid gy
  replace gz := Lib.hid gz
  replace hb := Lib.hid hb
  obtain ⟨y0, y1, y2⟩ := gy.out.all
  dsimp only [zero] at y0 y1 y2
  go_wp2_with fail
  refine (c2.out.on _).mono ?_
  rintro e w2 ⟨rfl, hbr⟩
  replace gx := Lib.hid (gx.out.below hbr)
  replace gy := Lib.hid (gy.out.below hbr)
  replace gz := Lib.hid (gz.out.below hbr)
  replace hb := Lib.hid (below_up hb.out hb.out.size hbr)
  clear hbr
  clear y0 y1 y2
  obtain ⟨z0, z1, z2⟩ := gz.out.all
  have fz := gz.out.f
  obtain ⟨r0, r1, r2, hfin⟩ := last_set gz.out ⟨false, 0, 0⟩ hb.out (by omega)
  dsimp only at z0 z1 z2 r0 r1 r2 hfin
  replace hfin := Lib.hid hfin
  clear gx gz hb gy
  go_wp2_with fail
  (try simp only [Exit.inBlock, Exit.then])
  refine bodyPost_ret (by simp [results, Tryd.results27, go_sem, r0, r1, r2]; try rfl) rfl ?_
  exact ⟨rfl, hfin.out⟩

set_option maxRecDepth 100000 in
set_option maxHeartbeats 4000000 in
theorem do2_bad1 (xn yn : Bool) (xh xl yh yl : Int) (c1 : Ret 19 #[wv ⟨xn, xh, xl⟩] (.bool false)) : Ret 27 #[.int .i64 2, wv ⟨xn, xh, xl⟩, wv ⟨yn, yh, yl⟩] (.tuple #[wv zero, .int .i64 1]) := fun w => by
  unfold wv zero at *
  dsimp only at *
  replace c1 := Lib.hid c1
  go_enter Tryd.func27, Tryd.ntmps27
  go_wp2_with fail
  refine (c1.out.on _).mono ?_
  rintro e w1 ⟨rfl, hbr⟩
  obtain ⟨gx, gy, gz, hb⟩ := three_new (x := ⟨xn, xh, xl⟩) (y := ⟨yn, yh, yl⟩) (z := ⟨false, 0, 0⟩) hbr
  clear hbr
  replace gx := Lib.hid gx
  replace gy := Lib.hid gy
  replace gz := Lib.hid gz
  replace hb := Lib.hid hb
  obtain ⟨z0, z1, z2⟩ := gz.out.all
  have fz := gz.out.f
  obtain ⟨r0, r1, r2, hfin⟩ := last_set gz.out ⟨false, 0, 0⟩ hb.out (by omega)
  dsimp only at z0 z1 z2 r0 r1 r2 hfin
  replace hfin := Lib.hid hfin
  clear gx gz hb gy
  go_wp2_with fail
  (try simp only [Exit.inBlock, Exit.then])
  refine bodyPost_ret (by simp [results, Tryd.results27, go_sem, r0, r1, r2]; try rfl) rfl ?_
  exact ⟨rfl, hfin.out⟩

set_option maxRecDepth 100000 in
set_option maxHeartbeats 4000000 in
theorem do2_bad2 (xn yn : Bool) (xh xl yh yl : Int) (c1 : Ret 19 #[wv ⟨xn, xh, xl⟩] (.bool true)) (c2 : Ret 19 #[wv ⟨yn, yh, yl⟩] (.bool false)) : Ret 27 #[.int .i64 2, wv ⟨xn, xh, xl⟩, wv ⟨yn, yh, yl⟩] (.tuple #[wv zero, .int .i64 1]) := fun w => by
  unfold wv zero at *
  dsimp only at *
  replace c1 := Lib.hid c1
  replace c2 := Lib.hid c2
  go_enter Tryd.func27, Tryd.ntmps27
  go_wp2_with fail
  refine (c1.out.on _).mono ?_
  rintro e w1 ⟨rfl, hbr⟩
  obtain ⟨gx, gy, gz, hb⟩ := three_new (x := ⟨xn, xh, xl⟩) (y := ⟨yn, yh, yl⟩) (z := ⟨false, 0, 0⟩) hbr
  clear hbr
  replace gx := Lib.hid gx
  replace gy := Lib.hid gy
  replace gz := Lib.hid gz
  replace hb := Lib.hid hb
  obtain ⟨y0, y1, y2⟩ := gy.out.all
  dsimp only [zero] at y0 y1 y2
  go_wp2_with fail
  refine (c2.out.on _).mono ?_
  rintro e w2 ⟨rfl, hbr⟩
  replace gx := Lib.hid (gx.out.below hbr)
  replace gy := Lib.hid (gy.out.below hbr)
  replace gz := Lib.hid (gz.out.below hbr)
  replace hb := Lib.hid (below_up hb.out hb.out.size hbr)
  clear hbr
  clear y0 y1 y2
  obtain ⟨z0, z1, z2⟩ := gz.out.all
  have fz := gz.out.f
  obtain ⟨r0, r1, r2, hfin⟩ := last_set gz.out ⟨false, 0, 0⟩ hb.out (by omega)
  dsimp only at z0 z1 z2 r0 r1 r2 hfin
  replace hfin := Lib.hid hfin
  clear gx gz hb gy
  go_wp2_with fail
  (try simp only [Exit.inBlock, Exit.then])
  refine bodyPost_ret (by simp [results, Tryd.results27, go_sem, r0, r1, r2]; try rfl) rfl ?_
  exact ⟨rfl, hfin.out⟩

set_option maxRecDepth 100000 in
set_option maxHeartbeats 4000000 in
theorem do3_bad1 (xn yn : Bool) (xh xl yh yl : Int) (c1 : Ret 19 #[wv ⟨xn, xh, xl⟩] (.bool false)) : Ret 27 #[.int .i64 3, wv ⟨xn, xh, xl⟩, wv ⟨yn, yh, yl⟩] (.tuple #[wv zero, .int .i64 1]) := fun w => by
  unfold wv zero at *
  dsimp only at *
  replace c1 := Lib.hid c1
  go_enter Tryd.func27, Tryd.ntmps27
  go_wp2_with fail
  refine (c1.out.on _).mono ?_
  rintro e w1 ⟨rfl, hbr⟩
  obtain ⟨gx, gy, gz, hb⟩ := three_new (x := ⟨xn, xh, xl⟩) (y := ⟨yn, yh, yl⟩) (z := ⟨false, 0, 0⟩) hbr
  clear hbr
  replace gx := Lib.hid gx
  replace gy := Lib.hid gy
  replace gz := Lib.hid gz
  replace hb := Lib.hid hb
  obtain ⟨z0, z1, z2⟩ := gz.out.all
  have fz := gz.out.f
  obtain ⟨r0, r1, r2, hfin⟩ := last_set gz.out ⟨false, 0, 0⟩ hb.out (by omega)
  dsimp only at z0 z1 z2 r0 r1 r2 hfin
  replace hfin := Lib.hid hfin
  clear gx gz hb gy
  go_wp2_with fail
  (try simp only [Exit.inBlock, Exit.then])
  refine bodyPost_ret (by simp [results, Tryd.results27, go_sem, r0, r1, r2]; try rfl) rfl ?_
  exact ⟨rfl, hfin.out⟩

set_option maxRecDepth 100000 in
set_option maxHeartbeats 4000000 in
theorem do3_bad2 (xn yn : Bool) (xh xl yh yl : Int) (c1 : Ret 19 #[wv ⟨xn, xh, xl⟩] (.bool true)) (c2 : Ret 19 #[wv ⟨yn, yh, yl⟩] (.bool false)) : Ret 27 #[.int .i64 3, wv ⟨xn, xh, xl⟩, wv ⟨yn, yh, yl⟩] (.tuple #[wv zero, .int .i64 1]) := fun w => by
  unfold wv zero at *
  dsimp only at *
  replace c1 := Lib.hid c1
  replace c2 := Lib.hid c2
  go_enter Tryd.func27, Tryd.ntmps27
  go_wp2_with fail
  refine (c1.out.on _).mono ?_
  rintro e w1 ⟨rfl, hbr⟩
  obtain ⟨gx, gy, gz, hb⟩ := three_new (x := ⟨xn, xh, xl⟩) (y := ⟨yn, yh, yl⟩) (z := ⟨false, 0, 0⟩) hbr
  clear hbr
  replace gx := Lib.hid gx
  replace gy := Lib.hid gy
  replace gz := Lib.hid gz
  replace hb := Lib.hid hb
  obtain ⟨y0, y1, y2⟩ := gy.out.all
  dsimp only [zero] at y0 y1 y2
  go_wp2_with fail
  refine (c2.out.on _).mono ?_
  rintro e w2 ⟨rfl, hbr⟩
  replace gx := Lib.hid (gx.out.below hbr)
  replace gy := Lib.hid (gy.out.below hbr)
  replace gz := Lib.hid (gz.out.below hbr)
  replace hb := Lib.hid (below_up hb.out hb.out.size hbr)
  clear hbr
  clear y0 y1 y2
  obtain ⟨z0, z1, z2⟩ := gz.out.all
  have fz := gz.out.f
  obtain ⟨r0, r1, r2, hfin⟩ := last_set gz.out ⟨false, 0, 0⟩ hb.out (by omega)
  dsimp only at z0 z1 z2 r0 r1 r2 hfin
  replace hfin := Lib.hid hfin
  clear gx gz hb gy
  go_wp2_with fail
  (try simp only [Exit.inBlock, Exit.then])
  refine bodyPost_ret (by simp [results, Tryd.results27, go_sem, r0, r1, r2]; try rfl) rfl ?_
  exact ⟨rfl, hfin.out⟩

set_option maxRecDepth 100000 in
set_option maxHeartbeats 4000000 in
theorem do4_bad1 (xn yn : Bool) (xh xl yh yl : Int) (c1 : Ret 19 #[wv ⟨xn, xh, xl⟩] (.bool false)) : Ret 27 #[.int .i64 4, wv ⟨xn, xh, xl⟩, wv ⟨yn, yh, yl⟩] (.tuple #[wv zero, .int .i64 1]) := fun w => by
  unfold wv zero at *
  dsimp only at *
  replace c1 := Lib.hid c1
  go_enter Tryd.func27, Tryd.ntmps27
  go_wp2_with fail
  refine (c1.out.on _).mono ?_
  rintro e w1 ⟨rfl, hbr⟩
  obtain ⟨gx, gy, gz, hb⟩ := three_new (x := ⟨xn, xh, xl⟩) (y := ⟨yn, yh, yl⟩) (z := ⟨false, 0, 0⟩) hbr
  clear hbr
  replace gx := Lib.hid gx
  replace gy := Lib.hid gy
  replace gz := Lib.hid gz
  replace hb := Lib.hid hb
  obtain ⟨z0, z1, z2⟩ := gz.out.all
  have fz := gz.out.f
  obtain ⟨r0, r1, r2, hfin⟩ := last_set gz.out ⟨false, 0, 0⟩ hb.out (by omega)
  dsimp only at z0 z1 z2 r0 r1 r2 hfin
  replace hfin := Lib.hid hfin
  clear gx gz hb gy
  go_wp2_with fail
  (try simp only [Exit.inBlock, Exit.then])
  refine bodyPost_ret (by simp [results, Tryd.results27, go_sem, r0, r1, r2]; try rfl) rfl ?_
  exact ⟨rfl, hfin.out⟩

set_option maxRecDepth 100000 in
set_option maxHeartbeats 4000000 in
theorem do4_bad2 (xn yn : Bool) (xh xl yh yl : Int) (c1 : Ret 19 #[wv ⟨xn, xh, xl⟩] (.bool true)) (c2 : Ret 19 #[wv ⟨yn, yh, yl⟩] (.bool false)) : Ret 27 #[.int .i64 4, wv ⟨xn, xh, xl⟩, wv ⟨yn, yh, yl⟩] (.tuple #[wv zero, .int .i64 1]) := fun w => by
  unfold wv zero at *
  dsimp only at *
  replace c1 := Lib.hid c1
  replace c2 := Lib.hid c2
  go_enter Tryd.func27, Tryd.ntmps27
  go_wp2_with fail
  refine (c1.out.on _).mono ?_
  rintro e w1 ⟨rfl, hbr⟩
  obtain ⟨gx, gy, gz, hb⟩ := three_new (x := ⟨xn, xh, xl⟩) (y := ⟨yn, yh, yl⟩) (z := ⟨false, 0, 0⟩) hbr
  clear hbr
  replace gx := Lib.hid gx
  replace gy := Lib.hid gy
  replace gz := Lib.hid gz
  replace hb := Lib.hid hb
  obtain ⟨y0, y1, y2⟩ := gy.out.all
  dsimp only [zero] at y0 y1 y2
  go_wp2_with fail
  refine (c2.out.on _).mono ?_
  rintro e w2 ⟨rfl, hbr⟩
  replace gx := Lib.hid (gx.out.below hbr)
  replace gy := Lib.hid (gy.out.below hbr)
  replace gz := Lib.hid (gz.out.below hbr)
  replace hb := Lib.hid (below_up hb.out hb.out.size hbr)
  clear hbr
  clear y0 y1 y2
  obtain ⟨z0, z1, z2⟩ := gz.out.all
  have fz := gz.out.f
  obtain ⟨r0, r1, r2, hfin⟩ := last_set gz.out ⟨false, 0, 0⟩ hb.out (by omega)
  dsimp only at z0 z1 z2 r0 r1 r2 hfin
  replace hfin := Lib.hid hfin
  clear gx gz hb gy
  go_wp2_with fail
  (try simp only [Exit.inBlock, Exit.then])
  refine bodyPost_ret (by simp [results, Tryd.results27, go_sem, r0, r1, r2]; try rfl) rfl ?_
  exact ⟨rfl, hfin.out⟩

set_option maxRecDepth 100000 in
set_option maxHeartbeats 4000000 in
theorem do4_bad3 (xn yn : Bool) (xh xl : Int) (c1 : Ret 19 #[wv ⟨xn, xh, xl⟩] (.bool true)) (c2 : Ret 19 #[wv ⟨yn, 0, 0⟩] (.bool true)) : Ret 27 #[.int .i64 4, wv ⟨xn, xh, xl⟩, wv ⟨yn, 0, 0⟩] (.tuple #[wv zero, .int .i64 1]) := fun w => by
  unfold wv zero at *
  dsimp only at *
  replace c1 := Lib.hid c1
  replace c2 := Lib.hid c2
  go_enter Tryd.func27, Tryd.ntmps27
  go_wp2_with fail
  refine (c1.out.on _).mono ?_
  rintro e w1 ⟨rfl, hbr⟩
  obtain ⟨gx, gy, gz, hb⟩ := three_new (x := ⟨xn, xh, xl⟩) (y := ⟨yn, 0, 0⟩) (z := ⟨false, 0, 0⟩) hbr
  clear hbr
  replace gx := Lib.hid gx
  replace gy := Lib.hid gy
  replace gz := Lib.hid gz
  replace hb := Lib.hid hb
  obtain ⟨y0, y1, y2⟩ := gy.out.all
  dsimp only [zero] at y0 y1 y2
  go_wp2_with fail
  refine (c2.out.on _).mono ?_
  rintro e w2 ⟨rfl, hbr⟩
  replace gx := Lib.hid (gx.out.below hbr)
  replace gy := Lib.hid (gy.out.below hbr)
  replace gz := Lib.hid (gz.out.below hbr)
  replace hb := Lib.hid (below_up hb.out hb.out.size hbr)
  clear hbr
  clear y0 y1 y2
  obtain ⟨y0, y1, y2⟩ := gy.out.all
  dsimp only [zero] at y0 y1 y2
  obtain ⟨z0, z1, z2⟩ := gz.out.all
  have fz := gz.out.f
  obtain ⟨r0, r1, r2, hfin⟩ := last_set gz.out ⟨false, 0, 0⟩ hb.out (by omega)
  dsimp only at z0 z1 z2 r0 r1 r2 hfin
  replace hfin := Lib.hid hfin
  clear gx gz hb gy
  go_wp2_with fail
  (try simp only [Exit.inBlock, Exit.then])
  refine bodyPost_ret (by simp [results, Tryd.results27, go_sem, r0, r1, r2]; try rfl) rfl ?_
  exact ⟨rfl, hfin.out⟩

set_option maxRecDepth 100000 in
set_option maxHeartbeats 4000000 in
theorem do5_bad1 (xn yn : Bool) (xh xl yh yl : Int) (c1 : Ret 19 #[wv ⟨xn, xh, xl⟩] (.bool false)) : Ret 27 #[.int .i64 5, wv ⟨xn, xh, xl⟩, wv ⟨yn, yh, yl⟩] (.tuple #[wv zero, .int .i64 1]) := fun w => by
  unfold wv zero at *
  dsimp only at *
  replace c1 := Lib.hid c1
  go_enter Tryd.func27, Tryd.ntmps27
  go_wp2_with fail
  refine (c1.out.on _).mono ?_
  rintro e w1 ⟨rfl, hbr⟩
  obtain ⟨gx, gy, gz, hb⟩ := three_new (x := ⟨xn, xh, xl⟩) (y := ⟨yn, yh, yl⟩) (z := ⟨false, 0, 0⟩) hbr
  clear hbr
  replace gx := Lib.hid gx
  replace gy := Lib.hid gy
  replace gz := Lib.hid gz
  replace hb := Lib.hid hb
  obtain ⟨z0, z1, z2⟩ := gz.out.all
  have fz := gz.out.f
  obtain ⟨r0, r1, r2, hfin⟩ := last_set gz.out ⟨false, 0, 0⟩ hb.out (by omega)
  dsimp only at z0 z1 z2 r0 r1 r2 hfin
  replace hfin := Lib.hid hfin
  clear gx gz hb gy
  go_wp2_with fail
  (try simp only [Exit.inBlock, Exit.then])
  refine bodyPost_ret (by simp [results, Tryd.results27, go_sem, r0, r1, r2]; try rfl) rfl ?_
  exact ⟨rfl, hfin.out⟩

set_option maxRecDepth 100000 in
set_option maxHeartbeats 4000000 in
theorem do5_bad2 (xn yn : Bool) (xh xl yh yl : Int) (c1 : Ret 19 #[wv ⟨xn, xh, xl⟩] (.bool true)) (c2 : Ret 19 #[wv ⟨yn, yh, yl⟩] (.bool false)) : Ret 27 #[.int .i64 5, wv ⟨xn, xh, xl⟩, wv ⟨yn, yh, yl⟩] (.tuple #[wv zero, .int .i64 1]) := fun w => by
  unfold wv zero at *
  dsimp only at *
  replace c1 := Lib.hid c1
  replace c2 := Lib.hid c2
  go_enter Tryd.func27, Tryd.ntmps27
  go_wp2_with fail
  refine (c1.out.on _).mono ?_
  rintro e w1 ⟨rfl, hbr⟩
  obtain ⟨gx, gy, gz, hb⟩ := three_new (x := ⟨xn, xh, xl⟩) (y := ⟨yn, yh, yl⟩) (z := ⟨false, 0, 0⟩) hbr
  clear hbr
  replace gx := Lib.hid gx
  replace gy := Lib.hid gy
  replace gz := Lib.hid gz
  replace hb := Lib.hid hb
  obtain ⟨y0, y1, y2⟩ := gy.out.all
  dsimp only [zero] at y0 y1 y2
  go_wp2_with fail
  refine (c2.out.on _).mono ?_
  rintro e w2 ⟨rfl, hbr⟩
  replace gx := Lib.hid (gx.out.below hbr)
  replace gy := Lib.hid (gy.out.below hbr)
  replace gz := Lib.hid (gz.out.below hbr)
  replace hb := Lib.hid (below_up hb.out hb.out.size hbr)
  clear hbr
  clear y0 y1 y2
  obtain ⟨z0, z1, z2⟩ := gz.out.all
  have fz := gz.out.f
  obtain ⟨r0, r1, r2, hfin⟩ := last_set gz.out ⟨false, 0, 0⟩ hb.out (by omega)
  dsimp only at z0 z1 z2 r0 r1 r2 hfin
  replace hfin := Lib.hid hfin
  clear gx gz hb gy
  go_wp2_with fail
  (try simp only [Exit.inBlock, Exit.then])
  refine bodyPost_ret (by simp [results, Tryd.results27, go_sem, r0, r1, r2]; try rfl) rfl ?_
  exact ⟨rfl, hfin.out⟩

set_option maxRecDepth 100000 in
set_option maxHeartbeats 4000000 in
theorem do5_bad3 (xn yn : Bool) (xh xl : Int) (c1 : Ret 19 #[wv ⟨xn, xh, xl⟩] (.bool true)) (c2 : Ret 19 #[wv ⟨yn, 0, 0⟩] (.bool true)) : Ret 27 #[.int .i64 5, wv ⟨xn, xh, xl⟩, wv ⟨yn, 0, 0⟩] (.tuple #[wv zero, .int .i64 1]) := fun w => by
  unfold wv zero at *
  dsimp only at *
  replace c1 := Lib.hid c1
  replace c2 := Lib.hid c2
  go_enter Tryd.func27, Tryd.ntmps27
  go_wp2_with fail
  refine (c1.out.on _).mono ?_
  rintro e w1 ⟨rfl, hbr⟩
  obtain ⟨gx, gy, gz, hb⟩ := three_new (x := ⟨xn, xh, xl⟩) (y := ⟨yn, 0, 0⟩) (z := ⟨false, 0, 0⟩) hbr
  clear hbr
  replace gx := Lib.hid gx
  replace gy := Lib.hid gy
  replace gz := Lib.hid gz
  replace hb := Lib.hid hb
  obtain ⟨y0, y1, y2⟩ := gy.out.all
  dsimp only [zero] at y0 y1 y2
  go_wp2_with fail
  refine (c2.out.on _).mono ?_
  rintro e w2 ⟨rfl, hbr⟩
  replace gx := Lib.hid (gx.out.below hbr)
  replace gy := Lib.hid (gy.out.below hbr)
  replace gz := Lib.hid (gz.out.below hbr)
  replace hb := Lib.hid (below_up hb.out hb.out.size hbr)
  clear hbr
  clear y0 y1 y2
  obtain ⟨y0, y1, y2⟩ := gy.out.all
  dsimp only [zero] at y0 y1 y2
  obtain ⟨z0, z1, z2⟩ := gz.out.all
  have fz := gz.out.f
  obtain ⟨r0, r1, r2, hfin⟩ := last_set gz.out ⟨false, 0, 0⟩ hb.out (by omega)
  dsimp only at z0 z1 z2 r0 r1 r2 hfin
  replace hfin := Lib.hid hfin
  clear gx gz hb gy
  go_wp2_with fail
  (try simp only [Exit.inBlock, Exit.then])
  refine bodyPost_ret (by simp [results, Tryd.results27, go_sem, r0, r1, r2]; try rfl) rfl ?_
  exact ⟨rfl, hfin.out⟩
end Go.Proofs.YtbfigpollacngaaDoor
