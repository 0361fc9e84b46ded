/- the walks over retrofitref01, eighth part: what is done, an op each -/
import Derived.Test.YtbfigpollacngaaDoorNmW7
namespace Go.Proofs.YtbfigpollacngaaDoor
open Go.RowKit
open Rf
open Wide
theorem IsN.rowN {w : World} {b c : Nat} {x : WI} (h : IsN w b x) (hne : b ≠ c) (r : Array Value) : IsN (w.setRow c r) b x := (setRow_other w c b r hne).trans h

set_option maxRecDepth 100000 in
set_option maxHeartbeats 16000000 in
theorem do1_t (xn yn on : Bool) (xh xl yh yl : Int) (dx dy od : List Int) (rn : Bool) (rh rl : Int) (hx : dx.length = 40) (hy : dy.length = 40)
    (c1 : Ret 19 #[wv ⟨xn, xh, xl⟩] (.bool true)) (c2 : Ret 19 #[wv ⟨yn, yh, yl⟩] (.bool true)) (c3 : Ret 40 #[wv ⟨xn, xh, xl⟩] (nv xn dx)) (c4 : Ret 40 #[wv ⟨yn, yh, yl⟩] (nv yn dy))
    (cm : Ret 44 #[nv xn dx, nv yn dy] (nv on od)) (ho : od.length = 40) (ct : Ret 46 #[nv on od] (.tuple #[wv ⟨rn, rh, rl⟩, .bool true])) :
    Ret 27 #[.int .i64 1, wv ⟨xn, xh, xl⟩, wv ⟨yn, yh, yl⟩] (.tuple #[wv ⟨rn, rh, rl⟩, .int .i64 0]) := fun w => by
  unfold wv at *
  dsimp only at *
  replace c1 := Lib.hid c1
  replace c2 := Lib.hid c2
  replace c3 := Lib.hid c3
  replace c4 := Lib.hid c4
  replace cm := Lib.hid cm
  replace ct := Lib.hid ct
  go_enter Tryd.func27, Tryd.ntmps27
  go_wp2_with fail
  refine (c1.out.on _).mono ?_
  rintro e w1 ⟨rfl, hbr⟩
  obtain ⟨gx, gy, gz, hb⟩ := three_new (x := ⟨xn, xh, xl⟩) (y := ⟨yn, yh, yl⟩) (z := ⟨false, 0, 0⟩) hbr
  clear hbr
  replace gx := Lib.hid gx
  replace gy := Lib.hid gy
  replace gz := Lib.hid gz
  replace hb := Lib.hid hb
  obtain ⟨y0, y1, y2⟩ := gy.out.all
  dsimp only [zero] at y0 y1 y2
  go_wp2_with fail
  refine (c2.out.on _).mono ?_
  rintro e w2 ⟨rfl, hbr⟩
  replace gx := Lib.hid (gx.out.below hbr)
  replace gy := Lib.hid (gy.out.below hbr)
  replace gz := Lib.hid (gz.out.below hbr)
  replace hb := Lib.hid (below_up hb.out hb.out.size hbr)
  clear hbr
  clear y0 y1 y2
  obtain ⟨x0, x1, x2⟩ := gx.out.all
  dsimp only [zero] at x0 x1 x2
  go_wp2_with fail
  refine (c3.out.on _).mono ?_
  rintro e w3 ⟨rfl, hbr⟩
  replace gx := Lib.hid (gx.out.below hbr)
  replace gy := Lib.hid (gy.out.below hbr)
  replace gz := Lib.hid (gz.out.below hbr)
  replace hb := Lib.hid (below_up hb.out hb.out.size hbr)
  clear hbr
  clear x0 x1 x2
  replace gx := Lib.hid (gx.out.alloc (oD xn dx))
  replace gy := Lib.hid (gy.out.alloc (oD xn dx))
  replace gz := Lib.hid (gz.out.alloc (oD xn dx))
  have ga := Lib.hid (show IsD (w3.alloc (oD xn dx)) w3.heap.size xn dx from IsD.new w3 xn dx)
  replace hb := Lib.hid (hb.out.alloc hb.out.size (oD xn dx))
  obtain ⟨y0, y1, y2⟩ := gy.out.all
  dsimp only [zero] at y0 y1 y2
  go_wp2_with (first | (with_reducible refine wpl_nalloc rfl rfl ?_) | (with_reducible refine wpl_nbuild0 rfl rfl ?_) | (with_reducible refine wpl_nstore_new rfl rfl rfl rfl rfl rfl hx ?_))
  refine (c4.out.on _).mono ?_
  rintro e w4 ⟨rfl, hbr⟩
  replace gx := Lib.hid (gx.out.below hbr)
  replace gy := Lib.hid (gy.out.below hbr)
  replace gz := Lib.hid (gz.out.below hbr)
  replace ga := Lib.hid (ga.out.call hbr)
  replace hb := Lib.hid (below_up hb.out hb.out.size hbr)
  clear hbr
  clear y0 y1 y2
  have q3 := Lib.hid (gz.out.lt)
  have q4 := Lib.hid (ga.out.lt)
  replace gx := Lib.hid (gx.out.alloc (oD yn dy))
  replace gy := Lib.hid (gy.out.alloc (oD yn dy))
  replace gz := Lib.hid (gz.out.alloc (oD yn dy))
  replace ga := Lib.hid (ga.out.alloc (oD yn dy))
  have gb := Lib.hid (show IsD (w4.alloc (oD yn dy)) w4.heap.size yn dy from IsD.new w4 yn dy)
  replace hb := Lib.hid (hb.out.alloc hb.out.size (oD yn dy))
  replace gx := Lib.hid (gx.out.alloc (oD false Z40))
  replace gy := Lib.hid (gy.out.alloc (oD false Z40))
  replace gz := Lib.hid (gz.out.alloc (oD false Z40))
  replace ga := Lib.hid (ga.out.alloc (oD false Z40))
  replace gb := Lib.hid (gb.out.alloc (oD false Z40))
  have go := Lib.hid (show IsD ((w4.alloc (oD yn dy)).alloc (oD false Z40)) (w4.heap.size + 1) false Z40 from (by have := IsD.new (w4.alloc (oD yn dy)) false Z40; rwa [size_alloc] at this))
  replace hb := Lib.hid (hb.out.alloc hb.out.size (oD false Z40))
  go_upto_region 13 with (first | (with_reducible refine wpl_nalloc rfl rfl ?_) | (with_reducible refine wpl_nbuild0 rfl rfl ?_) | (with_reducible refine wpl_nstore_new rfl rfl rfl rfl (by simp) rfl hy ?_) | (with_reducible refine wpl_nstore_new rfl rfl rfl rfl (by simp) rfl rfl ?_))
  generalize (w4.alloc (oD yn dy)).alloc (oD false Z40) = v1 at *
  replace q3 := q3.out
  replace q4 := q4.out
  have ga' := ga.out
  have gb' := gb.out
  go_wp2_with (first | (with_reducible refine wpl_nload rfl rfl rfl ga' hx ?_) | (with_reducible refine wpl_nload rfl rfl rfl gb' hy ?_))
  clear ga' gb'
  refine (cm.out.on _).mono ?_
  rintro e w5 ⟨rfl, hbr⟩
  replace gx := Lib.hid (gx.out.below hbr)
  replace gy := Lib.hid (gy.out.below hbr)
  replace gz := Lib.hid (gz.out.below hbr)
  replace ga := Lib.hid (ga.out.call hbr)
  replace gb := Lib.hid (gb.out.call hbr)
  replace go := Lib.hid (go.out.call hbr)
  replace hb := Lib.hid (below_up hb.out hb.out.size hbr)
  clear hbr
  have go' := go.out
  go_upto_region 20 with (first | (with_reducible refine wpl_nstore rfl rfl rfl rfl go' rfl ho ?_))
  clear go'
  replace gx := Lib.hid (gx.out.rowN (c := w4.heap.size + 1) (by omega) (nc on od).toArray)
  replace gy := Lib.hid (gy.out.rowN (c := w4.heap.size + 1) (by omega) (nc on od).toArray)
  replace gz := Lib.hid (gz.out.rowN (c := w4.heap.size + 1) (by omega) (nc on od).toArray)
  replace ga := Lib.hid (ga.out.row_other (c := w4.heap.size + 1) (by omega) (nc on od).toArray)
  replace gb := Lib.hid (gb.out.row_other (c := w4.heap.size + 1) (by omega) (nc on od).toArray)
  replace go := Lib.hid (go.out.row on od)
  replace hb := Lib.hid (below_row hb.out (show w.heap.size ≤ w4.heap.size + 1 by omega) (nc on od).toArray)
  generalize w5.setRow (w4.heap.size + 1) (nc on od).toArray = v2 at *
  have go' := go.out
  go_wp2_with (first | (with_reducible refine wpl_nload rfl rfl rfl go' ho ?_))
  clear go'
  refine (ct.out.on _).mono ?_
  rintro e w6 ⟨rfl, hbr⟩
  have gz2 := (gz.out.below hbr).alloc (oN ⟨rn, rh, rl⟩)
  have gr2 : IsN (w6.alloc (oN ⟨rn, rh, rl⟩)) w6.heap.size ⟨rn, rh, rl⟩ := IsN.new w6 ⟨rn, rh, rl⟩
  have hb2 := (below_up hb.out hb.out.size hbr).alloc (by have := hb.out.size; have := hbr.size; omega) (oN ⟨rn, rh, rl⟩)
  clear hbr gx gy gz ga gb go hb
  obtain ⟨z0, z1, z2⟩ := gz2.all
  have fz := gz2.f
  obtain ⟨y0, y1, y2⟩ := gr2.all
  obtain ⟨r0, r1, r2, hfin⟩ := last_set gz2 ⟨rn, rh, rl⟩ hb2 (by omega)
  dsimp only at z0 z1 z2 y0 y1 y2 r0 r1 r2 hfin
  replace hfin := Lib.hid hfin
  replace gz2 := Lib.hid gz2
  replace gr2 := Lib.hid gr2
  replace hb2 := Lib.hid hb2
  go_wp2_with fail
  (try simp only [Exit.inBlock, Exit.then])
  refine bodyPost_ret (by simp [results, Tryd.results27, go_sem, r0, r1, r2]; try rfl) rfl ?_
  exact ⟨rfl, hfin.out⟩

set_option maxRecDepth 100000 in
set_option maxHeartbeats 16000000 in
theorem do1_f (xn yn on : Bool) (xh xl yh yl : Int) (dx dy od : List Int) (rn : Bool) (rh rl : Int) (hx : dx.length = 40) (hy : dy.length = 40)
    (c1 : Ret 19 #[wv ⟨xn, xh, xl⟩] (.bool true)) (c2 : Ret 19 #[wv ⟨yn, yh, yl⟩] (.bool true)) (c3 : Ret 40 #[wv ⟨xn, xh, xl⟩] (nv xn dx)) (c4 : Ret 40 #[wv ⟨yn, yh, yl⟩] (nv yn dy))
    (cm : Ret 44 #[nv xn dx, nv yn dy] (nv on od)) (ho : od.length = 40) (ct : Ret 46 #[nv on od] (.tuple #[wv ⟨rn, rh, rl⟩, .bool false])) :
    Ret 27 #[.int .i64 1, wv ⟨xn, xh, xl⟩, wv ⟨yn, yh, yl⟩] (.tuple #[wv zero, .int .i64 3]) := fun w => by
  unfold wv at *
  dsimp only at *
  replace c1 := Lib.hid c1
  replace c2 := Lib.hid c2
  replace c3 := Lib.hid c3
  replace c4 := Lib.hid c4
  replace cm := Lib.hid cm
  replace ct := Lib.hid ct
  go_enter Tryd.func27, Tryd.ntmps27
  go_wp2_with fail
  refine (c1.out.on _).mono ?_
  rintro e w1 ⟨rfl, hbr⟩
  obtain ⟨gx, gy, gz, hb⟩ := three_new (x := ⟨xn, xh, xl⟩) (y := ⟨yn, yh, yl⟩) (z := ⟨false, 0, 0⟩) hbr
  clear hbr
  replace gx := Lib.hid gx
  replace gy := Lib.hid gy
  replace gz := Lib.hid gz
  replace hb := Lib.hid hb
  obtain ⟨y0, y1, y2⟩ := gy.out.all
  dsimp only [zero] at y0 y1 y2
  go_wp2_with fail
  refine (c2.out.on _).mono ?_
  rintro e w2 ⟨rfl, hbr⟩
  replace gx := Lib.hid (gx.out.below hbr)
  replace gy := Lib.hid (gy.out.below hbr)
  replace gz := Lib.hid (gz.out.below hbr)
  replace hb := Lib.hid (below_up hb.out hb.out.size hbr)
  clear hbr
  clear y0 y1 y2
  obtain ⟨x0, x1, x2⟩ := gx.out.all
  dsimp only [zero] at x0 x1 x2
  go_wp2_with fail
  refine (c3.out.on _).mono ?_
  rintro e w3 ⟨rfl, hbr⟩
  replace gx := Lib.hid (gx.out.below hbr)
  replace gy := Lib.hid (gy.out.below hbr)
  replace gz := Lib.hid (gz.out.below hbr)
  replace hb := Lib.hid (below_up hb.out hb.out.size hbr)
  clear hbr
  clear x0 x1 x2
  replace gx := Lib.hid (gx.out.alloc (oD xn dx))
  replace gy := Lib.hid (gy.out.alloc (oD xn dx))
  replace gz := Lib.hid (gz.out.alloc (oD xn dx))
  have ga := Lib.hid (show IsD (w3.alloc (oD xn dx)) w3.heap.size xn dx from IsD.new w3 xn dx)
  replace hb := Lib.hid (hb.out.alloc hb.out.size (oD xn dx))
  obtain ⟨y0, y1, y2⟩ := gy.out.all
  dsimp only [zero] at y0 y1 y2
  go_wp2_with (first | (with_reducible refine wpl_nalloc rfl rfl ?_) | (with_reducible refine wpl_nbuild0 rfl rfl ?_) | (with_reducible refine wpl_nstore_new rfl rfl rfl rfl rfl rfl hx ?_))
  refine (c4.out.on _).mono ?_
  rintro e w4 ⟨rfl, hbr⟩
  replace gx := Lib.hid (gx.out.below hbr)
  replace gy := Lib.hid (gy.out.below hbr)
  replace gz := Lib.hid (gz.out.below hbr)
  replace ga := Lib.hid (ga.out.call hbr)
  replace hb := Lib.hid (below_up hb.out hb.out.size hbr)
  clear hbr
  clear y0 y1 y2
  have q3 := Lib.hid (gz.out.lt)
  have q4 := Lib.hid (ga.out.lt)
  replace gx := Lib.hid (gx.out.alloc (oD yn dy))
  replace gy := Lib.hid (gy.out.alloc (oD yn dy))
  replace gz := Lib.hid (gz.out.alloc (oD yn dy))
  replace ga := Lib.hid (ga.out.alloc (oD yn dy))
  have gb := Lib.hid (show IsD (w4.alloc (oD yn dy)) w4.heap.size yn dy from IsD.new w4 yn dy)
  replace hb := Lib.hid (hb.out.alloc hb.out.size (oD yn dy))
  replace gx := Lib.hid (gx.out.alloc (oD false Z40))
  replace gy := Lib.hid (gy.out.alloc (oD false Z40))
  replace gz := Lib.hid (gz.out.alloc (oD false Z40))
  replace ga := Lib.hid (ga.out.alloc (oD false Z40))
  replace gb := Lib.hid (gb.out.alloc (oD false Z40))
  have go := Lib.hid (show IsD ((w4.alloc (oD yn dy)).alloc (oD false Z40)) (w4.heap.size + 1) false Z40 from (by have := IsD.new (w4.alloc (oD yn dy)) false Z40; rwa [size_alloc] at this))
  replace hb := Lib.hid (hb.out.alloc hb.out.size (oD false Z40))
  go_upto_region 13 with (first | (with_reducible refine wpl_nalloc rfl rfl ?_) | (with_reducible refine wpl_nbuild0 rfl rfl ?_) | (with_reducible refine wpl_nstore_new rfl rfl rfl rfl (by simp) rfl hy ?_) | (with_reducible refine wpl_nstore_new rfl rfl rfl rfl (by simp) rfl rfl ?_))
  generalize (w4.alloc (oD yn dy)).alloc (oD false Z40) = v1 at *
  replace q3 := q3.out
  replace q4 := q4.out
  have ga' := ga.out
  have gb' := gb.out
  go_wp2_with (first | (with_reducible refine wpl_nload rfl rfl rfl ga' hx ?_) | (with_reducible refine wpl_nload rfl rfl rfl gb' hy ?_))
  clear ga' gb'
  refine (cm.out.on _).mono ?_
  rintro e w5 ⟨rfl, hbr⟩
  replace gx := Lib.hid (gx.out.below hbr)
  replace gy := Lib.hid (gy.out.below hbr)
  replace gz := Lib.hid (gz.out.below hbr)
  replace ga := Lib.hid (ga.out.call hbr)
  replace gb := Lib.hid (gb.out.call hbr)
  replace go := Lib.hid (go.out.call hbr)
  replace hb := Lib.hid (below_up hb.out hb.out.size hbr)
  clear hbr
  have go' := go.out
  go_upto_region 20 with (first | (with_reducible refine wpl_nstore rfl rfl rfl rfl go' rfl ho ?_))
  clear go'
  replace gx := Lib.hid (gx.out.rowN (c := w4.heap.size + 1) (by omega) (nc on od).toArray)
  replace gy := Lib.hid (gy.out.rowN (c := w4.heap.size + 1) (by omega) (nc on od).toArray)
  replace gz := Lib.hid (gz.out.rowN (c := w4.heap.size + 1) (by omega) (nc on od).toArray)
  replace ga := Lib.hid (ga.out.row_other (c := w4.heap.size + 1) (by omega) (nc on od).toArray)
  replace gb := Lib.hid (gb.out.row_other (c := w4.heap.size + 1) (by omega) (nc on od).toArray)
  replace go := Lib.hid (go.out.row on od)
  replace hb := Lib.hid (below_row hb.out (show w.heap.size ≤ w4.heap.size + 1 by omega) (nc on od).toArray)
  generalize w5.setRow (w4.heap.size + 1) (nc on od).toArray = v2 at *
  have go' := go.out
  go_wp2_with (first | (with_reducible refine wpl_nload rfl rfl rfl go' ho ?_))
  clear go'
  refine (ct.out.on _).mono ?_
  rintro e w6 ⟨rfl, hbr⟩
  have gz2 := (gz.out.below hbr).alloc (oN ⟨rn, rh, rl⟩)
  have gr2 : IsN (w6.alloc (oN ⟨rn, rh, rl⟩)) w6.heap.size ⟨rn, rh, rl⟩ := IsN.new w6 ⟨rn, rh, rl⟩
  have hb2 := (below_up hb.out hb.out.size hbr).alloc (by have := hb.out.size; have := hbr.size; omega) (oN ⟨rn, rh, rl⟩)
  clear hbr gx gy gz ga gb go hb
  obtain ⟨z0, z1, z2⟩ := gz2.all
  have fz := gz2.f
  obtain ⟨y0, y1, y2⟩ := gr2.all
  obtain ⟨r0, r1, r2, hfin⟩ := last_set gz2 ⟨false, 0, 0⟩ hb2 (by omega)
  dsimp only at z0 z1 z2 y0 y1 y2 r0 r1 r2 hfin
  replace hfin := Lib.hid hfin
  replace gz2 := Lib.hid gz2
  replace gr2 := Lib.hid gr2
  replace hb2 := Lib.hid hb2
  go_wp2_with fail
  (try simp only [Exit.inBlock, Exit.then])
  refine bodyPost_ret (by simp [results, Tryd.results27, go_sem, r0, r1, r2]; try rfl) rfl ?_
  exact ⟨rfl, hfin.out⟩

set_option maxRecDepth 100000 in
set_option maxHeartbeats 16000000 in
theorem do2_t (xn yn on : Bool) (xh xl yh yl : Int) (dx dy od : List Int) (rn : Bool) (rh rl : Int) (hx : dx.length = 40) (hy : dy.length = 40)
    (c1 : Ret 19 #[wv ⟨xn, xh, xl⟩] (.bool true)) (c2 : Ret 19 #[wv ⟨yn, yh, yl⟩] (.bool true)) (c3 : Ret 40 #[wv ⟨xn, xh, xl⟩] (nv xn dx)) (c4 : Ret 40 #[wv ⟨yn, yh, yl⟩] (nv yn dy))
    (cm : Ret 44 #[nv xn dx, nv (!yn) dy] (nv on od)) (ho : od.length = 40) (ct : Ret 46 #[nv on od] (.tuple #[wv ⟨rn, rh, rl⟩, .bool true])) :
    Ret 27 #[.int .i64 2, wv ⟨xn, xh, xl⟩, wv ⟨yn, yh, yl⟩] (.tuple #[wv ⟨rn, rh, rl⟩, .int .i64 0]) := fun w => by
  unfold wv at *
  dsimp only at *
  replace c1 := Lib.hid c1
  replace c2 := Lib.hid c2
  replace c3 := Lib.hid c3
  replace c4 := Lib.hid c4
  replace cm := Lib.hid cm
  replace ct := Lib.hid ct
  go_enter Tryd.func27, Tryd.ntmps27
  go_wp2_with fail
  refine (c1.out.on _).mono ?_
  rintro e w1 ⟨rfl, hbr⟩
  obtain ⟨gx, gy, gz, hb⟩ := three_new (x := ⟨xn, xh, xl⟩) (y := ⟨yn, yh, yl⟩) (z := ⟨false, 0, 0⟩) hbr
  clear hbr
  replace gx := Lib.hid gx
  replace gy := Lib.hid gy
  replace gz := Lib.hid gz
  replace hb := Lib.hid hb
  obtain ⟨y0, y1, y2⟩ := gy.out.all
  dsimp only [zero] at y0 y1 y2
  go_wp2_with fail
  refine (c2.out.on _).mono ?_
  rintro e w2 ⟨rfl, hbr⟩
  replace gx := Lib.hid (gx.out.below hbr)
  replace gy := Lib.hid (gy.out.below hbr)
  replace gz := Lib.hid (gz.out.below hbr)
  replace hb := Lib.hid (below_up hb.out hb.out.size hbr)
  clear hbr
  clear y0 y1 y2
  obtain ⟨x0, x1, x2⟩ := gx.out.all
  dsimp only [zero] at x0 x1 x2
  go_wp2_with fail
  refine (c3.out.on _).mono ?_
  rintro e w3 ⟨rfl, hbr⟩
  replace gx := Lib.hid (gx.out.below hbr)
  replace gy := Lib.hid (gy.out.below hbr)
  replace gz := Lib.hid (gz.out.below hbr)
  replace hb := Lib.hid (below_up hb.out hb.out.size hbr)
  clear hbr
  clear x0 x1 x2
  replace gx := Lib.hid (gx.out.alloc (oD xn dx))
  replace gy := Lib.hid (gy.out.alloc (oD xn dx))
  replace gz := Lib.hid (gz.out.alloc (oD xn dx))
  have ga := Lib.hid (show IsD (w3.alloc (oD xn dx)) w3.heap.size xn dx from IsD.new w3 xn dx)
  replace hb := Lib.hid (hb.out.alloc hb.out.size (oD xn dx))
  obtain ⟨y0, y1, y2⟩ := gy.out.all
  dsimp only [zero] at y0 y1 y2
  go_wp2_with (first | (with_reducible refine wpl_nalloc rfl rfl ?_) | (with_reducible refine wpl_nbuild0 rfl rfl ?_) | (with_reducible refine wpl_nstore_new rfl rfl rfl rfl rfl rfl hx ?_))
  refine (c4.out.on _).mono ?_
  rintro e w4 ⟨rfl, hbr⟩
  replace gx := Lib.hid (gx.out.below hbr)
  replace gy := Lib.hid (gy.out.below hbr)
  replace gz := Lib.hid (gz.out.below hbr)
  replace ga := Lib.hid (ga.out.call hbr)
  replace hb := Lib.hid (below_up hb.out hb.out.size hbr)
  clear hbr
  clear y0 y1 y2
  have q3 := Lib.hid (gz.out.lt)
  have q4 := Lib.hid (ga.out.lt)
  replace gx := Lib.hid (gx.out.alloc (oD yn dy))
  replace gy := Lib.hid (gy.out.alloc (oD yn dy))
  replace gz := Lib.hid (gz.out.alloc (oD yn dy))
  replace ga := Lib.hid (ga.out.alloc (oD yn dy))
  have gb := Lib.hid (show IsD (w4.alloc (oD yn dy)) w4.heap.size yn dy from IsD.new w4 yn dy)
  replace hb := Lib.hid (hb.out.alloc hb.out.size (oD yn dy))
  replace gx := Lib.hid (gx.out.alloc (oD false Z40))
  replace gy := Lib.hid (gy.out.alloc (oD false Z40))
  replace gz := Lib.hid (gz.out.alloc (oD false Z40))
  replace ga := Lib.hid (ga.out.alloc (oD false Z40))
  replace gb := Lib.hid (gb.out.alloc (oD false Z40))
  have go := Lib.hid (show IsD ((w4.alloc (oD yn dy)).alloc (oD false Z40)) (w4.heap.size + 1) false Z40 from (by have := IsD.new (w4.alloc (oD yn dy)) false Z40; rwa [size_alloc] at this))
  replace hb := Lib.hid (hb.out.alloc hb.out.size (oD false Z40))
  go_upto_region 13 with (first | (with_reducible refine wpl_nalloc rfl rfl ?_) | (with_reducible refine wpl_nbuild0 rfl rfl ?_) | (with_reducible refine wpl_nstore_new rfl rfl rfl rfl (by simp) rfl hy ?_) | (with_reducible refine wpl_nstore_new rfl rfl rfl rfl (by simp) rfl rfl ?_))
  generalize (w4.alloc (oD yn dy)).alloc (oD false Z40) = v1 at *
  replace q3 := q3.out
  replace q4 := q4.out
  have n0 := gb.out.neg
  have f0 := gb.out.f 0
  go_upto_region 17 with fail
  clear n0 f0
  replace gx := Lib.hid (gx.out.set_other (c := w4.heap.size) (i := 0) (v := .bool (!yn)) (by omega))
  replace gy := Lib.hid (gy.out.set_other (c := w4.heap.size) (i := 0) (v := .bool (!yn)) (by omega))
  replace gz := Lib.hid (gz.out.set_other (c := w4.heap.size) (i := 0) (v := .bool (!yn)) (by omega))
  replace ga := Lib.hid (ga.out.set_other (c := w4.heap.size) (i := 0) (v := .bool (!yn)) (by omega))
  replace gb := Lib.hid (IsD.set0 (m := (!yn)) gb.out)
  replace go := Lib.hid (go.out.set_other (c := w4.heap.size) (i := 0) (v := .bool (!yn)) (by omega))
  replace hb := Lib.hid (hb.out.setCell (show w.heap.size ≤ (⟨w4.heap.size, 0, none⟩ : Addr).block by show w.heap.size ≤ w4.heap.size; omega) (.bool (!yn)))
  generalize v1.setCell ⟨w4.heap.size, 0, none⟩ (.bool (!yn)) = v2 at *
  have ga' := ga.out
  have gb' := gb.out
  go_wp2_with (first | (with_reducible refine wpl_nload rfl rfl rfl ga' hx ?_) | (with_reducible refine wpl_nload rfl rfl rfl gb' hy ?_))
  clear ga' gb'
  refine (cm.out.on _).mono ?_
  rintro e w5 ⟨rfl, hbr⟩
  replace gx := Lib.hid (gx.out.below hbr)
  replace gy := Lib.hid (gy.out.below hbr)
  replace gz := Lib.hid (gz.out.below hbr)
  replace ga := Lib.hid (ga.out.call hbr)
  replace gb := Lib.hid (gb.out.call hbr)
  replace go := Lib.hid (go.out.call hbr)
  replace hb := Lib.hid (below_up hb.out hb.out.size hbr)
  clear hbr
  have go' := go.out
  go_upto_region 20 with (first | (with_reducible refine wpl_nstore rfl rfl rfl rfl go' rfl ho ?_))
  clear go'
  replace gx := Lib.hid (gx.out.rowN (c := w4.heap.size + 1) (by omega) (nc on od).toArray)
  replace gy := Lib.hid (gy.out.rowN (c := w4.heap.size + 1) (by omega) (nc on od).toArray)
  replace gz := Lib.hid (gz.out.rowN (c := w4.heap.size + 1) (by omega) (nc on od).toArray)
  replace ga := Lib.hid (ga.out.row_other (c := w4.heap.size + 1) (by omega) (nc on od).toArray)
  replace gb := Lib.hid (gb.out.row_other (c := w4.heap.size + 1) (by omega) (nc on od).toArray)
  replace go := Lib.hid (go.out.row on od)
  replace hb := Lib.hid (below_row hb.out (show w.heap.size ≤ w4.heap.size + 1 by omega) (nc on od).toArray)
  generalize w5.setRow (w4.heap.size + 1) (nc on od).toArray = v3 at *
  have go' := go.out
  go_wp2_with (first | (with_reducible refine wpl_nload rfl rfl rfl go' ho ?_))
  clear go'
  refine (ct.out.on _).mono ?_
  rintro e w6 ⟨rfl, hbr⟩
  have gz2 := (gz.out.below hbr).alloc (oN ⟨rn, rh, rl⟩)
  have gr2 : IsN (w6.alloc (oN ⟨rn, rh, rl⟩)) w6.heap.size ⟨rn, rh, rl⟩ := IsN.new w6 ⟨rn, rh, rl⟩
  have hb2 := (below_up hb.out hb.out.size hbr).alloc (by have := hb.out.size; have := hbr.size; omega) (oN ⟨rn, rh, rl⟩)
  clear hbr gx gy gz ga gb go hb
  obtain ⟨z0, z1, z2⟩ := gz2.all
  have fz := gz2.f
  obtain ⟨y0, y1, y2⟩ := gr2.all
  obtain ⟨r0, r1, r2, hfin⟩ := last_set gz2 ⟨rn, rh, rl⟩ hb2 (by omega)
  dsimp only at z0 z1 z2 y0 y1 y2 r0 r1 r2 hfin
  replace hfin := Lib.hid hfin
  replace gz2 := Lib.hid gz2
  replace gr2 := Lib.hid gr2
  replace hb2 := Lib.hid hb2
  go_wp2_with fail
  (try simp only [Exit.inBlock, Exit.then])
  refine bodyPost_ret (by simp [results, Tryd.results27, go_sem, r0, r1, r2]; try rfl) rfl ?_
  exact ⟨rfl, hfin.out⟩

set_option maxRecDepth 100000 in
set_option maxHeartbeats 16000000 in
theorem do2_f (xn yn on : Bool) (xh xl yh yl : Int) (dx dy od : List Int) (rn : Bool) (rh rl : Int) (hx : dx.length = 40) (hy : dy.length = 40)
    (c1 : Ret 19 #[wv ⟨xn, xh, xl⟩] (.bool true)) (c2 : Ret 19 #[wv ⟨yn, yh, yl⟩] (.bool true)) (c3 : Ret 40 #[wv ⟨xn, xh, xl⟩] (nv xn dx)) (c4 : Ret 40 #[wv ⟨yn, yh, yl⟩] (nv yn dy))
    (cm : Ret 44 #[nv xn dx, nv (!yn) dy] (nv on od)) (ho : od.length = 40) (ct : Ret 46 #[nv on od] (.tuple #[wv ⟨rn, rh, rl⟩, .bool false])) :
    Ret 27 #[.int .i64 2, wv ⟨xn, xh, xl⟩, wv ⟨yn, yh, yl⟩] (.tuple #[wv zero, .int .i64 3]) := fun w => by
  unfold wv at *
  dsimp only at *
  replace c1 := Lib.hid c1
  replace c2 := Lib.hid c2
  replace c3 := Lib.hid c3
  replace c4 := Lib.hid c4
  replace cm := Lib.hid cm
  replace ct := Lib.hid ct
  go_enter Tryd.func27, Tryd.ntmps27
  go_wp2_with fail
  refine (c1.out.on _).mono ?_
  rintro e w1 ⟨rfl, hbr⟩
  obtain ⟨gx, gy, gz, hb⟩ := three_new (x := ⟨xn, xh, xl⟩) (y := ⟨yn, yh, yl⟩) (z := ⟨false, 0, 0⟩) hbr
  clear hbr
  replace gx := Lib.hid gx
  replace gy := Lib.hid gy
  replace gz := Lib.hid gz
  replace hb := Lib.hid hb
  obtain ⟨y0, y1, y2⟩ := gy.out.all
  dsimp only [zero] at y0 y1 y2
  go_wp2_with fail
  refine (c2.out.on _).mono ?_
  rintro e w2 ⟨rfl, hbr⟩
  replace gx := Lib.hid (gx.out.below hbr)
  replace gy := Lib.hid (gy.out.below hbr)
  replace gz := Lib.hid (gz.out.below hbr)
  replace hb := Lib.hid (below_up hb.out hb.out.size hbr)
  clear hbr
  clear y0 y1 y2
  obtain ⟨x0, x1, x2⟩ := gx.out.all
  dsimp only [zero] at x0 x1 x2
  go_wp2_with fail
  refine (c3.out.on _).mono ?_
  rintro e w3 ⟨rfl, hbr⟩
  replace gx := Lib.hid (gx.out.below hbr)
  replace gy := Lib.hid (gy.out.below hbr)
  replace gz := Lib.hid (gz.out.below hbr)
  replace hb := Lib.hid (below_up hb.out hb.out.size hbr)
  clear hbr
  clear x0 x1 x2
  replace gx := Lib.hid (gx.out.alloc (oD xn dx))
  replace gy := Lib.hid (gy.out.alloc (oD xn dx))
  replace gz := Lib.hid (gz.out.alloc (oD xn dx))
  have ga := Lib.hid (show IsD (w3.alloc (oD xn dx)) w3.heap.size xn dx from IsD.new w3 xn dx)
  replace hb := Lib.hid (hb.out.alloc hb.out.size (oD xn dx))
  obtain ⟨y0, y1, y2⟩ := gy.out.all
  dsimp only [zero] at y0 y1 y2
  go_wp2_with (first | (with_reducible refine wpl_nalloc rfl rfl ?_) | (with_reducible refine wpl_nbuild0 rfl rfl ?_) | (with_reducible refine wpl_nstore_new rfl rfl rfl rfl rfl rfl hx ?_))
  refine (c4.out.on _).mono ?_
  rintro e w4 ⟨rfl, hbr⟩
  replace gx := Lib.hid (gx.out.below hbr)
  replace gy := Lib.hid (gy.out.below hbr)
  replace gz := Lib.hid (gz.out.below hbr)
  replace ga := Lib.hid (ga.out.call hbr)
  replace hb := Lib.hid (below_up hb.out hb.out.size hbr)
  clear hbr
  clear y0 y1 y2
  have q3 := Lib.hid (gz.out.lt)
  have q4 := Lib.hid (ga.out.lt)
  replace gx := Lib.hid (gx.out.alloc (oD yn dy))
  replace gy := Lib.hid (gy.out.alloc (oD yn dy))
  replace gz := Lib.hid (gz.out.alloc (oD yn dy))
  replace ga := Lib.hid (ga.out.alloc (oD yn dy))
  have gb := Lib.hid (show IsD (w4.alloc (oD yn dy)) w4.heap.size yn dy from IsD.new w4 yn dy)
  replace hb := Lib.hid (hb.out.alloc hb.out.size (oD yn dy))
  replace gx := Lib.hid (gx.out.alloc (oD false Z40))
  replace gy := Lib.hid (gy.out.alloc (oD false Z40))
  replace gz := Lib.hid (gz.out.alloc (oD false Z40))
  replace ga := Lib.hid (ga.out.alloc (oD false Z40))
  replace gb := Lib.hid (gb.out.alloc (oD false Z40))
  have go := Lib.hid (show IsD ((w4.alloc (oD yn dy)).alloc (oD false Z40)) (w4.heap.size + 1) false Z40 from (by have := IsD.new (w4.alloc (oD yn dy)) false Z40; rwa [size_alloc] at this))
  replace hb := Lib.hid (hb.out.alloc hb.out.size (oD false Z40))
  go_upto_region 13 with (first | (with_reducible refine wpl_nalloc rfl rfl ?_) | (with_reducible refine wpl_nbuild0 rfl rfl ?_) | (with_reducible refine wpl_nstore_new rfl rfl rfl rfl (by simp) rfl hy ?_) | (with_reducible refine wpl_nstore_new rfl rfl rfl rfl (by simp) rfl rfl ?_))
  generalize (w4.alloc (oD yn dy)).alloc (oD false Z40) = v1 at *
  replace q3 := q3.out
  replace q4 := q4.out
  have n0 := gb.out.neg
  have f0 := gb.out.f 0
  go_upto_region 17 with fail
  clear n0 f0
  replace gx := Lib.hid (gx.out.set_other (c := w4.heap.size) (i := 0) (v := .bool (!yn)) (by omega))
  replace gy := Lib.hid (gy.out.set_other (c := w4.heap.size) (i := 0) (v := .bool (!yn)) (by omega))
  replace gz := Lib.hid (gz.out.set_other (c := w4.heap.size) (i := 0) (v := .bool (!yn)) (by omega))
  replace ga := Lib.hid (ga.out.set_other (c := w4.heap.size) (i := 0) (v := .bool (!yn)) (by omega))
  replace gb := Lib.hid (IsD.set0 (m := (!yn)) gb.out)
  replace go := Lib.hid (go.out.set_other (c := w4.heap.size) (i := 0) (v := .bool (!yn)) (by omega))
  replace hb := Lib.hid (hb.out.setCell (show w.heap.size ≤ (⟨w4.heap.size, 0, none⟩ : Addr).block by show w.heap.size ≤ w4.heap.size; omega) (.bool (!yn)))
  generalize v1.setCell ⟨w4.heap.size, 0, none⟩ (.bool (!yn)) = v2 at *
  have ga' := ga.out
  have gb' := gb.out
  go_wp2_with (first | (with_reducible refine wpl_nload rfl rfl rfl ga' hx ?_) | (with_reducible refine wpl_nload rfl rfl rfl gb' hy ?_))
  clear ga' gb'
  refine (cm.out.on _).mono ?_
  rintro e w5 ⟨rfl, hbr⟩
  replace gx := Lib.hid (gx.out.below hbr)
  replace gy := Lib.hid (gy.out.below hbr)
  replace gz := Lib.hid (gz.out.below hbr)
  replace ga := Lib.hid (ga.out.call hbr)
  replace gb := Lib.hid (gb.out.call hbr)
  replace go := Lib.hid (go.out.call hbr)
  replace hb := Lib.hid (below_up hb.out hb.out.size hbr)
  clear hbr
  have go' := go.out
  go_upto_region 20 with (first | (with_reducible refine wpl_nstore rfl rfl rfl rfl go' rfl ho ?_))
  clear go'
  replace gx := Lib.hid (gx.out.rowN (c := w4.heap.size + 1) (by omega) (nc on od).toArray)
  replace gy := Lib.hid (gy.out.rowN (c := w4.heap.size + 1) (by omega) (nc on od).toArray)
  replace gz := Lib.hid (gz.out.rowN (c := w4.heap.size + 1) (by omega) (nc on od).toArray)
  replace ga := Lib.hid (ga.out.row_other (c := w4.heap.size + 1) (by omega) (nc on od).toArray)
  replace gb := Lib.hid (gb.out.row_other (c := w4.heap.size + 1) (by omega) (nc on od).toArray)
  replace go := Lib.hid (go.out.row on od)
  replace hb := Lib.hid (below_row hb.out (show w.heap.size ≤ w4.heap.size + 1 by omega) (nc on od).toArray)
  generalize w5.setRow (w4.heap.size + 1) (nc on od).toArray = v3 at *
  have go' := go.out
  go_wp2_with (first | (with_reducible refine wpl_nload rfl rfl rfl go' ho ?_))
  clear go'
  refine (ct.out.on _).mono ?_
  rintro e w6 ⟨rfl, hbr⟩
  have gz2 := (gz.out.below hbr).alloc (oN ⟨rn, rh, rl⟩)
  have gr2 : IsN (w6.alloc (oN ⟨rn, rh, rl⟩)) w6.heap.size ⟨rn, rh, rl⟩ := IsN.new w6 ⟨rn, rh, rl⟩
  have hb2 := (below_up hb.out hb.out.size hbr).alloc (by have := hb.out.size; have := hbr.size; omega) (oN ⟨rn, rh, rl⟩)
  clear hbr gx gy gz ga gb go hb
  obtain ⟨z0, z1, z2⟩ := gz2.all
  have fz := gz2.f
  obtain ⟨y0, y1, y2⟩ := gr2.all
  obtain ⟨r0, r1, r2, hfin⟩ := last_set gz2 ⟨false, 0, 0⟩ hb2 (by omega)
  dsimp only at z0 z1 z2 y0 y1 y2 r0 r1 r2 hfin
  replace hfin := Lib.hid hfin
  replace gz2 := Lib.hid gz2
  replace gr2 := Lib.hid gr2
  replace hb2 := Lib.hid hb2
  go_wp2_with fail
  (try simp only [Exit.inBlock, Exit.then])
  refine bodyPost_ret (by simp [results, Tryd.results27, go_sem, r0, r1, r2]; try rfl) rfl ?_
  exact ⟨rfl, hfin.out⟩

set_option maxRecDepth 100000 in
set_option maxHeartbeats 16000000 in
theorem do3_t (xn yn on : Bool) (xh xl yh yl : Int) (dx dy od : List Int) (rn : Bool) (rh rl : Int) (hx : dx.length = 40) (hy : dy.length = 40)
    (c1 : Ret 19 #[wv ⟨xn, xh, xl⟩] (.bool true)) (c2 : Ret 19 #[wv ⟨yn, yh, yl⟩] (.bool true)) (c3 : Ret 40 #[wv ⟨xn, xh, xl⟩] (nv xn dx)) (c4 : Ret 40 #[wv ⟨yn, yh, yl⟩] (nv yn dy))
    (cm : Ret 45 #[nv xn dx, nv yn dy] (nv on od)) (ho : od.length = 40) (ct : Ret 46 #[nv on od] (.tuple #[wv ⟨rn, rh, rl⟩, .bool true])) :
    Ret 27 #[.int .i64 3, wv ⟨xn, xh, xl⟩, wv ⟨yn, yh, yl⟩] (.tuple #[wv ⟨rn, rh, rl⟩, .int .i64 0]) := fun w => by
  unfold wv at *
  dsimp only at *
  replace c1 := Lib.hid c1
  replace c2 := Lib.hid c2
  replace c3 := Lib.hid c3
  replace c4 := Lib.hid c4
  replace cm := Lib.hid cm
  replace ct := Lib.hid ct
  go_enter Tryd.func27, Tryd.ntmps27
  go_wp2_with fail
  refine (c1.out.on _).mono ?_
  rintro e w1 ⟨rfl, hbr⟩
  obtain ⟨gx, gy, gz, hb⟩ := three_new (x := ⟨xn, xh, xl⟩) (y := ⟨yn, yh, yl⟩) (z := ⟨false, 0, 0⟩) hbr
  clear hbr
  replace gx := Lib.hid gx
  replace gy := Lib.hid gy
  replace gz := Lib.hid gz
  replace hb := Lib.hid hb
  obtain ⟨y0, y1, y2⟩ := gy.out.all
  dsimp only [zero] at y0 y1 y2
  go_wp2_with fail
  refine (c2.out.on _).mono ?_
  rintro e w2 ⟨rfl, hbr⟩
  replace gx := Lib.hid (gx.out.below hbr)
  replace gy := Lib.hid (gy.out.below hbr)
  replace gz := Lib.hid (gz.out.below hbr)
  replace hb := Lib.hid (below_up hb.out hb.out.size hbr)
  clear hbr
  clear y0 y1 y2
  obtain ⟨x0, x1, x2⟩ := gx.out.all
  dsimp only [zero] at x0 x1 x2
  go_wp2_with fail
  refine (c3.out.on _).mono ?_
  rintro e w3 ⟨rfl, hbr⟩
  replace gx := Lib.hid (gx.out.below hbr)
  replace gy := Lib.hid (gy.out.below hbr)
  replace gz := Lib.hid (gz.out.below hbr)
  replace hb := Lib.hid (below_up hb.out hb.out.size hbr)
  clear hbr
  clear x0 x1 x2
  replace gx := Lib.hid (gx.out.alloc (oD xn dx))
  replace gy := Lib.hid (gy.out.alloc (oD xn dx))
  replace gz := Lib.hid (gz.out.alloc (oD xn dx))
  have ga := Lib.hid (show IsD (w3.alloc (oD xn dx)) w3.heap.size xn dx from IsD.new w3 xn dx)
  replace hb := Lib.hid (hb.out.alloc hb.out.size (oD xn dx))
  obtain ⟨y0, y1, y2⟩ := gy.out.all
  dsimp only [zero] at y0 y1 y2
  go_wp2_with (first | (with_reducible refine wpl_nalloc rfl rfl ?_) | (with_reducible refine wpl_nbuild0 rfl rfl ?_) | (with_reducible refine wpl_nstore_new rfl rfl rfl rfl rfl rfl hx ?_))
  refine (c4.out.on _).mono ?_
  rintro e w4 ⟨rfl, hbr⟩
  replace gx := Lib.hid (gx.out.below hbr)
  replace gy := Lib.hid (gy.out.below hbr)
  replace gz := Lib.hid (gz.out.below hbr)
  replace ga := Lib.hid (ga.out.call hbr)
  replace hb := Lib.hid (below_up hb.out hb.out.size hbr)
  clear hbr
  clear y0 y1 y2
  have q3 := Lib.hid (gz.out.lt)
  have q4 := Lib.hid (ga.out.lt)
  replace gx := Lib.hid (gx.out.alloc (oD yn dy))
  replace gy := Lib.hid (gy.out.alloc (oD yn dy))
  replace gz := Lib.hid (gz.out.alloc (oD yn dy))
  replace ga := Lib.hid (ga.out.alloc (oD yn dy))
  have gb := Lib.hid (show IsD (w4.alloc (oD yn dy)) w4.heap.size yn dy from IsD.new w4 yn dy)
  replace hb := Lib.hid (hb.out.alloc hb.out.size (oD yn dy))
  replace gx := Lib.hid (gx.out.alloc (oD false Z40))
  replace gy := Lib.hid (gy.out.alloc (oD false Z40))
  replace gz := Lib.hid (gz.out.alloc (oD false Z40))
  replace ga := Lib.hid (ga.out.alloc (oD false Z40))
  replace gb := Lib.hid (gb.out.alloc (oD false Z40))
  have go := Lib.hid (show IsD ((w4.alloc (oD yn dy)).alloc (oD false Z40)) (w4.heap.size + 1) false Z40 from (by have := IsD.new (w4.alloc (oD yn dy)) false Z40; rwa [size_alloc] at this))
  replace hb := Lib.hid (hb.out.alloc hb.out.size (oD false Z40))
  go_upto_region 13 with (first | (with_reducible refine wpl_nalloc rfl rfl ?_) | (with_reducible refine wpl_nbuild0 rfl rfl ?_) | (with_reducible refine wpl_nstore_new rfl rfl rfl rfl (by simp) rfl hy ?_) | (with_reducible refine wpl_nstore_new rfl rfl rfl rfl (by simp) rfl rfl ?_))
  generalize (w4.alloc (oD yn dy)).alloc (oD false Z40) = v1 at *
  replace q3 := q3.out
  replace q4 := q4.out
  have ga' := ga.out
  have gb' := gb.out
  go_wp2_with (first | (with_reducible refine wpl_nload rfl rfl rfl ga' hx ?_) | (with_reducible refine wpl_nload rfl rfl rfl gb' hy ?_))
  clear ga' gb'
  refine (cm.out.on _).mono ?_
  rintro e w5 ⟨rfl, hbr⟩
  replace gx := Lib.hid (gx.out.below hbr)
  replace gy := Lib.hid (gy.out.below hbr)
  replace gz := Lib.hid (gz.out.below hbr)
  replace ga := Lib.hid (ga.out.call hbr)
  replace gb := Lib.hid (gb.out.call hbr)
  replace go := Lib.hid (go.out.call hbr)
  replace hb := Lib.hid (below_up hb.out hb.out.size hbr)
  clear hbr
  have go' := go.out
  go_upto_region 20 with (first | (with_reducible refine wpl_nstore rfl rfl rfl rfl go' rfl ho ?_))
  clear go'
  replace gx := Lib.hid (gx.out.rowN (c := w4.heap.size + 1) (by omega) (nc on od).toArray)
  replace gy := Lib.hid (gy.out.rowN (c := w4.heap.size + 1) (by omega) (nc on od).toArray)
  replace gz := Lib.hid (gz.out.rowN (c := w4.heap.size + 1) (by omega) (nc on od).toArray)
  replace ga := Lib.hid (ga.out.row_other (c := w4.heap.size + 1) (by omega) (nc on od).toArray)
  replace gb := Lib.hid (gb.out.row_other (c := w4.heap.size + 1) (by omega) (nc on od).toArray)
  replace go := Lib.hid (go.out.row on od)
  replace hb := Lib.hid (below_row hb.out (show w.heap.size ≤ w4.heap.size + 1 by omega) (nc on od).toArray)
  generalize w5.setRow (w4.heap.size + 1) (nc on od).toArray = v2 at *
  have go' := go.out
  go_wp2_with (first | (with_reducible refine wpl_nload rfl rfl rfl go' ho ?_))
  clear go'
  refine (ct.out.on _).mono ?_
  rintro e w6 ⟨rfl, hbr⟩
  have gz2 := (gz.out.below hbr).alloc (oN ⟨rn, rh, rl⟩)
  have gr2 : IsN (w6.alloc (oN ⟨rn, rh, rl⟩)) w6.heap.size ⟨rn, rh, rl⟩ := IsN.new w6 ⟨rn, rh, rl⟩
  have hb2 := (below_up hb.out hb.out.size hbr).alloc (by have := hb.out.size; have := hbr.size; omega) (oN ⟨rn, rh, rl⟩)
  clear hbr gx gy gz ga gb go hb
  obtain ⟨z0, z1, z2⟩ := gz2.all
  have fz := gz2.f
  obtain ⟨y0, y1, y2⟩ := gr2.all
  obtain ⟨r0, r1, r2, hfin⟩ := last_set gz2 ⟨rn, rh, rl⟩ hb2 (by omega)
  dsimp only at z0 z1 z2 y0 y1 y2 r0 r1 r2 hfin
  replace hfin := Lib.hid hfin
  replace gz2 := Lib.hid gz2
  replace gr2 := Lib.hid gr2
  replace hb2 := Lib.hid hb2
  go_wp2_with fail
  (try simp only [Exit.inBlock, Exit.then])
  refine bodyPost_ret (by simp [results, Tryd.results27, go_sem, r0, r1, r2]; try rfl) rfl ?_
  exact ⟨rfl, hfin.out⟩

set_option maxRecDepth 100000 in
set_option maxHeartbeats 16000000 in
theorem do3_f (xn yn on : Bool) (xh xl yh yl : Int) (dx dy od : List Int) (rn : Bool) (rh rl : Int) (hx : dx.length = 40) (hy : dy.length = 40)
    (c1 : Ret 19 #[wv ⟨xn, xh, xl⟩] (.bool true)) (c2 : Ret 19 #[wv ⟨yn, yh, yl⟩] (.bool true)) (c3 : Ret 40 #[wv ⟨xn, xh, xl⟩] (nv xn dx)) (c4 : Ret 40 #[wv ⟨yn, yh, yl⟩] (nv yn dy))
    (cm : Ret 45 #[nv xn dx, nv yn dy] (nv on od)) (ho : od.length = 40) (ct : Ret 46 #[nv on od] (.tuple #[wv ⟨rn, rh, rl⟩, .bool false])) :
    Ret 27 #[.int .i64 3, wv ⟨xn, xh, xl⟩, wv ⟨yn, yh, yl⟩] (.tuple #[wv zero, .int .i64 3]) := fun w => by
  unfold wv at *
  dsimp only at *
  replace c1 := Lib.hid c1
  replace c2 := Lib.hid c2
  replace c3 := Lib.hid c3
  replace c4 := Lib.hid c4
  replace cm := Lib.hid cm
  replace ct := Lib.hid ct
  go_enter Tryd.func27, Tryd.ntmps27
  go_wp2_with fail
  refine (c1.out.on _).mono ?_
  rintro e w1 ⟨rfl, hbr⟩
  obtain ⟨gx, gy, gz, hb⟩ := three_new (x := ⟨xn, xh, xl⟩) (y := ⟨yn, yh, yl⟩) (z := ⟨false, 0, 0⟩) hbr
  clear hbr
  replace gx := Lib.hid gx
  replace gy := Lib.hid gy
  replace gz := Lib.hid gz
  replace hb := Lib.hid hb
  obtain ⟨y0, y1, y2⟩ := gy.out.all
  dsimp only [zero] at y0 y1 y2
  go_wp2_with fail
  refine (c2.out.on _).mono ?_
  rintro e w2 ⟨rfl, hbr⟩
  replace gx := Lib.hid (gx.out.below hbr)
  replace gy := Lib.hid (gy.out.below hbr)
  replace gz := Lib.hid (gz.out.below hbr)
  replace hb := Lib.hid (below_up hb.out hb.out.size hbr)
  clear hbr
  clear y0 y1 y2
  obtain ⟨x0, x1, x2⟩ := gx.out.all
  dsimp only [zero] at x0 x1 x2
  go_wp2_with fail
  refine (c3.out.on _).mono ?_
  rintro e w3 ⟨rfl, hbr⟩
  replace gx := Lib.hid (gx.out.below hbr)
  replace gy := Lib.hid (gy.out.below hbr)
  replace gz := Lib.hid (gz.out.below hbr)
  replace hb := Lib.hid (below_up hb.out hb.out.size hbr)
  clear hbr
  clear x0 x1 x2
  replace gx := Lib.hid (gx.out.alloc (oD xn dx))
  replace gy := Lib.hid (gy.out.alloc (oD xn dx))
  replace gz := Lib.hid (gz.out.alloc (oD xn dx))
  have ga := Lib.hid (show IsD (w3.alloc (oD xn dx)) w3.heap.size xn dx from IsD.new w3 xn dx)
  replace hb := Lib.hid (hb.out.alloc hb.out.size (oD xn dx))
  obtain ⟨y0, y1, y2⟩ := gy.out.all
  dsimp only [zero] at y0 y1 y2
  go_wp2_with (first | (with_reducible refine wpl_nalloc rfl rfl ?_) | (with_reducible refine wpl_nbuild0 rfl rfl ?_) | (with_reducible refine wpl_nstore_new rfl rfl rfl rfl rfl rfl hx ?_))
  refine (c4.out.on _).mono ?_
  rintro e w4 ⟨rfl, hbr⟩
  replace gx := Lib.hid (gx.out.below hbr)
  replace gy := Lib.hid (gy.out.below hbr)
  replace gz := Lib.hid (gz.out.below hbr)
  replace ga := Lib.hid (ga.out.call hbr)
  replace hb := Lib.hid (below_up hb.out hb.out.size hbr)
  clear hbr
  clear y0 y1 y2
  have q3 := Lib.hid (gz.out.lt)
  have q4 := Lib.hid (ga.out.lt)
  replace gx := Lib.hid (gx.out.alloc (oD yn dy))
  replace gy := Lib.hid (gy.out.alloc (oD yn dy))
  replace gz := Lib.hid (gz.out.alloc (oD yn dy))
  replace ga := Lib.hid (ga.out.alloc (oD yn dy))
  have gb := Lib.hid (show IsD (w4.alloc (oD yn dy)) w4.heap.size yn dy from IsD.new w4 yn dy)
  replace hb := Lib.hid (hb.out.alloc hb.out.size (oD yn dy))
  replace gx := Lib.hid (gx.out.alloc (oD false Z40))
  replace gy := Lib.hid (gy.out.alloc (oD false Z40))
  replace gz := Lib.hid (gz.out.alloc (oD false Z40))
  replace ga := Lib.hid (ga.out.alloc (oD false Z40))
  replace gb := Lib.hid (gb.out.alloc (oD false Z40))
  have go := Lib.hid (show IsD ((w4.alloc (oD yn dy)).alloc (oD false Z40)) (w4.heap.size + 1) false Z40 from (by have := IsD.new (w4.alloc (oD yn dy)) false Z40; rwa [size_alloc] at this))
  replace hb := Lib.hid (hb.out.alloc hb.out.size (oD false Z40))
  go_upto_region 13 with (first | (with_reducible refine wpl_nalloc rfl rfl ?_) | (with_reducible refine wpl_nbuild0 rfl rfl ?_) | (with_reducible refine wpl_nstore_new rfl rfl rfl rfl (by simp) rfl hy ?_) | (with_reducible refine wpl_nstore_new rfl rfl rfl rfl (by simp) rfl rfl ?_))
  generalize (w4.alloc (oD yn dy)).alloc (oD false Z40) = v1 at *
  replace q3 := q3.out
  replace q4 := q4.out
  have ga' := ga.out
  have gb' := gb.out
  go_wp2_with (first | (with_reducible refine wpl_nload rfl rfl rfl ga' hx ?_) | (with_reducible refine wpl_nload rfl rfl rfl gb' hy ?_))
  clear ga' gb'
  refine (cm.out.on _).mono ?_
  rintro e w5 ⟨rfl, hbr⟩
  replace gx := Lib.hid (gx.out.below hbr)
  replace gy := Lib.hid (gy.out.below hbr)
  replace gz := Lib.hid (gz.out.below hbr)
  replace ga := Lib.hid (ga.out.call hbr)
  replace gb := Lib.hid (gb.out.call hbr)
  replace go := Lib.hid (go.out.call hbr)
  replace hb := Lib.hid (below_up hb.out hb.out.size hbr)
  clear hbr
  have go' := go.out
  go_upto_region 20 with (first | (with_reducible refine wpl_nstore rfl rfl rfl rfl go' rfl ho ?_))
  clear go'
  replace gx := Lib.hid (gx.out.rowN (c := w4.heap.size + 1) (by omega) (nc on od).toArray)
  replace gy := Lib.hid (gy.out.rowN (c := w4.heap.size + 1) (by omega) (nc on od).toArray)
  replace gz := Lib.hid (gz.out.rowN (c := w4.heap.size + 1) (by omega) (nc on od).toArray)
  replace ga := Lib.hid (ga.out.row_other (c := w4.heap.size + 1) (by omega) (nc on od).toArray)
  replace gb := Lib.hid (gb.out.row_other (c := w4.heap.size + 1) (by omega) (nc on od).toArray)
  replace go := Lib.hid (go.out.row on od)
  replace hb := Lib.hid (below_row hb.out (show w.heap.size ≤ w4.heap.size + 1 by omega) (nc on od).toArray)
  generalize w5.setRow (w4.heap.size + 1) (nc on od).toArray = v2 at *
  have go' := go.out
  go_wp2_with (first | (with_reducible refine wpl_nload rfl rfl rfl go' ho ?_))
  clear go'
  refine (ct.out.on _).mono ?_
  rintro e w6 ⟨rfl, hbr⟩
  have gz2 := (gz.out.below hbr).alloc (oN ⟨rn, rh, rl⟩)
  have gr2 : IsN (w6.alloc (oN ⟨rn, rh, rl⟩)) w6.heap.size ⟨rn, rh, rl⟩ := IsN.new w6 ⟨rn, rh, rl⟩
  have hb2 := (below_up hb.out hb.out.size hbr).alloc (by have := hb.out.size; have := hbr.size; omega) (oN ⟨rn, rh, rl⟩)
  clear hbr gx gy gz ga gb go hb
  obtain ⟨z0, z1, z2⟩ := gz2.all
  have fz := gz2.f
  obtain ⟨y0, y1, y2⟩ := gr2.all
  obtain ⟨r0, r1, r2, hfin⟩ := last_set gz2 ⟨false, 0, 0⟩ hb2 (by omega)
  dsimp only at z0 z1 z2 y0 y1 y2 r0 r1 r2 hfin
  replace hfin := Lib.hid hfin
  replace gz2 := Lib.hid gz2
  replace gr2 := Lib.hid gr2
  replace hb2 := Lib.hid hb2
  go_wp2_with fail
  (try simp only [Exit.inBlock, Exit.then])
  refine bodyPost_ret (by simp [results, Tryd.results27, go_sem, r0, r1, r2]; try rfl) rfl ?_
  exact ⟨rfl, hfin.out⟩

set_option maxRecDepth 100000 in
set_option maxHeartbeats 16000000 in
theorem do4_th (xn yn : Bool) (xh xl yh yl : Int) (dx dy od oq : List Int) (rn : Bool) (rh rl : Int) (hx : dx.length = 40) (hy : dy.length = 40) (n1 : (yh == 0) = false)
    (c1 : Ret 19 #[wv ⟨xn, xh, xl⟩] (.bool true)) (c2 : Ret 19 #[wv ⟨yn, yh, yl⟩] (.bool true)) (c3 : Ret 40 #[wv ⟨xn, xh, xl⟩] (nv xn dx)) (c4 : Ret 40 #[wv ⟨yn, yh, yl⟩] (nv yn dy))
    (cm : Ret 42 #[nv xn dx, nv yn dy] (.tuple #[nv false oq, nv false od])) (ho : od.length = 40) (hq : oq.length = 40) (ct : Ret 46 #[nv (!xn == yn) oq] (.tuple #[wv ⟨rn, rh, rl⟩, .bool true])) :
    Ret 27 #[.int .i64 4, wv ⟨xn, xh, xl⟩, wv ⟨yn, yh, yl⟩] (.tuple #[wv ⟨rn, rh, rl⟩, .int .i64 0]) := fun w => by
  unfold wv at *
  dsimp only at *
  replace c1 := Lib.hid c1
  replace c2 := Lib.hid c2
  replace c3 := Lib.hid c3
  replace c4 := Lib.hid c4
  replace cm := Lib.hid cm
  replace ct := Lib.hid ct
  go_enter Tryd.func27, Tryd.ntmps27
  go_wp2_with fail
  refine (c1.out.on _).mono ?_
  rintro e w1 ⟨rfl, hbr⟩
  obtain ⟨gx, gy, gz, hb⟩ := three_new (x := ⟨xn, xh, xl⟩) (y := ⟨yn, yh, yl⟩) (z := ⟨false, 0, 0⟩) hbr
  clear hbr
  replace gx := Lib.hid gx
  replace gy := Lib.hid gy
  replace gz := Lib.hid gz
  replace hb := Lib.hid hb
  obtain ⟨y0, y1, y2⟩ := gy.out.all
  dsimp only [zero] at y0 y1 y2
  go_wp2_with fail
  refine (c2.out.on _).mono ?_
  rintro e w2 ⟨rfl, hbr⟩
  replace gx := Lib.hid (gx.out.below hbr)
  replace gy := Lib.hid (gy.out.below hbr)
  replace gz := Lib.hid (gz.out.below hbr)
  replace hb := Lib.hid (below_up hb.out hb.out.size hbr)
  clear hbr
  clear y0 y1 y2
  obtain ⟨x0, x1, x2⟩ := gx.out.all
  dsimp only [zero] at x0 x1 x2
  obtain ⟨y0, y1, y2⟩ := gy.out.all
  dsimp only [zero] at y0 y1 y2
  go_wp2_with fail
  refine (c3.out.on _).mono ?_
  rintro e w3 ⟨rfl, hbr⟩
  replace gx := Lib.hid (gx.out.below hbr)
  replace gy := Lib.hid (gy.out.below hbr)
  replace gz := Lib.hid (gz.out.below hbr)
  replace hb := Lib.hid (below_up hb.out hb.out.size hbr)
  clear hbr
  clear x0 x1 x2
  clear y0 y1 y2
  replace gx := Lib.hid (gx.out.alloc (oD xn dx))
  replace gy := Lib.hid (gy.out.alloc (oD xn dx))
  replace gz := Lib.hid (gz.out.alloc (oD xn dx))
  have ga := Lib.hid (show IsD (w3.alloc (oD xn dx)) w3.heap.size xn dx from IsD.new w3 xn dx)
  replace hb := Lib.hid (hb.out.alloc hb.out.size (oD xn dx))
  obtain ⟨y0, y1, y2⟩ := gy.out.all
  dsimp only [zero] at y0 y1 y2
  go_wp2_with (first | (with_reducible refine wpl_nalloc rfl rfl ?_) | (with_reducible refine wpl_nbuild0 rfl rfl ?_) | (with_reducible refine wpl_nstore_new rfl rfl rfl rfl rfl rfl hx ?_))
  refine (c4.out.on _).mono ?_
  rintro e w4 ⟨rfl, hbr⟩
  replace gx := Lib.hid (gx.out.below hbr)
  replace gy := Lib.hid (gy.out.below hbr)
  replace gz := Lib.hid (gz.out.below hbr)
  replace ga := Lib.hid (ga.out.call hbr)
  replace hb := Lib.hid (below_up hb.out hb.out.size hbr)
  clear hbr
  clear y0 y1 y2
  have q3 := Lib.hid (gz.out.lt)
  have q4 := Lib.hid (ga.out.lt)
  replace gx := Lib.hid (gx.out.alloc (oD yn dy))
  replace gy := Lib.hid (gy.out.alloc (oD yn dy))
  replace gz := Lib.hid (gz.out.alloc (oD yn dy))
  replace ga := Lib.hid (ga.out.alloc (oD yn dy))
  have gb := Lib.hid (show IsD (w4.alloc (oD yn dy)) w4.heap.size yn dy from IsD.new w4 yn dy)
  replace hb := Lib.hid (hb.out.alloc hb.out.size (oD yn dy))
  replace gx := Lib.hid (gx.out.alloc (oD false Z40))
  replace gy := Lib.hid (gy.out.alloc (oD false Z40))
  replace gz := Lib.hid (gz.out.alloc (oD false Z40))
  replace ga := Lib.hid (ga.out.alloc (oD false Z40))
  replace gb := Lib.hid (gb.out.alloc (oD false Z40))
  have go := Lib.hid (show IsD ((w4.alloc (oD yn dy)).alloc (oD false Z40)) (w4.heap.size + 1) false Z40 from (by have := IsD.new (w4.alloc (oD yn dy)) false Z40; rwa [size_alloc] at this))
  replace hb := Lib.hid (hb.out.alloc hb.out.size (oD false Z40))
  go_upto_region 13 with (first | (with_reducible refine wpl_nalloc rfl rfl ?_) | (with_reducible refine wpl_nbuild0 rfl rfl ?_) | (with_reducible refine wpl_nstore_new rfl rfl rfl rfl (by simp) rfl hy ?_) | (with_reducible refine wpl_nstore_new rfl rfl rfl rfl (by simp) rfl rfl ?_))
  generalize (w4.alloc (oD yn dy)).alloc (oD false Z40) = v1 at *
  replace q3 := q3.out
  replace q4 := q4.out
  have ga' := ga.out
  have gb' := gb.out
  go_wp2_with (first | (with_reducible refine wpl_nload rfl rfl rfl ga' hx ?_) | (with_reducible refine wpl_nload rfl rfl rfl gb' hy ?_))
  clear ga' gb'
  refine (cm.out.on _).mono ?_
  rintro e w5 ⟨rfl, hbr⟩
  replace gx := Lib.hid (gx.out.below hbr)
  replace gy := Lib.hid (gy.out.below hbr)
  replace gz := Lib.hid (gz.out.below hbr)
  replace ga := Lib.hid (ga.out.call hbr)
  replace gb := Lib.hid (gb.out.call hbr)
  replace go := Lib.hid (go.out.call hbr)
  replace hb := Lib.hid (below_up hb.out hb.out.size hbr)
  clear hbr
  have go0 := go.out
  replace gx := Lib.hid ((gx.out.alloc (oD false Z40)).alloc (oD false Z40))
  replace gy := Lib.hid ((gy.out.alloc (oD false Z40)).alloc (oD false Z40))
  replace gz := Lib.hid ((gz.out.alloc (oD false Z40)).alloc (oD false Z40))
  replace ga := Lib.hid ((ga.out.alloc (oD false Z40)).alloc (oD false Z40))
  replace gb := Lib.hid ((gb.out.alloc (oD false Z40)).alloc (oD false Z40))
  replace go := Lib.hid ((go.out.alloc (oD false Z40)).alloc (oD false Z40))
  replace hb := Lib.hid ((hb.out.alloc hb.out.size (oD false Z40)).alloc (by have := hb.out.size; rw [size_alloc]; omega) (oD false Z40))
  obtain ⟨gq', gs'⟩ := two_nd w5 false false Z40 Z40
  have q5 : w4.heap.size + 1 < w5.heap.size := go0.lt
  have gs2 := gs'.row_other (c := w5.heap.size) (by omega) (nc false oq).toArray
  go_upto_region 8 with (first | (with_reducible refine wpl_nalloc rfl rfl ?_) | (with_reducible refine wpl_nstore rfl rfl rfl rfl gq' rfl hq ?_) | (refine wpl_nstore (x := .tmp 12) (y := .tmp 49) (b := w5.heap.size + 1) rfl rfl ?_ rfl gs2 rfl ho ?_; (show Value.pointer (some ⟨(w5.alloc (oD false Z40)).heap.size, 0, none⟩) = _; rw [size_alloc])))
  have gq := Lib.hid ((gq'.row false oq).row_other (c := w5.heap.size + 1) (by omega) (nc false od).toArray)
  have gs := Lib.hid (gs2.row false od)
  clear gq' gs' gs2
  replace gx := Lib.hid ((gx.out.rowN (c := w5.heap.size) (by omega) (nc false oq).toArray).rowN (c := w5.heap.size + 1) (by omega) (nc false od).toArray)
  replace gy := Lib.hid ((gy.out.rowN (c := w5.heap.size) (by omega) (nc false oq).toArray).rowN (c := w5.heap.size + 1) (by omega) (nc false od).toArray)
  replace gz := Lib.hid ((gz.out.rowN (c := w5.heap.size) (by omega) (nc false oq).toArray).rowN (c := w5.heap.size + 1) (by omega) (nc false od).toArray)
  replace ga := Lib.hid ((ga.out.row_other (c := w5.heap.size) (by omega) (nc false oq).toArray).row_other (c := w5.heap.size + 1) (by omega) (nc false od).toArray)
  replace gb := Lib.hid ((gb.out.row_other (c := w5.heap.size) (by omega) (nc false oq).toArray).row_other (c := w5.heap.size + 1) (by omega) (nc false od).toArray)
  replace go := Lib.hid ((go.out.row_other (c := w5.heap.size) (by omega) (nc false oq).toArray).row_other (c := w5.heap.size + 1) (by omega) (nc false od).toArray)
  replace hb := Lib.hid (below_row (below_row hb.out (show w.heap.size ≤ w5.heap.size by omega) (nc false oq).toArray) (show w.heap.size ≤ w5.heap.size + 1 by omega) (nc false od).toArray)
  generalize (((w5.alloc (oD false Z40)).alloc (oD false Z40)).setRow w5.heap.size (nc false oq).toArray).setRow (w5.heap.size + 1) (nc false od).toArray = v2 at *
  have gq' := gq.out
  have go' := go.out
  go_upto_region 9 with (first | (with_reducible refine wpl_nload rfl rfl rfl gq' hq ?_) | (with_reducible refine wpl_nstore rfl rfl rfl rfl go' rfl hq ?_))
  clear gq' go'
  replace gx := Lib.hid (gx.out.rowN (c := w4.heap.size + 1) (by omega) (nc false oq).toArray)
  replace gy := Lib.hid (gy.out.rowN (c := w4.heap.size + 1) (by omega) (nc false oq).toArray)
  replace gz := Lib.hid (gz.out.rowN (c := w4.heap.size + 1) (by omega) (nc false oq).toArray)
  replace ga := Lib.hid (ga.out.row_other (c := w4.heap.size + 1) (by omega) (nc false oq).toArray)
  replace gb := Lib.hid (gb.out.row_other (c := w4.heap.size + 1) (by omega) (nc false oq).toArray)
  replace go := Lib.hid (go.out.row false oq)
  replace gq := Lib.hid (gq.out.row_other (c := w4.heap.size + 1) (by omega) (nc false oq).toArray)
  replace gs := Lib.hid (gs.out.row_other (c := w4.heap.size + 1) (by omega) (nc false oq).toArray)
  replace hb := Lib.hid (below_row hb.out (show w.heap.size ≤ w4.heap.size + 1 by omega) (nc false oq).toArray)
  generalize v2.setRow (w4.heap.size + 1) (nc false oq).toArray = v3 at *
  obtain ⟨x0, x1, x2⟩ := gx.out.all
  dsimp only [zero] at x0 x1 x2
  obtain ⟨y0, y1, y2⟩ := gy.out.all
  dsimp only [zero] at y0 y1 y2
  have n0 := go.out.neg
  have f0 := go.out.f 0
  go_upto_region 10 with fail
  clear n0 f0
  clear x0 x1 x2
  clear y0 y1 y2
  replace gx := Lib.hid (gx.out.set_other (c := w4.heap.size + 1) (i := 0) (v := .bool (!xn == yn)) (by omega))
  replace gy := Lib.hid (gy.out.set_other (c := w4.heap.size + 1) (i := 0) (v := .bool (!xn == yn)) (by omega))
  replace gz := Lib.hid (gz.out.set_other (c := w4.heap.size + 1) (i := 0) (v := .bool (!xn == yn)) (by omega))
  replace ga := Lib.hid (ga.out.set_other (c := w4.heap.size + 1) (i := 0) (v := .bool (!xn == yn)) (by omega))
  replace gb := Lib.hid (gb.out.set_other (c := w4.heap.size + 1) (i := 0) (v := .bool (!xn == yn)) (by omega))
  replace go := Lib.hid (IsD.set0 (m := (!xn == yn)) go.out)
  replace gq := Lib.hid (gq.out.set_other (c := w4.heap.size + 1) (i := 0) (v := .bool (!xn == yn)) (by omega))
  replace gs := Lib.hid (gs.out.set_other (c := w4.heap.size + 1) (i := 0) (v := .bool (!xn == yn)) (by omega))
  replace hb := Lib.hid (hb.out.setCell (show w.heap.size ≤ (⟨w4.heap.size + 1, 0, none⟩ : Addr).block by show w.heap.size ≤ w4.heap.size + 1; omega) (.bool (!xn == yn)))
  generalize v3.setCell ⟨w4.heap.size + 1, 0, none⟩ (.bool (!xn == yn)) = v4 at *
  have go' := go.out
  go_wp2_with (first | (with_reducible refine wpl_nload rfl rfl rfl go' hq ?_))
  clear go'
  refine (ct.out.on _).mono ?_
  rintro e w6 ⟨rfl, hbr⟩
  have gz2 := (gz.out.below hbr).alloc (oN ⟨rn, rh, rl⟩)
  have gr2 : IsN (w6.alloc (oN ⟨rn, rh, rl⟩)) w6.heap.size ⟨rn, rh, rl⟩ := IsN.new w6 ⟨rn, rh, rl⟩
  have hb2 := (below_up hb.out hb.out.size hbr).alloc (by have := hb.out.size; have := hbr.size; omega) (oN ⟨rn, rh, rl⟩)
  clear hbr gx gy gz ga gb go hb gq gs
  obtain ⟨z0, z1, z2⟩ := gz2.all
  have fz := gz2.f
  obtain ⟨y0, y1, y2⟩ := gr2.all
  obtain ⟨r0, r1, r2, hfin⟩ := last_set gz2 ⟨rn, rh, rl⟩ hb2 (by omega)
  dsimp only at z0 z1 z2 y0 y1 y2 r0 r1 r2 hfin
  replace hfin := Lib.hid hfin
  replace gz2 := Lib.hid gz2
  replace gr2 := Lib.hid gr2
  replace hb2 := Lib.hid hb2
  go_wp2_with fail
  (try simp only [Exit.inBlock, Exit.then])
  refine bodyPost_ret (by simp [results, Tryd.results27, go_sem, r0, r1, r2]; try rfl) rfl ?_
  exact ⟨rfl, hfin.out⟩

set_option maxRecDepth 100000 in
set_option maxHeartbeats 16000000 in
theorem do4_tl (xn yn : Bool) (xh xl yh yl : Int) (dx dy od oq : List Int) (rn : Bool) (rh rl : Int) (hx : dx.length = 40) (hy : dy.length = 40) (n1 : (yh == 0) = true) (n2 : (yl == 0) = false)
    (c1 : Ret 19 #[wv ⟨xn, xh, xl⟩] (.bool true)) (c2 : Ret 19 #[wv ⟨yn, yh, yl⟩] (.bool true)) (c3 : Ret 40 #[wv ⟨xn, xh, xl⟩] (nv xn dx)) (c4 : Ret 40 #[wv ⟨yn, yh, yl⟩] (nv yn dy))
    (cm : Ret 42 #[nv xn dx, nv yn dy] (.tuple #[nv false oq, nv false od])) (ho : od.length = 40) (hq : oq.length = 40) (ct : Ret 46 #[nv (!xn == yn) oq] (.tuple #[wv ⟨rn, rh, rl⟩, .bool true])) :
    Ret 27 #[.int .i64 4, wv ⟨xn, xh, xl⟩, wv ⟨yn, yh, yl⟩] (.tuple #[wv ⟨rn, rh, rl⟩, .int .i64 0]) := fun w => by
  unfold wv at *
  dsimp only at *
  replace c1 := Lib.hid c1
  replace c2 := Lib.hid c2
  replace c3 := Lib.hid c3
  replace c4 := Lib.hid c4
  replace cm := Lib.hid cm
  replace ct := Lib.hid ct
  go_enter Tryd.func27, Tryd.ntmps27
  go_wp2_with fail
  refine (c1.out.on _).mono ?_
  rintro e w1 ⟨rfl, hbr⟩
  obtain ⟨gx, gy, gz, hb⟩ := three_new (x := ⟨xn, xh, xl⟩) (y := ⟨yn, yh, yl⟩) (z := ⟨false, 0, 0⟩) hbr
  clear hbr
  replace gx := Lib.hid gx
  replace gy := Lib.hid gy
  replace gz := Lib.hid gz
  replace hb := Lib.hid hb
  obtain ⟨y0, y1, y2⟩ := gy.out.all
  dsimp only [zero] at y0 y1 y2
  go_wp2_with fail
  refine (c2.out.on _).mono ?_
  rintro e w2 ⟨rfl, hbr⟩
  replace gx := Lib.hid (gx.out.below hbr)
  replace gy := Lib.hid (gy.out.below hbr)
  replace gz := Lib.hid (gz.out.below hbr)
  replace hb := Lib.hid (below_up hb.out hb.out.size hbr)
  clear hbr
  clear y0 y1 y2
  obtain ⟨x0, x1, x2⟩ := gx.out.all
  dsimp only [zero] at x0 x1 x2
  obtain ⟨y0, y1, y2⟩ := gy.out.all
  dsimp only [zero] at y0 y1 y2
  go_wp2_with fail
  refine (c3.out.on _).mono ?_
  rintro e w3 ⟨rfl, hbr⟩
  replace gx := Lib.hid (gx.out.below hbr)
  replace gy := Lib.hid (gy.out.below hbr)
  replace gz := Lib.hid (gz.out.below hbr)
  replace hb := Lib.hid (below_up hb.out hb.out.size hbr)
  clear hbr
  clear x0 x1 x2
  clear y0 y1 y2
  replace gx := Lib.hid (gx.out.alloc (oD xn dx))
  replace gy := Lib.hid (gy.out.alloc (oD xn dx))
  replace gz := Lib.hid (gz.out.alloc (oD xn dx))
  have ga := Lib.hid (show IsD (w3.alloc (oD xn dx)) w3.heap.size xn dx from IsD.new w3 xn dx)
  replace hb := Lib.hid (hb.out.alloc hb.out.size (oD xn dx))
  obtain ⟨y0, y1, y2⟩ := gy.out.all
  dsimp only [zero] at y0 y1 y2
  go_wp2_with (first | (with_reducible refine wpl_nalloc rfl rfl ?_) | (with_reducible refine wpl_nbuild0 rfl rfl ?_) | (with_reducible refine wpl_nstore_new rfl rfl rfl rfl rfl rfl hx ?_))
  refine (c4.out.on _).mono ?_
  rintro e w4 ⟨rfl, hbr⟩
  replace gx := Lib.hid (gx.out.below hbr)
  replace gy := Lib.hid (gy.out.below hbr)
  replace gz := Lib.hid (gz.out.below hbr)
  replace ga := Lib.hid (ga.out.call hbr)
  replace hb := Lib.hid (below_up hb.out hb.out.size hbr)
  clear hbr
  clear y0 y1 y2
  have q3 := Lib.hid (gz.out.lt)
  have q4 := Lib.hid (ga.out.lt)
  replace gx := Lib.hid (gx.out.alloc (oD yn dy))
  replace gy := Lib.hid (gy.out.alloc (oD yn dy))
  replace gz := Lib.hid (gz.out.alloc (oD yn dy))
  replace ga := Lib.hid (ga.out.alloc (oD yn dy))
  have gb := Lib.hid (show IsD (w4.alloc (oD yn dy)) w4.heap.size yn dy from IsD.new w4 yn dy)
  replace hb := Lib.hid (hb.out.alloc hb.out.size (oD yn dy))
  replace gx := Lib.hid (gx.out.alloc (oD false Z40))
  replace gy := Lib.hid (gy.out.alloc (oD false Z40))
  replace gz := Lib.hid (gz.out.alloc (oD false Z40))
  replace ga := Lib.hid (ga.out.alloc (oD false Z40))
  replace gb := Lib.hid (gb.out.alloc (oD false Z40))
  have go := Lib.hid (show IsD ((w4.alloc (oD yn dy)).alloc (oD false Z40)) (w4.heap.size + 1) false Z40 from (by have := IsD.new (w4.alloc (oD yn dy)) false Z40; rwa [size_alloc] at this))
  replace hb := Lib.hid (hb.out.alloc hb.out.size (oD false Z40))
  go_upto_region 13 with (first | (with_reducible refine wpl_nalloc rfl rfl ?_) | (with_reducible refine wpl_nbuild0 rfl rfl ?_) | (with_reducible refine wpl_nstore_new rfl rfl rfl rfl (by simp) rfl hy ?_) | (with_reducible refine wpl_nstore_new rfl rfl rfl rfl (by simp) rfl rfl ?_))
  generalize (w4.alloc (oD yn dy)).alloc (oD false Z40) = v1 at *
  replace q3 := q3.out
  replace q4 := q4.out
  have ga' := ga.out
  have gb' := gb.out
  go_wp2_with (first | (with_reducible refine wpl_nload rfl rfl rfl ga' hx ?_) | (with_reducible refine wpl_nload rfl rfl rfl gb' hy ?_))
  clear ga' gb'
  refine (cm.out.on _).mono ?_
  rintro e w5 ⟨rfl, hbr⟩
  replace gx := Lib.hid (gx.out.below hbr)
  replace gy := Lib.hid (gy.out.below hbr)
  replace gz := Lib.hid (gz.out.below hbr)
  replace ga := Lib.hid (ga.out.call hbr)
  replace gb := Lib.hid (gb.out.call hbr)
  replace go := Lib.hid (go.out.call hbr)
  replace hb := Lib.hid (below_up hb.out hb.out.size hbr)
  clear hbr
  have go0 := go.out
  replace gx := Lib.hid ((gx.out.alloc (oD false Z40)).alloc (oD false Z40))
  replace gy := Lib.hid ((gy.out.alloc (oD false Z40)).alloc (oD false Z40))
  replace gz := Lib.hid ((gz.out.alloc (oD false Z40)).alloc (oD false Z40))
  replace ga := Lib.hid ((ga.out.alloc (oD false Z40)).alloc (oD false Z40))
  replace gb := Lib.hid ((gb.out.alloc (oD false Z40)).alloc (oD false Z40))
  replace go := Lib.hid ((go.out.alloc (oD false Z40)).alloc (oD false Z40))
  replace hb := Lib.hid ((hb.out.alloc hb.out.size (oD false Z40)).alloc (by have := hb.out.size; rw [size_alloc]; omega) (oD false Z40))
  obtain ⟨gq', gs'⟩ := two_nd w5 false false Z40 Z40
  have q5 : w4.heap.size + 1 < w5.heap.size := go0.lt
  have gs2 := gs'.row_other (c := w5.heap.size) (by omega) (nc false oq).toArray
  go_upto_region 8 with (first | (with_reducible refine wpl_nalloc rfl rfl ?_) | (with_reducible refine wpl_nstore rfl rfl rfl rfl gq' rfl hq ?_) | (refine wpl_nstore (x := .tmp 12) (y := .tmp 49) (b := w5.heap.size + 1) rfl rfl ?_ rfl gs2 rfl ho ?_; (show Value.pointer (some ⟨(w5.alloc (oD false Z40)).heap.size, 0, none⟩) = _; rw [size_alloc])))
  have gq := Lib.hid ((gq'.row false oq).row_other (c := w5.heap.size + 1) (by omega) (nc false od).toArray)
  have gs := Lib.hid (gs2.row false od)
  clear gq' gs' gs2
  replace gx := Lib.hid ((gx.out.rowN (c := w5.heap.size) (by omega) (nc false oq).toArray).rowN (c := w5.heap.size + 1) (by omega) (nc false od).toArray)
  replace gy := Lib.hid ((gy.out.rowN (c := w5.heap.size) (by omega) (nc false oq).toArray).rowN (c := w5.heap.size + 1) (by omega) (nc false od).toArray)
  replace gz := Lib.hid ((gz.out.rowN (c := w5.heap.size) (by omega) (nc false oq).toArray).rowN (c := w5.heap.size + 1) (by omega) (nc false od).toArray)
  replace ga := Lib.hid ((ga.out.row_other (c := w5.heap.size) (by omega) (nc false oq).toArray).row_other (c := w5.heap.size + 1) (by omega) (nc false od).toArray)
  replace gb := Lib.hid ((gb.out.row_other (c := w5.heap.size) (by omega) (nc false oq).toArray).row_other (c := w5.heap.size + 1) (by omega) (nc false od).toArray)
  replace go := Lib.hid ((go.out.row_other (c := w5.heap.size) (by omega) (nc false oq).toArray).row_other (c := w5.heap.size + 1) (by omega) (nc false od).toArray)
  replace hb := Lib.hid (below_row (below_row hb.out (show w.heap.size ≤ w5.heap.size by omega) (nc false oq).toArray) (show w.heap.size ≤ w5.heap.size + 1 by omega) (nc false od).toArray)
  generalize (((w5.alloc (oD false Z40)).alloc (oD false Z40)).setRow w5.heap.size (nc false oq).toArray).setRow (w5.heap.size + 1) (nc false od).toArray = v2 at *
  have gq' := gq.out
  have go' := go.out
  go_upto_region 9 with (first | (with_reducible refine wpl_nload rfl rfl rfl gq' hq ?_) | (with_reducible refine wpl_nstore rfl rfl rfl rfl go' rfl hq ?_))
  clear gq' go'
  replace gx := Lib.hid (gx.out.rowN (c := w4.heap.size + 1) (by omega) (nc false oq).toArray)
  replace gy := Lib.hid (gy.out.rowN (c := w4.heap.size + 1) (by omega) (nc false oq).toArray)
  replace gz := Lib.hid (gz.out.rowN (c := w4.heap.size + 1) (by omega) (nc false oq).toArray)
  replace ga := Lib.hid (ga.out.row_other (c := w4.heap.size + 1) (by omega) (nc false oq).toArray)
  replace gb := Lib.hid (gb.out.row_other (c := w4.heap.size + 1) (by omega) (nc false oq).toArray)
  replace go := Lib.hid (go.out.row false oq)
  replace gq := Lib.hid (gq.out.row_other (c := w4.heap.size + 1) (by omega) (nc false oq).toArray)
  replace gs := Lib.hid (gs.out.row_other (c := w4.heap.size + 1) (by omega) (nc false oq).toArray)
  replace hb := Lib.hid (below_row hb.out (show w.heap.size ≤ w4.heap.size + 1 by omega) (nc false oq).toArray)
  generalize v2.setRow (w4.heap.size + 1) (nc false oq).toArray = v3 at *
  obtain ⟨x0, x1, x2⟩ := gx.out.all
  dsimp only [zero] at x0 x1 x2
  obtain ⟨y0, y1, y2⟩ := gy.out.all
  dsimp only [zero] at y0 y1 y2
  have n0 := go.out.neg
  have f0 := go.out.f 0
  go_upto_region 10 with fail
  clear n0 f0
  clear x0 x1 x2
  clear y0 y1 y2
  replace gx := Lib.hid (gx.out.set_other (c := w4.heap.size + 1) (i := 0) (v := .bool (!xn == yn)) (by omega))
  replace gy := Lib.hid (gy.out.set_other (c := w4.heap.size + 1) (i := 0) (v := .bool (!xn == yn)) (by omega))
  replace gz := Lib.hid (gz.out.set_other (c := w4.heap.size + 1) (i := 0) (v := .bool (!xn == yn)) (by omega))
  replace ga := Lib.hid (ga.out.set_other (c := w4.heap.size + 1) (i := 0) (v := .bool (!xn == yn)) (by omega))
  replace gb := Lib.hid (gb.out.set_other (c := w4.heap.size + 1) (i := 0) (v := .bool (!xn == yn)) (by omega))
  replace go := Lib.hid (IsD.set0 (m := (!xn == yn)) go.out)
  replace gq := Lib.hid (gq.out.set_other (c := w4.heap.size + 1) (i := 0) (v := .bool (!xn == yn)) (by omega))
  replace gs := Lib.hid (gs.out.set_other (c := w4.heap.size + 1) (i := 0) (v := .bool (!xn == yn)) (by omega))
  replace hb := Lib.hid (hb.out.setCell (show w.heap.size ≤ (⟨w4.heap.size + 1, 0, none⟩ : Addr).block by show w.heap.size ≤ w4.heap.size + 1; omega) (.bool (!xn == yn)))
  generalize v3.setCell ⟨w4.heap.size + 1, 0, none⟩ (.bool (!xn == yn)) = v4 at *
  have go' := go.out
  go_wp2_with (first | (with_reducible refine wpl_nload rfl rfl rfl go' hq ?_))
  clear go'
  refine (ct.out.on _).mono ?_
  rintro e w6 ⟨rfl, hbr⟩
  have gz2 := (gz.out.below hbr).alloc (oN ⟨rn, rh, rl⟩)
  have gr2 : IsN (w6.alloc (oN ⟨rn, rh, rl⟩)) w6.heap.size ⟨rn, rh, rl⟩ := IsN.new w6 ⟨rn, rh, rl⟩
  have hb2 := (below_up hb.out hb.out.size hbr).alloc (by have := hb.out.size; have := hbr.size; omega) (oN ⟨rn, rh, rl⟩)
  clear hbr gx gy gz ga gb go hb gq gs
  obtain ⟨z0, z1, z2⟩ := gz2.all
  have fz := gz2.f
  obtain ⟨y0, y1, y2⟩ := gr2.all
  obtain ⟨r0, r1, r2, hfin⟩ := last_set gz2 ⟨rn, rh, rl⟩ hb2 (by omega)
  dsimp only at z0 z1 z2 y0 y1 y2 r0 r1 r2 hfin
  replace hfin := Lib.hid hfin
  replace gz2 := Lib.hid gz2
  replace gr2 := Lib.hid gr2
  replace hb2 := Lib.hid hb2
  go_wp2_with fail
  (try simp only [Exit.inBlock, Exit.then])
  refine bodyPost_ret (by simp [results, Tryd.results27, go_sem, r0, r1, r2]; try rfl) rfl ?_
  exact ⟨rfl, hfin.out⟩

set_option maxRecDepth 100000 in
set_option maxHeartbeats 16000000 in
theorem do5_th (xn yn : Bool) (xh xl yh yl : Int) (dx dy od oq : List Int) (rn : Bool) (rh rl : Int) (hx : dx.length = 40) (hy : dy.length = 40) (n1 : (yh == 0) = false)
    (c1 : Ret 19 #[wv ⟨xn, xh, xl⟩] (.bool true)) (c2 : Ret 19 #[wv ⟨yn, yh, yl⟩] (.bool true)) (c3 : Ret 40 #[wv ⟨xn, xh, xl⟩] (nv xn dx)) (c4 : Ret 40 #[wv ⟨yn, yh, yl⟩] (nv yn dy))
    (cm : Ret 42 #[nv xn dx, nv yn dy] (.tuple #[nv false oq, nv false od])) (ho : od.length = 40) (hq : oq.length = 40) (ct : Ret 46 #[nv xn od] (.tuple #[wv ⟨rn, rh, rl⟩, .bool true])) :
    Ret 27 #[.int .i64 5, wv ⟨xn, xh, xl⟩, wv ⟨yn, yh, yl⟩] (.tuple #[wv ⟨rn, rh, rl⟩, .int .i64 0]) := fun w => by
  unfold wv at *
  dsimp only at *
  replace c1 := Lib.hid c1
  replace c2 := Lib.hid c2
  replace c3 := Lib.hid c3
  replace c4 := Lib.hid c4
  replace cm := Lib.hid cm
  replace ct := Lib.hid ct
  go_enter Tryd.func27, Tryd.ntmps27
  go_wp2_with fail
  refine (c1.out.on _).mono ?_
  rintro e w1 ⟨rfl, hbr⟩
  obtain ⟨gx, gy, gz, hb⟩ := three_new (x := ⟨xn, xh, xl⟩) (y := ⟨yn, yh, yl⟩) (z := ⟨false, 0, 0⟩) hbr
  clear hbr
  replace gx := Lib.hid gx
  replace gy := Lib.hid gy
  replace gz := Lib.hid gz
  replace hb := Lib.hid hb
  obtain ⟨y0, y1, y2⟩ := gy.out.all
  dsimp only [zero] at y0 y1 y2
  go_wp2_with fail
  refine (c2.out.on _).mono ?_
  rintro e w2 ⟨rfl, hbr⟩
  replace gx := Lib.hid (gx.out.below hbr)
  replace gy := Lib.hid (gy.out.below hbr)
  replace gz := Lib.hid (gz.out.below hbr)
  replace hb := Lib.hid (below_up hb.out hb.out.size hbr)
  clear hbr
  clear y0 y1 y2
  obtain ⟨x0, x1, x2⟩ := gx.out.all
  dsimp only [zero] at x0 x1 x2
  obtain ⟨y0, y1, y2⟩ := gy.out.all
  dsimp only [zero] at y0 y1 y2
  go_wp2_with fail
  refine (c3.out.on _).mono ?_
  rintro e w3 ⟨rfl, hbr⟩
  replace gx := Lib.hid (gx.out.below hbr)
  replace gy := Lib.hid (gy.out.below hbr)
  replace gz := Lib.hid (gz.out.below hbr)
  replace hb := Lib.hid (below_up hb.out hb.out.size hbr)
  clear hbr
  clear x0 x1 x2
  clear y0 y1 y2
  replace gx := Lib.hid (gx.out.alloc (oD xn dx))
  replace gy := Lib.hid (gy.out.alloc (oD xn dx))
  replace gz := Lib.hid (gz.out.alloc (oD xn dx))
  have ga := Lib.hid (show IsD (w3.alloc (oD xn dx)) w3.heap.size xn dx from IsD.new w3 xn dx)
  replace hb := Lib.hid (hb.out.alloc hb.out.size (oD xn dx))
  obtain ⟨y0, y1, y2⟩ := gy.out.all
  dsimp only [zero] at y0 y1 y2
  go_wp2_with (first | (with_reducible refine wpl_nalloc rfl rfl ?_) | (with_reducible refine wpl_nbuild0 rfl rfl ?_) | (with_reducible refine wpl_nstore_new rfl rfl rfl rfl rfl rfl hx ?_))
  refine (c4.out.on _).mono ?_
  rintro e w4 ⟨rfl, hbr⟩
  replace gx := Lib.hid (gx.out.below hbr)
  replace gy := Lib.hid (gy.out.below hbr)
  replace gz := Lib.hid (gz.out.below hbr)
  replace ga := Lib.hid (ga.out.call hbr)
  replace hb := Lib.hid (below_up hb.out hb.out.size hbr)
  clear hbr
  clear y0 y1 y2
  have q3 := Lib.hid (gz.out.lt)
  have q4 := Lib.hid (ga.out.lt)
  replace gx := Lib.hid (gx.out.alloc (oD yn dy))
  replace gy := Lib.hid (gy.out.alloc (oD yn dy))
  replace gz := Lib.hid (gz.out.alloc (oD yn dy))
  replace ga := Lib.hid (ga.out.alloc (oD yn dy))
  have gb := Lib.hid (show IsD (w4.alloc (oD yn dy)) w4.heap.size yn dy from IsD.new w4 yn dy)
  replace hb := Lib.hid (hb.out.alloc hb.out.size (oD yn dy))
  replace gx := Lib.hid (gx.out.alloc (oD false Z40))
  replace gy := Lib.hid (gy.out.alloc (oD false Z40))
  replace gz := Lib.hid (gz.out.alloc (oD false Z40))
  replace ga := Lib.hid (ga.out.alloc (oD false Z40))
  replace gb := Lib.hid (gb.out.alloc (oD false Z40))
  have go := Lib.hid (show IsD ((w4.alloc (oD yn dy)).alloc (oD false Z40)) (w4.heap.size + 1) false Z40 from (by have := IsD.new (w4.alloc (oD yn dy)) false Z40; rwa [size_alloc] at this))
  replace hb := Lib.hid (hb.out.alloc hb.out.size (oD false Z40))
  go_upto_region 13 with (first | (with_reducible refine wpl_nalloc rfl rfl ?_) | (with_reducible refine wpl_nbuild0 rfl rfl ?_) | (with_reducible refine wpl_nstore_new rfl rfl rfl rfl (by simp) rfl hy ?_) | (with_reducible refine wpl_nstore_new rfl rfl rfl rfl (by simp) rfl rfl ?_))
  generalize (w4.alloc (oD yn dy)).alloc (oD false Z40) = v1 at *
  replace q3 := q3.out
  replace q4 := q4.out
  have ga' := ga.out
  have gb' := gb.out
  go_wp2_with (first | (with_reducible refine wpl_nload rfl rfl rfl ga' hx ?_) | (with_reducible refine wpl_nload rfl rfl rfl gb' hy ?_))
  clear ga' gb'
  refine (cm.out.on _).mono ?_
  rintro e w5 ⟨rfl, hbr⟩
  replace gx := Lib.hid (gx.out.below hbr)
  replace gy := Lib.hid (gy.out.below hbr)
  replace gz := Lib.hid (gz.out.below hbr)
  replace ga := Lib.hid (ga.out.call hbr)
  replace gb := Lib.hid (gb.out.call hbr)
  replace go := Lib.hid (go.out.call hbr)
  replace hb := Lib.hid (below_up hb.out hb.out.size hbr)
  clear hbr
  have go0 := go.out
  replace gx := Lib.hid ((gx.out.alloc (oD false Z40)).alloc (oD false Z40))
  replace gy := Lib.hid ((gy.out.alloc (oD false Z40)).alloc (oD false Z40))
  replace gz := Lib.hid ((gz.out.alloc (oD false Z40)).alloc (oD false Z40))
  replace ga := Lib.hid ((ga.out.alloc (oD false Z40)).alloc (oD false Z40))
  replace gb := Lib.hid ((gb.out.alloc (oD false Z40)).alloc (oD false Z40))
  replace go := Lib.hid ((go.out.alloc (oD false Z40)).alloc (oD false Z40))
  replace hb := Lib.hid ((hb.out.alloc hb.out.size (oD false Z40)).alloc (by have := hb.out.size; rw [size_alloc]; omega) (oD false Z40))
  obtain ⟨gq', gs'⟩ := two_nd w5 false false Z40 Z40
  have q5 : w4.heap.size + 1 < w5.heap.size := go0.lt
  have gs2 := gs'.row_other (c := w5.heap.size) (by omega) (nc false oq).toArray
  go_upto_region 8 with (first | (with_reducible refine wpl_nalloc rfl rfl ?_) | (with_reducible refine wpl_nstore rfl rfl rfl rfl gq' rfl hq ?_) | (refine wpl_nstore (x := .tmp 12) (y := .tmp 49) (b := w5.heap.size + 1) rfl rfl ?_ rfl gs2 rfl ho ?_; (show Value.pointer (some ⟨(w5.alloc (oD false Z40)).heap.size, 0, none⟩) = _; rw [size_alloc])))
  have gq := Lib.hid ((gq'.row false oq).row_other (c := w5.heap.size + 1) (by omega) (nc false od).toArray)
  have gs := Lib.hid (gs2.row false od)
  clear gq' gs' gs2
  replace gx := Lib.hid ((gx.out.rowN (c := w5.heap.size) (by omega) (nc false oq).toArray).rowN (c := w5.heap.size + 1) (by omega) (nc false od).toArray)
  replace gy := Lib.hid ((gy.out.rowN (c := w5.heap.size) (by omega) (nc false oq).toArray).rowN (c := w5.heap.size + 1) (by omega) (nc false od).toArray)
  replace gz := Lib.hid ((gz.out.rowN (c := w5.heap.size) (by omega) (nc false oq).toArray).rowN (c := w5.heap.size + 1) (by omega) (nc false od).toArray)
  replace ga := Lib.hid ((ga.out.row_other (c := w5.heap.size) (by omega) (nc false oq).toArray).row_other (c := w5.heap.size + 1) (by omega) (nc false od).toArray)
  replace gb := Lib.hid ((gb.out.row_other (c := w5.heap.size) (by omega) (nc false oq).toArray).row_other (c := w5.heap.size + 1) (by omega) (nc false od).toArray)
  replace go := Lib.hid ((go.out.row_other (c := w5.heap.size) (by omega) (nc false oq).toArray).row_other (c := w5.heap.size + 1) (by omega) (nc false od).toArray)
  replace hb := Lib.hid (below_row (below_row hb.out (show w.heap.size ≤ w5.heap.size by omega) (nc false oq).toArray) (show w.heap.size ≤ w5.heap.size + 1 by omega) (nc false od).toArray)
  generalize (((w5.alloc (oD false Z40)).alloc (oD false Z40)).setRow w5.heap.size (nc false oq).toArray).setRow (w5.heap.size + 1) (nc false od).toArray = v2 at *
  have gq' := gq.out
  have go' := go.out
  go_upto_region 9 with (first | (with_reducible refine wpl_nload rfl rfl rfl gq' hq ?_) | (with_reducible refine wpl_nstore rfl rfl rfl rfl go' rfl hq ?_))
  clear gq' go'
  replace gx := Lib.hid (gx.out.rowN (c := w4.heap.size + 1) (by omega) (nc false oq).toArray)
  replace gy := Lib.hid (gy.out.rowN (c := w4.heap.size + 1) (by omega) (nc false oq).toArray)
  replace gz := Lib.hid (gz.out.rowN (c := w4.heap.size + 1) (by omega) (nc false oq).toArray)
  replace ga := Lib.hid (ga.out.row_other (c := w4.heap.size + 1) (by omega) (nc false oq).toArray)
  replace gb := Lib.hid (gb.out.row_other (c := w4.heap.size + 1) (by omega) (nc false oq).toArray)
  replace go := Lib.hid (go.out.row false oq)
  replace gq := Lib.hid (gq.out.row_other (c := w4.heap.size + 1) (by omega) (nc false oq).toArray)
  replace gs := Lib.hid (gs.out.row_other (c := w4.heap.size + 1) (by omega) (nc false oq).toArray)
  replace hb := Lib.hid (below_row hb.out (show w.heap.size ≤ w4.heap.size + 1 by omega) (nc false oq).toArray)
  generalize v2.setRow (w4.heap.size + 1) (nc false oq).toArray = v3 at *
  obtain ⟨x0, x1, x2⟩ := gx.out.all
  dsimp only [zero] at x0 x1 x2
  obtain ⟨y0, y1, y2⟩ := gy.out.all
  dsimp only [zero] at y0 y1 y2
  have n0 := go.out.neg
  have f0 := go.out.f 0
  go_upto_region 10 with fail
  clear n0 f0
  clear x0 x1 x2
  clear y0 y1 y2
  replace gx := Lib.hid (gx.out.set_other (c := w4.heap.size + 1) (i := 0) (v := .bool (!xn == yn)) (by omega))
  replace gy := Lib.hid (gy.out.set_other (c := w4.heap.size + 1) (i := 0) (v := .bool (!xn == yn)) (by omega))
  replace gz := Lib.hid (gz.out.set_other (c := w4.heap.size + 1) (i := 0) (v := .bool (!xn == yn)) (by omega))
  replace ga := Lib.hid (ga.out.set_other (c := w4.heap.size + 1) (i := 0) (v := .bool (!xn == yn)) (by omega))
  replace gb := Lib.hid (gb.out.set_other (c := w4.heap.size + 1) (i := 0) (v := .bool (!xn == yn)) (by omega))
  replace go := Lib.hid (IsD.set0 (m := (!xn == yn)) go.out)
  replace gq := Lib.hid (gq.out.set_other (c := w4.heap.size + 1) (i := 0) (v := .bool (!xn == yn)) (by omega))
  replace gs := Lib.hid (gs.out.set_other (c := w4.heap.size + 1) (i := 0) (v := .bool (!xn == yn)) (by omega))
  replace hb := Lib.hid (hb.out.setCell (show w.heap.size ≤ (⟨w4.heap.size + 1, 0, none⟩ : Addr).block by show w.heap.size ≤ w4.heap.size + 1; omega) (.bool (!xn == yn)))
  generalize v3.setCell ⟨w4.heap.size + 1, 0, none⟩ (.bool (!xn == yn)) = v4 at *
  have gs' := gs.out
  have go' := go.out
  go_upto_region 12 with (first | (with_reducible refine wpl_nload rfl rfl rfl gs' ho ?_) | (with_reducible refine wpl_nstore rfl rfl rfl rfl go' hq ho ?_))
  clear gs' go'
  replace gx := Lib.hid (gx.out.rowN (c := w4.heap.size + 1) (by omega) (nc false od).toArray)
  replace gy := Lib.hid (gy.out.rowN (c := w4.heap.size + 1) (by omega) (nc false od).toArray)
  replace gz := Lib.hid (gz.out.rowN (c := w4.heap.size + 1) (by omega) (nc false od).toArray)
  replace ga := Lib.hid (ga.out.row_other (c := w4.heap.size + 1) (by omega) (nc false od).toArray)
  replace gb := Lib.hid (gb.out.row_other (c := w4.heap.size + 1) (by omega) (nc false od).toArray)
  replace go := Lib.hid (go.out.row false od)
  replace gq := Lib.hid (gq.out.row_other (c := w4.heap.size + 1) (by omega) (nc false od).toArray)
  replace gs := Lib.hid (gs.out.row_other (c := w4.heap.size + 1) (by omega) (nc false od).toArray)
  replace hb := Lib.hid (below_row hb.out (show w.heap.size ≤ w4.heap.size + 1 by omega) (nc false od).toArray)
  generalize v4.setRow (w4.heap.size + 1) (nc false od).toArray = v5 at *
  obtain ⟨x0, x1, x2⟩ := gx.out.all
  dsimp only [zero] at x0 x1 x2
  have n0 := go.out.neg
  have f0 := go.out.f 0
  go_upto_region 20 with fail
  clear n0 f0
  clear x0 x1 x2
  replace gx := Lib.hid (gx.out.set_other (c := w4.heap.size + 1) (i := 0) (v := .bool xn) (by omega))
  replace gy := Lib.hid (gy.out.set_other (c := w4.heap.size + 1) (i := 0) (v := .bool xn) (by omega))
  replace gz := Lib.hid (gz.out.set_other (c := w4.heap.size + 1) (i := 0) (v := .bool xn) (by omega))
  replace ga := Lib.hid (ga.out.set_other (c := w4.heap.size + 1) (i := 0) (v := .bool xn) (by omega))
  replace gb := Lib.hid (gb.out.set_other (c := w4.heap.size + 1) (i := 0) (v := .bool xn) (by omega))
  replace go := Lib.hid (IsD.set0 (m := xn) go.out)
  replace gq := Lib.hid (gq.out.set_other (c := w4.heap.size + 1) (i := 0) (v := .bool xn) (by omega))
  replace gs := Lib.hid (gs.out.set_other (c := w4.heap.size + 1) (i := 0) (v := .bool xn) (by omega))
  replace hb := Lib.hid (hb.out.setCell (show w.heap.size ≤ (⟨w4.heap.size + 1, 0, none⟩ : Addr).block by show w.heap.size ≤ w4.heap.size + 1; omega) (.bool xn))
  generalize v5.setCell ⟨w4.heap.size + 1, 0, none⟩ (.bool xn) = v6 at *
  have go' := go.out
  go_wp2_with (first | (with_reducible refine wpl_nload rfl rfl rfl go' ho ?_))
  clear go'
  refine (ct.out.on _).mono ?_
  rintro e w6 ⟨rfl, hbr⟩
  have gz2 := (gz.out.below hbr).alloc (oN ⟨rn, rh, rl⟩)
  have gr2 : IsN (w6.alloc (oN ⟨rn, rh, rl⟩)) w6.heap.size ⟨rn, rh, rl⟩ := IsN.new w6 ⟨rn, rh, rl⟩
  have hb2 := (below_up hb.out hb.out.size hbr).alloc (by have := hb.out.size; have := hbr.size; omega) (oN ⟨rn, rh, rl⟩)
  clear hbr gx gy gz ga gb go hb gq gs
  obtain ⟨z0, z1, z2⟩ := gz2.all
  have fz := gz2.f
  obtain ⟨y0, y1, y2⟩ := gr2.all
  obtain ⟨r0, r1, r2, hfin⟩ := last_set gz2 ⟨rn, rh, rl⟩ hb2 (by omega)
  dsimp only at z0 z1 z2 y0 y1 y2 r0 r1 r2 hfin
  replace hfin := Lib.hid hfin
  replace gz2 := Lib.hid gz2
  replace gr2 := Lib.hid gr2
  replace hb2 := Lib.hid hb2
  go_wp2_with fail
  (try simp only [Exit.inBlock, Exit.then])
  refine bodyPost_ret (by simp [results, Tryd.results27, go_sem, r0, r1, r2]; try rfl) rfl ?_
  exact ⟨rfl, hfin.out⟩

set_option maxRecDepth 100000 in
set_option maxHeartbeats 16000000 in
theorem do5_tl (xn yn : Bool) (xh xl yh yl : Int) (dx dy od oq : List Int) (rn : Bool) (rh rl : Int) (hx : dx.length = 40) (hy : dy.length = 40) (n1 : (yh == 0) = true) (n2 : (yl == 0) = false)
    (c1 : Ret 19 #[wv ⟨xn, xh, xl⟩] (.bool true)) (c2 : Ret 19 #[wv ⟨yn, yh, yl⟩] (.bool true)) (c3 : Ret 40 #[wv ⟨xn, xh, xl⟩] (nv xn dx)) (c4 : Ret 40 #[wv ⟨yn, yh, yl⟩] (nv yn dy))
    (cm : Ret 42 #[nv xn dx, nv yn dy] (.tuple #[nv false oq, nv false od])) (ho : od.length = 40) (hq : oq.length = 40) (ct : Ret 46 #[nv xn od] (.tuple #[wv ⟨rn, rh, rl⟩, .bool true])) :
    Ret 27 #[.int .i64 5, wv ⟨xn, xh, xl⟩, wv ⟨yn, yh, yl⟩] (.tuple #[wv ⟨rn, rh, rl⟩, .int .i64 0]) := fun w => by
  unfold wv at *
  dsimp only at *
  replace c1 := Lib.hid c1
  replace c2 := Lib.hid c2
  replace c3 := Lib.hid c3
  replace c4 := Lib.hid c4
  replace cm := Lib.hid cm
  replace ct := Lib.hid ct
  go_enter Tryd.func27, Tryd.ntmps27
  go_wp2_with fail
  refine (c1.out.on _).mono ?_
  rintro e w1 ⟨rfl, hbr⟩
  obtain ⟨gx, gy, gz, hb⟩ := three_new (x := ⟨xn, xh, xl⟩) (y := ⟨yn, yh, yl⟩) (z := ⟨false, 0, 0⟩) hbr
  clear hbr
  replace gx := Lib.hid gx
  replace gy := Lib.hid gy
  replace gz := Lib.hid gz
  replace hb := Lib.hid hb
  obtain ⟨y0, y1, y2⟩ := gy.out.all
  dsimp only [zero] at y0 y1 y2
  go_wp2_with fail
  refine (c2.out.on _).mono ?_
  rintro e w2 ⟨rfl, hbr⟩
  replace gx := Lib.hid (gx.out.below hbr)
  replace gy := Lib.hid (gy.out.below hbr)
  replace gz := Lib.hid (gz.out.below hbr)
  replace hb := Lib.hid (below_up hb.out hb.out.size hbr)
  clear hbr
  clear y0 y1 y2
  obtain ⟨x0, x1, x2⟩ := gx.out.all
  dsimp only [zero] at x0 x1 x2
  obtain ⟨y0, y1, y2⟩ := gy.out.all
  dsimp only [zero] at y0 y1 y2
  go_wp2_with fail
  refine (c3.out.on _).mono ?_
  rintro e w3 ⟨rfl, hbr⟩
  replace gx := Lib.hid (gx.out.below hbr)
  replace gy := Lib.hid (gy.out.below hbr)
  replace gz := Lib.hid (gz.out.below hbr)
  replace hb := Lib.hid (below_up hb.out hb.out.size hbr)
  clear hbr
  clear x0 x1 x2
  clear y0 y1 y2
  replace gx := Lib.hid (gx.out.alloc (oD xn dx))
  replace gy := Lib.hid (gy.out.alloc (oD xn dx))
  replace gz := Lib.hid (gz.out.alloc (oD xn dx))
  have ga := Lib.hid (show IsD (w3.alloc (oD xn dx)) w3.heap.size xn dx from IsD.new w3 xn dx)
  replace hb := Lib.hid (hb.out.alloc hb.out.size (oD xn dx))
  obtain ⟨y0, y1, y2⟩ := gy.out.all
  dsimp only [zero] at y0 y1 y2
  go_wp2_with (first | (with_reducible refine wpl_nalloc rfl rfl ?_) | (with_reducible refine wpl_nbuild0 rfl rfl ?_) | (with_reducible refine wpl_nstore_new rfl rfl rfl rfl rfl rfl hx ?_))
  refine (c4.out.on _).mono ?_
  rintro e w4 ⟨rfl, hbr⟩
  replace gx := Lib.hid (gx.out.below hbr)
  replace gy := Lib.hid (gy.out.below hbr)
  replace gz := Lib.hid (gz.out.below hbr)
  replace ga := Lib.hid (ga.out.call hbr)
  replace hb := Lib.hid (below_up hb.out hb.out.size hbr)
  clear hbr
  clear y0 y1 y2
  have q3 := Lib.hid (gz.out.lt)
  have q4 := Lib.hid (ga.out.lt)
  replace gx := Lib.hid (gx.out.alloc (oD yn dy))
  replace gy := Lib.hid (gy.out.alloc (oD yn dy))
  replace gz := Lib.hid (gz.out.alloc (oD yn dy))
  replace ga := Lib.hid (ga.out.alloc (oD yn dy))
  have gb := Lib.hid (show IsD (w4.alloc (oD yn dy)) w4.heap.size yn dy from IsD.new w4 yn dy)
  replace hb := Lib.hid (hb.out.alloc hb.out.size (oD yn dy))
  replace gx := Lib.hid (gx.out.alloc (oD false Z40))
  replace gy := Lib.hid (gy.out.alloc (oD false Z40))
  replace gz := Lib.hid (gz.out.alloc (oD false Z40))
  replace ga := Lib.hid (ga.out.alloc (oD false Z40))
  replace gb := Lib.hid (gb.out.alloc (oD false Z40))
  have go := Lib.hid (show IsD ((w4.alloc (oD yn dy)).alloc (oD false Z40)) (w4.heap.size + 1) false Z40 from (by have := IsD.new (w4.alloc (oD yn dy)) false Z40; rwa [size_alloc] at this))
  replace hb := Lib.hid (hb.out.alloc hb.out.size (oD false Z40))
  go_upto_region 13 with (first | (with_reducible refine wpl_nalloc rfl rfl ?_) | (with_reducible refine wpl_nbuild0 rfl rfl ?_) | (with_reducible refine wpl_nstore_new rfl rfl rfl rfl (by simp) rfl hy ?_) | (with_reducible refine wpl_nstore_new rfl rfl rfl rfl (by simp) rfl rfl ?_))
  generalize (w4.alloc (oD yn dy)).alloc (oD false Z40) = v1 at *
  replace q3 := q3.out
  replace q4 := q4.out
  have ga' := ga.out
  have gb' := gb.out
  go_wp2_with (first | (with_reducible refine wpl_nload rfl rfl rfl ga' hx ?_) | (with_reducible refine wpl_nload rfl rfl rfl gb' hy ?_))
  clear ga' gb'
  refine (cm.out.on _).mono ?_
  rintro e w5 ⟨rfl, hbr⟩
  replace gx := Lib.hid (gx.out.below hbr)
  replace gy := Lib.hid (gy.out.below hbr)
  replace gz := Lib.hid (gz.out.below hbr)
  replace ga := Lib.hid (ga.out.call hbr)
  replace gb := Lib.hid (gb.out.call hbr)
  replace go := Lib.hid (go.out.call hbr)
  replace hb := Lib.hid (below_up hb.out hb.out.size hbr)
  clear hbr
  have go0 := go.out
  replace gx := Lib.hid ((gx.out.alloc (oD false Z40)).alloc (oD false Z40))
  replace gy := Lib.hid ((gy.out.alloc (oD false Z40)).alloc (oD false Z40))
  replace gz := Lib.hid ((gz.out.alloc (oD false Z40)).alloc (oD false Z40))
  replace ga := Lib.hid ((ga.out.alloc (oD false Z40)).alloc (oD false Z40))
  replace gb := Lib.hid ((gb.out.alloc (oD false Z40)).alloc (oD false Z40))
  replace go := Lib.hid ((go.out.alloc (oD false Z40)).alloc (oD false Z40))
  replace hb := Lib.hid ((hb.out.alloc hb.out.size (oD false Z40)).alloc (by have := hb.out.size; rw [size_alloc]; omega) (oD false Z40))
  obtain ⟨gq', gs'⟩ := two_nd w5 false false Z40 Z40
  have q5 : w4.heap.size + 1 < w5.heap.size := go0.lt
  have gs2 := gs'.row_other (c := w5.heap.size) (by omega) (nc false oq).toArray
  go_upto_region 8 with (first | (with_reducible refine wpl_nalloc rfl rfl ?_) | (with_reducible refine wpl_nstore rfl rfl rfl rfl gq' rfl hq ?_) | (refine wpl_nstore (x := .tmp 12) (y := .tmp 49) (b := w5.heap.size + 1) rfl rfl ?_ rfl gs2 rfl ho ?_; (show Value.pointer (some ⟨(w5.alloc (oD false Z40)).heap.size, 0, none⟩) = _; rw [size_alloc])))
  have gq := Lib.hid ((gq'.row false oq).row_other (c := w5.heap.size + 1) (by omega) (nc false od).toArray)
  have gs := Lib.hid (gs2.row false od)
  clear gq' gs' gs2
  replace gx := Lib.hid ((gx.out.rowN (c := w5.heap.size) (by omega) (nc false oq).toArray).rowN (c := w5.heap.size + 1) (by omega) (nc false od).toArray)
  replace gy := Lib.hid ((gy.out.rowN (c := w5.heap.size) (by omega) (nc false oq).toArray).rowN (c := w5.heap.size + 1) (by omega) (nc false od).toArray)
  replace gz := Lib.hid ((gz.out.rowN (c := w5.heap.size) (by omega) (nc false oq).toArray).rowN (c := w5.heap.size + 1) (by omega) (nc false od).toArray)
  replace ga := Lib.hid ((ga.out.row_other (c := w5.heap.size) (by omega) (nc false oq).toArray).row_other (c := w5.heap.size + 1) (by omega) (nc false od).toArray)
  replace gb := Lib.hid ((gb.out.row_other (c := w5.heap.size) (by omega) (nc false oq).toArray).row_other (c := w5.heap.size + 1) (by omega) (nc false od).toArray)
  replace go := Lib.hid ((go.out.row_other (c := w5.heap.size) (by omega) (nc false oq).toArray).row_other (c := w5.heap.size + 1) (by omega) (nc false od).toArray)
  replace hb := Lib.hid (below_row (below_row hb.out (show w.heap.size ≤ w5.heap.size by omega) (nc false oq).toArray) (show w.heap.size ≤ w5.heap.size + 1 by omega) (nc false od).toArray)
  generalize (((w5.alloc (oD false Z40)).alloc (oD false Z40)).setRow w5.heap.size (nc false oq).toArray).setRow (w5.heap.size + 1) (nc false od).toArray = v2 at *
  have gq' := gq.out
  have go' := go.out
  go_upto_region 9 with (first | (with_reducible refine wpl_nload rfl rfl rfl gq' hq ?_) | (with_reducible refine wpl_nstore rfl rfl rfl rfl go' rfl hq ?_))
  clear gq' go'
  replace gx := Lib.hid (gx.out.rowN (c := w4.heap.size + 1) (by omega) (nc false oq).toArray)
  replace gy := Lib.hid (gy.out.rowN (c := w4.heap.size + 1) (by omega) (nc false oq).toArray)
  replace gz := Lib.hid (gz.out.rowN (c := w4.heap.size + 1) (by omega) (nc false oq).toArray)
  replace ga := Lib.hid (ga.out.row_other (c := w4.heap.size + 1) (by omega) (nc false oq).toArray)
  replace gb := Lib.hid (gb.out.row_other (c := w4.heap.size + 1) (by omega) (nc false oq).toArray)
  replace go := Lib.hid (go.out.row false oq)
  replace gq := Lib.hid (gq.out.row_other (c := w4.heap.size + 1) (by omega) (nc false oq).toArray)
  replace gs := Lib.hid (gs.out.row_other (c := w4.heap.size + 1) (by omega) (nc false oq).toArray)
  replace hb := Lib.hid (below_row hb.out (show w.heap.size ≤ w4.heap.size + 1 by omega) (nc false oq).toArray)
  generalize v2.setRow (w4.heap.size + 1) (nc false oq).toArray = v3 at *
  obtain ⟨x0, x1, x2⟩ := gx.out.all
  dsimp only [zero] at x0 x1 x2
  obtain ⟨y0, y1, y2⟩ := gy.out.all
  dsimp only [zero] at y0 y1 y2
  have n0 := go.out.neg
  have f0 := go.out.f 0
  go_upto_region 10 with fail
  clear n0 f0
  clear x0 x1 x2
  clear y0 y1 y2
  replace gx := Lib.hid (gx.out.set_other (c := w4.heap.size + 1) (i := 0) (v := .bool (!xn == yn)) (by omega))
  replace gy := Lib.hid (gy.out.set_other (c := w4.heap.size + 1) (i := 0) (v := .bool (!xn == yn)) (by omega))
  replace gz := Lib.hid (gz.out.set_other (c := w4.heap.size + 1) (i := 0) (v := .bool (!xn == yn)) (by omega))
  replace ga := Lib.hid (ga.out.set_other (c := w4.heap.size + 1) (i := 0) (v := .bool (!xn == yn)) (by omega))
  replace gb := Lib.hid (gb.out.set_other (c := w4.heap.size + 1) (i := 0) (v := .bool (!xn == yn)) (by omega))
  replace go := Lib.hid (IsD.set0 (m := (!xn == yn)) go.out)
  replace gq := Lib.hid (gq.out.set_other (c := w4.heap.size + 1) (i := 0) (v := .bool (!xn == yn)) (by omega))
  replace gs := Lib.hid (gs.out.set_other (c := w4.heap.size + 1) (i := 0) (v := .bool (!xn == yn)) (by omega))
  replace hb := Lib.hid (hb.out.setCell (show w.heap.size ≤ (⟨w4.heap.size + 1, 0, none⟩ : Addr).block by show w.heap.size ≤ w4.heap.size + 1; omega) (.bool (!xn == yn)))
  generalize v3.setCell ⟨w4.heap.size + 1, 0, none⟩ (.bool (!xn == yn)) = v4 at *
  have gs' := gs.out
  have go' := go.out
  go_upto_region 12 with (first | (with_reducible refine wpl_nload rfl rfl rfl gs' ho ?_) | (with_reducible refine wpl_nstore rfl rfl rfl rfl go' hq ho ?_))
  clear gs' go'
  replace gx := Lib.hid (gx.out.rowN (c := w4.heap.size + 1) (by omega) (nc false od).toArray)
  replace gy := Lib.hid (gy.out.rowN (c := w4.heap.size + 1) (by omega) (nc false od).toArray)
  replace gz := Lib.hid (gz.out.rowN (c := w4.heap.size + 1) (by omega) (nc false od).toArray)
  replace ga := Lib.hid (ga.out.row_other (c := w4.heap.size + 1) (by omega) (nc false od).toArray)
  replace gb := Lib.hid (gb.out.row_other (c := w4.heap.size + 1) (by omega) (nc false od).toArray)
  replace go := Lib.hid (go.out.row false od)
  replace gq := Lib.hid (gq.out.row_other (c := w4.heap.size + 1) (by omega) (nc false od).toArray)
  replace gs := Lib.hid (gs.out.row_other (c := w4.heap.size + 1) (by omega) (nc false od).toArray)
  replace hb := Lib.hid (below_row hb.out (show w.heap.size ≤ w4.heap.size + 1 by omega) (nc false od).toArray)
  generalize v4.setRow (w4.heap.size + 1) (nc false od).toArray = v5 at *
  obtain ⟨x0, x1, x2⟩ := gx.out.all
  dsimp only [zero] at x0 x1 x2
  have n0 := go.out.neg
  have f0 := go.out.f 0
  go_upto_region 20 with fail
  clear n0 f0
  clear x0 x1 x2
  replace gx := Lib.hid (gx.out.set_other (c := w4.heap.size + 1) (i := 0) (v := .bool xn) (by omega))
  replace gy := Lib.hid (gy.out.set_other (c := w4.heap.size + 1) (i := 0) (v := .bool xn) (by omega))
  replace gz := Lib.hid (gz.out.set_other (c := w4.heap.size + 1) (i := 0) (v := .bool xn) (by omega))
  replace ga := Lib.hid (ga.out.set_other (c := w4.heap.size + 1) (i := 0) (v := .bool xn) (by omega))
  replace gb := Lib.hid (gb.out.set_other (c := w4.heap.size + 1) (i := 0) (v := .bool xn) (by omega))
  replace go := Lib.hid (IsD.set0 (m := xn) go.out)
  replace gq := Lib.hid (gq.out.set_other (c := w4.heap.size + 1) (i := 0) (v := .bool xn) (by omega))
  replace gs := Lib.hid (gs.out.set_other (c := w4.heap.size + 1) (i := 0) (v := .bool xn) (by omega))
  replace hb := Lib.hid (hb.out.setCell (show w.heap.size ≤ (⟨w4.heap.size + 1, 0, none⟩ : Addr).block by show w.heap.size ≤ w4.heap.size + 1; omega) (.bool xn))
  generalize v5.setCell ⟨w4.heap.size + 1, 0, none⟩ (.bool xn) = v6 at *
  have go' := go.out
  go_wp2_with (first | (with_reducible refine wpl_nload rfl rfl rfl go' ho ?_))
  clear go'
  refine (ct.out.on _).mono ?_
  rintro e w6 ⟨rfl, hbr⟩
  have gz2 := (gz.out.below hbr).alloc (oN ⟨rn, rh, rl⟩)
  have gr2 : IsN (w6.alloc (oN ⟨rn, rh, rl⟩)) w6.heap.size ⟨rn, rh, rl⟩ := IsN.new w6 ⟨rn, rh, rl⟩
  have hb2 := (below_up hb.out hb.out.size hbr).alloc (by have := hb.out.size; have := hbr.size; omega) (oN ⟨rn, rh, rl⟩)
  clear hbr gx gy gz ga gb go hb gq gs
  obtain ⟨z0, z1, z2⟩ := gz2.all
  have fz := gz2.f
  obtain ⟨y0, y1, y2⟩ := gr2.all
  obtain ⟨r0, r1, r2, hfin⟩ := last_set gz2 ⟨rn, rh, rl⟩ hb2 (by omega)
  dsimp only at z0 z1 z2 y0 y1 y2 r0 r1 r2 hfin
  replace hfin := Lib.hid hfin
  replace gz2 := Lib.hid gz2
  replace gr2 := Lib.hid gr2
  replace hb2 := Lib.hid hb2
  go_wp2_with fail
  (try simp only [Exit.inBlock, Exit.then])
  refine bodyPost_ret (by simp [results, Tryd.results27, go_sem, r0, r1, r2]; try rfl) rfl ?_
  exact ⟨rfl, hfin.out⟩
end Go.Proofs.YtbfigpollacngaaDoor
