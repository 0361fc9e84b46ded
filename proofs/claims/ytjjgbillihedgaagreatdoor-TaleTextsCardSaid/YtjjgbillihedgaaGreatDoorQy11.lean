/- parts of the proof, merged: NmW8 -/
import Derived.Test.YtjjgbillihedgaaGreatDoorQy10
set_option maxHeartbeats 16000000
set_option maxRecDepth 100000
namespace Go.Proofs.YtjjgbillihedgaaGreatDoor
open Go.RowKit
open Rf
open Wide
theorem IsN.rowN {w : World} {b c : Nat} {x : WI} (h : IsN w b x) (hne : b ≠ c) (r : Array Value) : IsN (w.setRow c r) b x := (setRow_other w c b r hne).trans h
theorem do1_t (xn yn on : Bool) (xh xl yh yl : Int) (dx dy od : List Int) (rn : Bool) (rh rl : Int) (hx : dx.length = 40) (hy : dy.length = 40)
 (c1 : wRet 61 #[wv ⟨xn, xh, xl⟩] (.bool true)) (c2 : wRet 61 #[wv ⟨yn, yh, yl⟩] (.bool true)) (c3 : wRet 97 #[wv ⟨xn, xh, xl⟩] (nv xn dx)) (c4 : wRet 97 #[wv ⟨yn, yh, yl⟩] (nv yn dy))
 (cm : wRet 152 #[nv xn dx, nv yn dy] (nv on od)) (ho : od.length = 40) (ct : wRet 154 #[nv on od] (.tuple #[wv ⟨rn, rh, rl⟩, .bool true])) :
 wRet 130 #[.int .i64 1, wv ⟨xn, xh, xl⟩, wv ⟨yn, yh, yl⟩] (.tuple #[wv ⟨rn, rh, rl⟩, .int .i64 0]) := fun w => by
 unfold wv at *
 dsimp only at *
 replace c1 := Hd c1
 replace c2 := Hd c2
 replace c3 := Hd c3
 replace c4 := Hd c4
 replace cm := Hd cm
 replace ct := Hd ct
 go_enter Tryz.func130, Tryz.ntmps130
 go_wp2_with fail
 refine (c1.out.on _).mono ?_
 rintro e w1 ⟨rfl, hbr⟩
 obtain ⟨gx, gy, gz, hb⟩ := three_new (x := ⟨xn, xh, xl⟩) (y := ⟨yn, yh, yl⟩) (z := ⟨false, 0, 0⟩) hbr
 clear hbr
 replace gx := Hd gx
 replace gy := Hd gy
 replace gz := Hd gz
 replace hb := Hd hb
 obtain ⟨y0, y1, y2⟩ := gy.out.all
 dsimp only [zero] at y0 y1 y2
 go_wp2_with fail
 refine (c2.out.on _).mono ?_
 rintro e w2 ⟨rfl, hbr⟩
 replace gx := Hd (gx.out.below hbr)
 replace gy := Hd (gy.out.below hbr)
 replace gz := Hd (gz.out.below hbr)
 replace hb := Hd (wbelow_up hb.out hb.out.size hbr)
 clear hbr
 clear y0 y1 y2
 obtain ⟨x0, x1, x2⟩ := gx.out.all
 dsimp only [zero] at x0 x1 x2
 go_wp2_with fail
 refine (c3.out.on _).mono ?_
 rintro e w3 ⟨rfl, hbr⟩
 replace gx := Hd (gx.out.below hbr)
 replace gy := Hd (gy.out.below hbr)
 replace gz := Hd (gz.out.below hbr)
 replace hb := Hd (wbelow_up hb.out hb.out.size hbr)
 clear hbr
 clear x0 x1 x2
 replace gx := Hd (gx.out.alloc (oD xn dx))
 replace gy := Hd (gy.out.alloc (oD xn dx))
 replace gz := Hd (gz.out.alloc (oD xn dx))
 have ga := Hd (show IsD (w3.alloc (oD xn dx)) w3.heap.size xn dx from IsD.new w3 xn dx)
 replace hb := Hd (hb.out.alloc hb.out.size (oD xn dx))
 obtain ⟨y0, y1, y2⟩ := gy.out.all
 dsimp only [zero] at y0 y1 y2
 go_wp2_with (first | (with_reducible refine wpl_nalloc rfl rfl ?_) | (with_reducible refine wpl_nbuild0 rfl rfl ?_) | (with_reducible refine wpl_nstore_new rfl rfl rfl rfl rfl rfl hx ?_))
 refine (c4.out.on _).mono ?_
 rintro e w4 ⟨rfl, hbr⟩
 replace gx := Hd (gx.out.below hbr)
 replace gy := Hd (gy.out.below hbr)
 replace gz := Hd (gz.out.below hbr)
 replace ga := Hd (ga.out.call hbr)
 replace hb := Hd (wbelow_up hb.out hb.out.size hbr)
 clear hbr
 clear y0 y1 y2
 have q3 := Hd (gz.out.lt)
 have q4 := Hd (ga.out.lt)
 replace gx := Hd (gx.out.alloc (oD yn dy))
 replace gy := Hd (gy.out.alloc (oD yn dy))
 replace gz := Hd (gz.out.alloc (oD yn dy))
 replace ga := Hd (ga.out.alloc (oD yn dy))
 have gb := Hd (show IsD (w4.alloc (oD yn dy)) w4.heap.size yn dy from IsD.new w4 yn dy)
 replace hb := Hd (hb.out.alloc hb.out.size (oD yn dy))
 replace gx := Hd (gx.out.alloc (oD false Z40))
 replace gy := Hd (gy.out.alloc (oD false Z40))
 replace gz := Hd (gz.out.alloc (oD false Z40))
 replace ga := Hd (ga.out.alloc (oD false Z40))
 replace gb := Hd (gb.out.alloc (oD false Z40))
 have go := Hd (show IsD ((w4.alloc (oD yn dy)).alloc (oD false Z40)) (w4.heap.size + 1) false Z40 from (by have := IsD.new (w4.alloc (oD yn dy)) false Z40; rwa [wsize_alloc] at this))
 replace hb := Hd (hb.out.alloc hb.out.size (oD false Z40))
 go_upto_region 13 with (first | (with_reducible refine wpl_nalloc rfl rfl ?_) | (with_reducible refine wpl_nbuild0 rfl rfl ?_) | (with_reducible refine wpl_nstore_new rfl rfl rfl rfl (by simp) rfl hy ?_) | (with_reducible refine wpl_nstore_new rfl rfl rfl rfl (by simp) rfl rfl ?_))
 generalize (w4.alloc (oD yn dy)).alloc (oD false Z40) = v1 at *
 replace q3 := q3.out
 replace q4 := q4.out
 have ga' := ga.out
 have gb' := gb.out
 go_wp2_with (first | (with_reducible refine wpl_nload rfl rfl rfl ga' hx ?_) | (with_reducible refine wpl_nload rfl rfl rfl gb' hy ?_))
 clear ga' gb'
 refine (cm.out.on _).mono ?_
 rintro e w5 ⟨rfl, hbr⟩
 replace gx := Hd (gx.out.below hbr)
 replace gy := Hd (gy.out.below hbr)
 replace gz := Hd (gz.out.below hbr)
 replace ga := Hd (ga.out.call hbr)
 replace gb := Hd (gb.out.call hbr)
 replace go := Hd (go.out.call hbr)
 replace hb := Hd (wbelow_up hb.out hb.out.size hbr)
 clear hbr
 have go' := go.out
 go_upto_region 20 with (first | (with_reducible refine wpl_nstore rfl rfl rfl rfl go' rfl ho ?_))
 clear go'
 replace gx := Hd (gx.out.rowN (c := w4.heap.size + 1) (by omega) (nc on od).toArray)
 replace gy := Hd (gy.out.rowN (c := w4.heap.size + 1) (by omega) (nc on od).toArray)
 replace gz := Hd (gz.out.rowN (c := w4.heap.size + 1) (by omega) (nc on od).toArray)
 replace ga := Hd (ga.out.row_other (c := w4.heap.size + 1) (by omega) (nc on od).toArray)
 replace gb := Hd (gb.out.row_other (c := w4.heap.size + 1) (by omega) (nc on od).toArray)
 replace go := Hd (go.out.row on od)
 replace hb := Hd (wbelow_row hb.out (show w.heap.size ≤ w4.heap.size + 1 by omega) (nc on od).toArray)
 generalize w5.setRow (w4.heap.size + 1) (nc on od).toArray = v2 at *
 have go' := go.out
 go_wp2_with (first | (with_reducible refine wpl_nload rfl rfl rfl go' ho ?_))
 clear go'
 refine (ct.out.on _).mono ?_
 rintro e w6 ⟨rfl, hbr⟩
 have gz2 := (gz.out.below hbr).alloc (oN ⟨rn, rh, rl⟩)
 have gr2 : IsN (w6.alloc (oN ⟨rn, rh, rl⟩)) w6.heap.size ⟨rn, rh, rl⟩ := IsN.new w6 ⟨rn, rh, rl⟩
 have hb2 := (wbelow_up hb.out hb.out.size hbr).alloc (by have := hb.out.size; have := hbr.size; omega) (oN ⟨rn, rh, rl⟩)
 clear hbr gx gy gz ga gb go hb
 obtain ⟨z0, z1, z2⟩ := gz2.all
 have fz := gz2.f
 obtain ⟨y0, y1, y2⟩ := gr2.all
 obtain ⟨r0, r1, r2, hfin⟩ := last_set gz2 ⟨rn, rh, rl⟩ hb2 (by omega)
 dsimp only at z0 z1 z2 y0 y1 y2 r0 r1 r2 hfin
 replace hfin := Hd hfin
 replace gz2 := Hd gz2
 replace gr2 := Hd gr2
 replace hb2 := Hd hb2
 go_wp2_with fail
 (try simp only [Exit.inBlock, Exit.then])
 refine bodyPost_ret (by simp [results, Tryz.results130, go_sem, r0, r1, r2]; try rfl) rfl ?_
 exact ⟨rfl, hfin.out⟩
theorem do1_f (xn yn on : Bool) (xh xl yh yl : Int) (dx dy od : List Int) (rn : Bool) (rh rl : Int) (hx : dx.length = 40) (hy : dy.length = 40)
 (c1 : wRet 61 #[wv ⟨xn, xh, xl⟩] (.bool true)) (c2 : wRet 61 #[wv ⟨yn, yh, yl⟩] (.bool true)) (c3 : wRet 97 #[wv ⟨xn, xh, xl⟩] (nv xn dx)) (c4 : wRet 97 #[wv ⟨yn, yh, yl⟩] (nv yn dy))
 (cm : wRet 152 #[nv xn dx, nv yn dy] (nv on od)) (ho : od.length = 40) (ct : wRet 154 #[nv on od] (.tuple #[wv ⟨rn, rh, rl⟩, .bool false])) :
 wRet 130 #[.int .i64 1, wv ⟨xn, xh, xl⟩, wv ⟨yn, yh, yl⟩] (.tuple #[wv zero, .int .i64 3]) := fun w => by
 unfold wv at *
 dsimp only at *
 replace c1 := Hd c1
 replace c2 := Hd c2
 replace c3 := Hd c3
 replace c4 := Hd c4
 replace cm := Hd cm
 replace ct := Hd ct
 go_enter Tryz.func130, Tryz.ntmps130
 go_wp2_with fail
 refine (c1.out.on _).mono ?_
 rintro e w1 ⟨rfl, hbr⟩
 obtain ⟨gx, gy, gz, hb⟩ := three_new (x := ⟨xn, xh, xl⟩) (y := ⟨yn, yh, yl⟩) (z := ⟨false, 0, 0⟩) hbr
 clear hbr
 replace gx := Hd gx
 replace gy := Hd gy
 replace gz := Hd gz
 replace hb := Hd hb
 obtain ⟨y0, y1, y2⟩ := gy.out.all
 dsimp only [zero] at y0 y1 y2
 go_wp2_with fail
 refine (c2.out.on _).mono ?_
 rintro e w2 ⟨rfl, hbr⟩
 replace gx := Hd (gx.out.below hbr)
 replace gy := Hd (gy.out.below hbr)
 replace gz := Hd (gz.out.below hbr)
 replace hb := Hd (wbelow_up hb.out hb.out.size hbr)
 clear hbr
 clear y0 y1 y2
 obtain ⟨x0, x1, x2⟩ := gx.out.all
 dsimp only [zero] at x0 x1 x2
 go_wp2_with fail
 refine (c3.out.on _).mono ?_
 rintro e w3 ⟨rfl, hbr⟩
 replace gx := Hd (gx.out.below hbr)
 replace gy := Hd (gy.out.below hbr)
 replace gz := Hd (gz.out.below hbr)
 replace hb := Hd (wbelow_up hb.out hb.out.size hbr)
 clear hbr
 clear x0 x1 x2
 replace gx := Hd (gx.out.alloc (oD xn dx))
 replace gy := Hd (gy.out.alloc (oD xn dx))
 replace gz := Hd (gz.out.alloc (oD xn dx))
 have ga := Hd (show IsD (w3.alloc (oD xn dx)) w3.heap.size xn dx from IsD.new w3 xn dx)
 replace hb := Hd (hb.out.alloc hb.out.size (oD xn dx))
 obtain ⟨y0, y1, y2⟩ := gy.out.all
 dsimp only [zero] at y0 y1 y2
 go_wp2_with (first | (with_reducible refine wpl_nalloc rfl rfl ?_) | (with_reducible refine wpl_nbuild0 rfl rfl ?_) | (with_reducible refine wpl_nstore_new rfl rfl rfl rfl rfl rfl hx ?_))
 refine (c4.out.on _).mono ?_
 rintro e w4 ⟨rfl, hbr⟩
 replace gx := Hd (gx.out.below hbr)
 replace gy := Hd (gy.out.below hbr)
 replace gz := Hd (gz.out.below hbr)
 replace ga := Hd (ga.out.call hbr)
 replace hb := Hd (wbelow_up hb.out hb.out.size hbr)
 clear hbr
 clear y0 y1 y2
 have q3 := Hd (gz.out.lt)
 have q4 := Hd (ga.out.lt)
 replace gx := Hd (gx.out.alloc (oD yn dy))
 replace gy := Hd (gy.out.alloc (oD yn dy))
 replace gz := Hd (gz.out.alloc (oD yn dy))
 replace ga := Hd (ga.out.alloc (oD yn dy))
 have gb := Hd (show IsD (w4.alloc (oD yn dy)) w4.heap.size yn dy from IsD.new w4 yn dy)
 replace hb := Hd (hb.out.alloc hb.out.size (oD yn dy))
 replace gx := Hd (gx.out.alloc (oD false Z40))
 replace gy := Hd (gy.out.alloc (oD false Z40))
 replace gz := Hd (gz.out.alloc (oD false Z40))
 replace ga := Hd (ga.out.alloc (oD false Z40))
 replace gb := Hd (gb.out.alloc (oD false Z40))
 have go := Hd (show IsD ((w4.alloc (oD yn dy)).alloc (oD false Z40)) (w4.heap.size + 1) false Z40 from (by have := IsD.new (w4.alloc (oD yn dy)) false Z40; rwa [wsize_alloc] at this))
 replace hb := Hd (hb.out.alloc hb.out.size (oD false Z40))
 go_upto_region 13 with (first | (with_reducible refine wpl_nalloc rfl rfl ?_) | (with_reducible refine wpl_nbuild0 rfl rfl ?_) | (with_reducible refine wpl_nstore_new rfl rfl rfl rfl (by simp) rfl hy ?_) | (with_reducible refine wpl_nstore_new rfl rfl rfl rfl (by simp) rfl rfl ?_))
 generalize (w4.alloc (oD yn dy)).alloc (oD false Z40) = v1 at *
 replace q3 := q3.out
 replace q4 := q4.out
 have ga' := ga.out
 have gb' := gb.out
 go_wp2_with (first | (with_reducible refine wpl_nload rfl rfl rfl ga' hx ?_) | (with_reducible refine wpl_nload rfl rfl rfl gb' hy ?_))
 clear ga' gb'
 refine (cm.out.on _).mono ?_
 rintro e w5 ⟨rfl, hbr⟩
 replace gx := Hd (gx.out.below hbr)
 replace gy := Hd (gy.out.below hbr)
 replace gz := Hd (gz.out.below hbr)
 replace ga := Hd (ga.out.call hbr)
 replace gb := Hd (gb.out.call hbr)
 replace go := Hd (go.out.call hbr)
 replace hb := Hd (wbelow_up hb.out hb.out.size hbr)
 clear hbr
 have go' := go.out
 go_upto_region 20 with (first | (with_reducible refine wpl_nstore rfl rfl rfl rfl go' rfl ho ?_))
 clear go'
 replace gx := Hd (gx.out.rowN (c := w4.heap.size + 1) (by omega) (nc on od).toArray)
 replace gy := Hd (gy.out.rowN (c := w4.heap.size + 1) (by omega) (nc on od).toArray)
 replace gz := Hd (gz.out.rowN (c := w4.heap.size + 1) (by omega) (nc on od).toArray)
 replace ga := Hd (ga.out.row_other (c := w4.heap.size + 1) (by omega) (nc on od).toArray)
 replace gb := Hd (gb.out.row_other (c := w4.heap.size + 1) (by omega) (nc on od).toArray)
 replace go := Hd (go.out.row on od)
 replace hb := Hd (wbelow_row hb.out (show w.heap.size ≤ w4.heap.size + 1 by omega) (nc on od).toArray)
 generalize w5.setRow (w4.heap.size + 1) (nc on od).toArray = v2 at *
 have go' := go.out
 go_wp2_with (first | (with_reducible refine wpl_nload rfl rfl rfl go' ho ?_))
 clear go'
 refine (ct.out.on _).mono ?_
 rintro e w6 ⟨rfl, hbr⟩
 have gz2 := (gz.out.below hbr).alloc (oN ⟨rn, rh, rl⟩)
 have gr2 : IsN (w6.alloc (oN ⟨rn, rh, rl⟩)) w6.heap.size ⟨rn, rh, rl⟩ := IsN.new w6 ⟨rn, rh, rl⟩
 have hb2 := (wbelow_up hb.out hb.out.size hbr).alloc (by have := hb.out.size; have := hbr.size; omega) (oN ⟨rn, rh, rl⟩)
 clear hbr gx gy gz ga gb go hb
 obtain ⟨z0, z1, z2⟩ := gz2.all
 have fz := gz2.f
 obtain ⟨y0, y1, y2⟩ := gr2.all
 obtain ⟨r0, r1, r2, hfin⟩ := last_set gz2 ⟨false, 0, 0⟩ hb2 (by omega)
 dsimp only at z0 z1 z2 y0 y1 y2 r0 r1 r2 hfin
 replace hfin := Hd hfin
 replace gz2 := Hd gz2
 replace gr2 := Hd gr2
 replace hb2 := Hd hb2
 go_wp2_with fail
 (try simp only [Exit.inBlock, Exit.then])
 refine bodyPost_ret (by simp [results, Tryz.results130, go_sem, r0, r1, r2]; try rfl) rfl ?_
 exact ⟨rfl, hfin.out⟩
theorem do3_t (xn yn on : Bool) (xh xl yh yl : Int) (dx dy od : List Int) (rn : Bool) (rh rl : Int) (hx : dx.length = 40) (hy : dy.length = 40)
 (c1 : wRet 61 #[wv ⟨xn, xh, xl⟩] (.bool true)) (c2 : wRet 61 #[wv ⟨yn, yh, yl⟩] (.bool true)) (c3 : wRet 97 #[wv ⟨xn, xh, xl⟩] (nv xn dx)) (c4 : wRet 97 #[wv ⟨yn, yh, yl⟩] (nv yn dy))
 (cm : wRet 153 #[nv xn dx, nv yn dy] (nv on od)) (ho : od.length = 40) (ct : wRet 154 #[nv on od] (.tuple #[wv ⟨rn, rh, rl⟩, .bool true])) :
 wRet 130 #[.int .i64 3, wv ⟨xn, xh, xl⟩, wv ⟨yn, yh, yl⟩] (.tuple #[wv ⟨rn, rh, rl⟩, .int .i64 0]) := fun w => by
 unfold wv at *
 dsimp only at *
 replace c1 := Hd c1
 replace c2 := Hd c2
 replace c3 := Hd c3
 replace c4 := Hd c4
 replace cm := Hd cm
 replace ct := Hd ct
 go_enter Tryz.func130, Tryz.ntmps130
 go_wp2_with fail
 refine (c1.out.on _).mono ?_
 rintro e w1 ⟨rfl, hbr⟩
 obtain ⟨gx, gy, gz, hb⟩ := three_new (x := ⟨xn, xh, xl⟩) (y := ⟨yn, yh, yl⟩) (z := ⟨false, 0, 0⟩) hbr
 clear hbr
 replace gx := Hd gx
 replace gy := Hd gy
 replace gz := Hd gz
 replace hb := Hd hb
 obtain ⟨y0, y1, y2⟩ := gy.out.all
 dsimp only [zero] at y0 y1 y2
 go_wp2_with fail
 refine (c2.out.on _).mono ?_
 rintro e w2 ⟨rfl, hbr⟩
 replace gx := Hd (gx.out.below hbr)
 replace gy := Hd (gy.out.below hbr)
 replace gz := Hd (gz.out.below hbr)
 replace hb := Hd (wbelow_up hb.out hb.out.size hbr)
 clear hbr
 clear y0 y1 y2
 obtain ⟨x0, x1, x2⟩ := gx.out.all
 dsimp only [zero] at x0 x1 x2
 go_wp2_with fail
 refine (c3.out.on _).mono ?_
 rintro e w3 ⟨rfl, hbr⟩
 replace gx := Hd (gx.out.below hbr)
 replace gy := Hd (gy.out.below hbr)
 replace gz := Hd (gz.out.below hbr)
 replace hb := Hd (wbelow_up hb.out hb.out.size hbr)
 clear hbr
 clear x0 x1 x2
 replace gx := Hd (gx.out.alloc (oD xn dx))
 replace gy := Hd (gy.out.alloc (oD xn dx))
 replace gz := Hd (gz.out.alloc (oD xn dx))
 have ga := Hd (show IsD (w3.alloc (oD xn dx)) w3.heap.size xn dx from IsD.new w3 xn dx)
 replace hb := Hd (hb.out.alloc hb.out.size (oD xn dx))
 obtain ⟨y0, y1, y2⟩ := gy.out.all
 dsimp only [zero] at y0 y1 y2
 go_wp2_with (first | (with_reducible refine wpl_nalloc rfl rfl ?_) | (with_reducible refine wpl_nbuild0 rfl rfl ?_) | (with_reducible refine wpl_nstore_new rfl rfl rfl rfl rfl rfl hx ?_))
 refine (c4.out.on _).mono ?_
 rintro e w4 ⟨rfl, hbr⟩
 replace gx := Hd (gx.out.below hbr)
 replace gy := Hd (gy.out.below hbr)
 replace gz := Hd (gz.out.below hbr)
 replace ga := Hd (ga.out.call hbr)
 replace hb := Hd (wbelow_up hb.out hb.out.size hbr)
 clear hbr
 clear y0 y1 y2
 have q3 := Hd (gz.out.lt)
 have q4 := Hd (ga.out.lt)
 replace gx := Hd (gx.out.alloc (oD yn dy))
 replace gy := Hd (gy.out.alloc (oD yn dy))
 replace gz := Hd (gz.out.alloc (oD yn dy))
 replace ga := Hd (ga.out.alloc (oD yn dy))
 have gb := Hd (show IsD (w4.alloc (oD yn dy)) w4.heap.size yn dy from IsD.new w4 yn dy)
 replace hb := Hd (hb.out.alloc hb.out.size (oD yn dy))
 replace gx := Hd (gx.out.alloc (oD false Z40))
 replace gy := Hd (gy.out.alloc (oD false Z40))
 replace gz := Hd (gz.out.alloc (oD false Z40))
 replace ga := Hd (ga.out.alloc (oD false Z40))
 replace gb := Hd (gb.out.alloc (oD false Z40))
 have go := Hd (show IsD ((w4.alloc (oD yn dy)).alloc (oD false Z40)) (w4.heap.size + 1) false Z40 from (by have := IsD.new (w4.alloc (oD yn dy)) false Z40; rwa [wsize_alloc] at this))
 replace hb := Hd (hb.out.alloc hb.out.size (oD false Z40))
 go_upto_region 13 with (first | (with_reducible refine wpl_nalloc rfl rfl ?_) | (with_reducible refine wpl_nbuild0 rfl rfl ?_) | (with_reducible refine wpl_nstore_new rfl rfl rfl rfl (by simp) rfl hy ?_) | (with_reducible refine wpl_nstore_new rfl rfl rfl rfl (by simp) rfl rfl ?_))
 generalize (w4.alloc (oD yn dy)).alloc (oD false Z40) = v1 at *
 replace q3 := q3.out
 replace q4 := q4.out
 have ga' := ga.out
 have gb' := gb.out
 go_wp2_with (first | (with_reducible refine wpl_nload rfl rfl rfl ga' hx ?_) | (with_reducible refine wpl_nload rfl rfl rfl gb' hy ?_))
 clear ga' gb'
 refine (cm.out.on _).mono ?_
 rintro e w5 ⟨rfl, hbr⟩
 replace gx := Hd (gx.out.below hbr)
 replace gy := Hd (gy.out.below hbr)
 replace gz := Hd (gz.out.below hbr)
 replace ga := Hd (ga.out.call hbr)
 replace gb := Hd (gb.out.call hbr)
 replace go := Hd (go.out.call hbr)
 replace hb := Hd (wbelow_up hb.out hb.out.size hbr)
 clear hbr
 have go' := go.out
 go_upto_region 20 with (first | (with_reducible refine wpl_nstore rfl rfl rfl rfl go' rfl ho ?_))
 clear go'
 replace gx := Hd (gx.out.rowN (c := w4.heap.size + 1) (by omega) (nc on od).toArray)
 replace gy := Hd (gy.out.rowN (c := w4.heap.size + 1) (by omega) (nc on od).toArray)
 replace gz := Hd (gz.out.rowN (c := w4.heap.size + 1) (by omega) (nc on od).toArray)
 replace ga := Hd (ga.out.row_other (c := w4.heap.size + 1) (by omega) (nc on od).toArray)
 replace gb := Hd (gb.out.row_other (c := w4.heap.size + 1) (by omega) (nc on od).toArray)
 replace go := Hd (go.out.row on od)
 replace hb := Hd (wbelow_row hb.out (show w.heap.size ≤ w4.heap.size + 1 by omega) (nc on od).toArray)
 generalize w5.setRow (w4.heap.size + 1) (nc on od).toArray = v2 at *
 have go' := go.out
 go_wp2_with (first | (with_reducible refine wpl_nload rfl rfl rfl go' ho ?_))
 clear go'
 refine (ct.out.on _).mono ?_
 rintro e w6 ⟨rfl, hbr⟩
 have gz2 := (gz.out.below hbr).alloc (oN ⟨rn, rh, rl⟩)
 have gr2 : IsN (w6.alloc (oN ⟨rn, rh, rl⟩)) w6.heap.size ⟨rn, rh, rl⟩ := IsN.new w6 ⟨rn, rh, rl⟩
 have hb2 := (wbelow_up hb.out hb.out.size hbr).alloc (by have := hb.out.size; have := hbr.size; omega) (oN ⟨rn, rh, rl⟩)
 clear hbr gx gy gz ga gb go hb
 obtain ⟨z0, z1, z2⟩ := gz2.all
 have fz := gz2.f
 obtain ⟨y0, y1, y2⟩ := gr2.all
 obtain ⟨r0, r1, r2, hfin⟩ := last_set gz2 ⟨rn, rh, rl⟩ hb2 (by omega)
 dsimp only at z0 z1 z2 y0 y1 y2 r0 r1 r2 hfin
 replace hfin := Hd hfin
 replace gz2 := Hd gz2
 replace gr2 := Hd gr2
 replace hb2 := Hd hb2
 go_wp2_with fail
 (try simp only [Exit.inBlock, Exit.then])
 refine bodyPost_ret (by simp [results, Tryz.results130, go_sem, r0, r1, r2]; try rfl) rfl ?_
 exact ⟨rfl, hfin.out⟩
theorem do3_f (xn yn on : Bool) (xh xl yh yl : Int) (dx dy od : List Int) (rn : Bool) (rh rl : Int) (hx : dx.length = 40) (hy : dy.length = 40)
 (c1 : wRet 61 #[wv ⟨xn, xh, xl⟩] (.bool true)) (c2 : wRet 61 #[wv ⟨yn, yh, yl⟩] (.bool true)) (c3 : wRet 97 #[wv ⟨xn, xh, xl⟩] (nv xn dx)) (c4 : wRet 97 #[wv ⟨yn, yh, yl⟩] (nv yn dy))
 (cm : wRet 153 #[nv xn dx, nv yn dy] (nv on od)) (ho : od.length = 40) (ct : wRet 154 #[nv on od] (.tuple #[wv ⟨rn, rh, rl⟩, .bool false])) :
 wRet 130 #[.int .i64 3, wv ⟨xn, xh, xl⟩, wv ⟨yn, yh, yl⟩] (.tuple #[wv zero, .int .i64 3]) := fun w => by
 unfold wv at *
 dsimp only at *
 replace c1 := Hd c1
 replace c2 := Hd c2
 replace c3 := Hd c3
 replace c4 := Hd c4
 replace cm := Hd cm
 replace ct := Hd ct
 go_enter Tryz.func130, Tryz.ntmps130
 go_wp2_with fail
 refine (c1.out.on _).mono ?_
 rintro e w1 ⟨rfl, hbr⟩
 obtain ⟨gx, gy, gz, hb⟩ := three_new (x := ⟨xn, xh, xl⟩) (y := ⟨yn, yh, yl⟩) (z := ⟨false, 0, 0⟩) hbr
 clear hbr
 replace gx := Hd gx
 replace gy := Hd gy
 replace gz := Hd gz
 replace hb := Hd hb
 obtain ⟨y0, y1, y2⟩ := gy.out.all
 dsimp only [zero] at y0 y1 y2
 go_wp2_with fail
 refine (c2.out.on _).mono ?_
 rintro e w2 ⟨rfl, hbr⟩
 replace gx := Hd (gx.out.below hbr)
 replace gy := Hd (gy.out.below hbr)
 replace gz := Hd (gz.out.below hbr)
 replace hb := Hd (wbelow_up hb.out hb.out.size hbr)
 clear hbr
 clear y0 y1 y2
 obtain ⟨x0, x1, x2⟩ := gx.out.all
 dsimp only [zero] at x0 x1 x2
 go_wp2_with fail
 refine (c3.out.on _).mono ?_
 rintro e w3 ⟨rfl, hbr⟩
 replace gx := Hd (gx.out.below hbr)
 replace gy := Hd (gy.out.below hbr)
 replace gz := Hd (gz.out.below hbr)
 replace hb := Hd (wbelow_up hb.out hb.out.size hbr)
 clear hbr
 clear x0 x1 x2
 replace gx := Hd (gx.out.alloc (oD xn dx))
 replace gy := Hd (gy.out.alloc (oD xn dx))
 replace gz := Hd (gz.out.alloc (oD xn dx))
 have ga := Hd (show IsD (w3.alloc (oD xn dx)) w3.heap.size xn dx from IsD.new w3 xn dx)
 replace hb := Hd (hb.out.alloc hb.out.size (oD xn dx))
 obtain ⟨y0, y1, y2⟩ := gy.out.all
 dsimp only [zero] at y0 y1 y2
 go_wp2_with (first | (with_reducible refine wpl_nalloc rfl rfl ?_) | (with_reducible refine wpl_nbuild0 rfl rfl ?_) | (with_reducible refine wpl_nstore_new rfl rfl rfl rfl rfl rfl hx ?_))
 refine (c4.out.on _).mono ?_
 rintro e w4 ⟨rfl, hbr⟩
 replace gx := Hd (gx.out.below hbr)
 replace gy := Hd (gy.out.below hbr)
 replace gz := Hd (gz.out.below hbr)
 replace ga := Hd (ga.out.call hbr)
 replace hb := Hd (wbelow_up hb.out hb.out.size hbr)
 clear hbr
 clear y0 y1 y2
 have q3 := Hd (gz.out.lt)
 have q4 := Hd (ga.out.lt)
 replace gx := Hd (gx.out.alloc (oD yn dy))
 replace gy := Hd (gy.out.alloc (oD yn dy))
 replace gz := Hd (gz.out.alloc (oD yn dy))
 replace ga := Hd (ga.out.alloc (oD yn dy))
 have gb := Hd (show IsD (w4.alloc (oD yn dy)) w4.heap.size yn dy from IsD.new w4 yn dy)
 replace hb := Hd (hb.out.alloc hb.out.size (oD yn dy))
 replace gx := Hd (gx.out.alloc (oD false Z40))
 replace gy := Hd (gy.out.alloc (oD false Z40))
 replace gz := Hd (gz.out.alloc (oD false Z40))
 replace ga := Hd (ga.out.alloc (oD false Z40))
 replace gb := Hd (gb.out.alloc (oD false Z40))
 have go := Hd (show IsD ((w4.alloc (oD yn dy)).alloc (oD false Z40)) (w4.heap.size + 1) false Z40 from (by have := IsD.new (w4.alloc (oD yn dy)) false Z40; rwa [wsize_alloc] at this))
 replace hb := Hd (hb.out.alloc hb.out.size (oD false Z40))
 go_upto_region 13 with (first | (with_reducible refine wpl_nalloc rfl rfl ?_) | (with_reducible refine wpl_nbuild0 rfl rfl ?_) | (with_reducible refine wpl_nstore_new rfl rfl rfl rfl (by simp) rfl hy ?_) | (with_reducible refine wpl_nstore_new rfl rfl rfl rfl (by simp) rfl rfl ?_))
 generalize (w4.alloc (oD yn dy)).alloc (oD false Z40) = v1 at *
 replace q3 := q3.out
 replace q4 := q4.out
 have ga' := ga.out
 have gb' := gb.out
 go_wp2_with (first | (with_reducible refine wpl_nload rfl rfl rfl ga' hx ?_) | (with_reducible refine wpl_nload rfl rfl rfl gb' hy ?_))
 clear ga' gb'
 refine (cm.out.on _).mono ?_
 rintro e w5 ⟨rfl, hbr⟩
 replace gx := Hd (gx.out.below hbr)
 replace gy := Hd (gy.out.below hbr)
 replace gz := Hd (gz.out.below hbr)
 replace ga := Hd (ga.out.call hbr)
 replace gb := Hd (gb.out.call hbr)
 replace go := Hd (go.out.call hbr)
 replace hb := Hd (wbelow_up hb.out hb.out.size hbr)
 clear hbr
 have go' := go.out
 go_upto_region 20 with (first | (with_reducible refine wpl_nstore rfl rfl rfl rfl go' rfl ho ?_))
 clear go'
 replace gx := Hd (gx.out.rowN (c := w4.heap.size + 1) (by omega) (nc on od).toArray)
 replace gy := Hd (gy.out.rowN (c := w4.heap.size + 1) (by omega) (nc on od).toArray)
 replace gz := Hd (gz.out.rowN (c := w4.heap.size + 1) (by omega) (nc on od).toArray)
 replace ga := Hd (ga.out.row_other (c := w4.heap.size + 1) (by omega) (nc on od).toArray)
 replace gb := Hd (gb.out.row_other (c := w4.heap.size + 1) (by omega) (nc on od).toArray)
 replace go := Hd (go.out.row on od)
 replace hb := Hd (wbelow_row hb.out (show w.heap.size ≤ w4.heap.size + 1 by omega) (nc on od).toArray)
 generalize w5.setRow (w4.heap.size + 1) (nc on od).toArray = v2 at *
 have go' := go.out
 go_wp2_with (first | (with_reducible refine wpl_nload rfl rfl rfl go' ho ?_))
 clear go'
 refine (ct.out.on _).mono ?_
 rintro e w6 ⟨rfl, hbr⟩
 have gz2 := (gz.out.below hbr).alloc (oN ⟨rn, rh, rl⟩)
 have gr2 : IsN (w6.alloc (oN ⟨rn, rh, rl⟩)) w6.heap.size ⟨rn, rh, rl⟩ := IsN.new w6 ⟨rn, rh, rl⟩
 have hb2 := (wbelow_up hb.out hb.out.size hbr).alloc (by have := hb.out.size; have := hbr.size; omega) (oN ⟨rn, rh, rl⟩)
 clear hbr gx gy gz ga gb go hb
 obtain ⟨z0, z1, z2⟩ := gz2.all
 have fz := gz2.f
 obtain ⟨y0, y1, y2⟩ := gr2.all
 obtain ⟨r0, r1, r2, hfin⟩ := last_set gz2 ⟨false, 0, 0⟩ hb2 (by omega)
 dsimp only at z0 z1 z2 y0 y1 y2 r0 r1 r2 hfin
 replace hfin := Hd hfin
 replace gz2 := Hd gz2
 replace gr2 := Hd gr2
 replace hb2 := Hd hb2
 go_wp2_with fail
 (try simp only [Exit.inBlock, Exit.then])
 refine bodyPost_ret (by simp [results, Tryz.results130, go_sem, r0, r1, r2]; try rfl) rfl ?_
 exact ⟨rfl, hfin.out⟩
end Go.Proofs.YtjjgbillihedgaaGreatDoor
