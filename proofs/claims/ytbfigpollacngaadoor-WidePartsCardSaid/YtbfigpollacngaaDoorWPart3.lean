/- the walk over WideParts: numbers in form -/
import Derived.Test.YtbfigpollacngaaDoorWvN
namespace Go.Proofs.YtbfigpollacngaaDoor
open Go.RowKit
open Rf
open Wide

set_option maxRecDepth 10000 in
set_option maxHeartbeats 8000000 in
theorem wideParts_over_F_neg (x : WI) (ho : x.Ok) (hf : x.form = true) (y : WI) (hp : y.Ok) (hg : y.form = true) (f0 : (addF x y).2 = 3) (hz : nil2 y.h y.l = false) (hm : y.n = false) (hrn : (remF x y).1.n = true) (hs0 : signF (remF x y).1 = -1) (hxn : x.n = true) (w : World) :
    Calls Tryd.prog 7 #[wv x, wv y] w fun e w' => e = .returned (.bool true) ∧ Below w.heap.size w w' := by
  have cf := form_c x ho
  rw [hf] at cf
  have cg := form_c y hp
  rw [hg] at cg
  have ca := add_c x y ho hp
  have cq := quo_c x y ho hp
  have cr := rem_c x y ho hp
  have cs := sign_c y hp
  have cw := awake_c
  obtain ⟨l1, l2, l3, l4, l5, -, kq, kr⟩ := parts_law x y ho hp hf hg hz
  have hsy := sign_ne hp hg hz
  have hsyb : (signF y == 0) = false := by simpa using hsy
  have cm := mul_c (quoF x y).1 y kq hp
  have cal := add_c (mulF (quoF x y).1 y).1 (remF x y).1 (mulF_ok _ _) kr
  rw [l4] at cal
  have csr := sign_c (remF x y).1 kr
  rw [hs0] at csr
  have cny := neg_c y hp
  have cnr := neg_c (remF x y).1 kr
  rw [hrn, hm] at l5
  rw [if_pos rfl, if_neg (by decide)] at l5
  have cc := cmp_c (negF (remF x y).1) y (negF_ok _ kr) hp
  rw [l5] at cc
  have hyk := negF_ok y hp
  clear l4 l5 hs0 hz
  generalize negF (remF x y).1 = RN at *
  generalize negF y = YN at *
  generalize signF y = sy at *
  generalize mulF (quoF x y).1 y = M at *
  generalize quoF x y = Q at *
  generalize remF x y = R0 at *
  generalize addF x y = A at *
  clear ho hf hp hg kq kr hyk
  obtain ⟨⟨An, Ah, Al⟩, Ae⟩ := A
  obtain ⟨⟨Qn, Qh, Ql⟩, Qe⟩ := Q
  obtain ⟨⟨rn, rh, rl⟩, re⟩ := R0
  obtain ⟨⟨Mn, Mh, Ml⟩, Me⟩ := M
  obtain ⟨RNn, RNh, RNl⟩ := RN
  obtain ⟨YNn, YNh, YNl⟩ := YN
  obtain ⟨xn, xh, xl⟩ := x
  obtain ⟨yn, yh, yl⟩ := y
  unfold wv at *
  dsimp only at *
  subst f0
  subst l1 l2 l3 hm hrn hxn
  replace cf := Lib.hid cf
  replace cg := Lib.hid cg
  replace ca := Lib.hid ca
  replace cq := Lib.hid cq
  replace cr := Lib.hid cr
  replace cs := Lib.hid cs
  replace cw := Lib.hid cw
  replace cm := Lib.hid cm
  replace cal := Lib.hid cal
  replace csr := Lib.hid csr
  replace cny := Lib.hid cny
  replace cnr := Lib.hid cnr
  replace cc := Lib.hid cc
  go_enter Tryd.func7, Tryd.ntmps7
  go_wp2_with fail
  refine (cw.out _).mono ?_
  rintro e w1 ⟨rfl, hb1⟩
  obtain ⟨gx, gy, hb⟩ := two_new (x := ⟨true, xh, xl⟩) (y := ⟨false, yh, yl⟩) hb1
  have hs := hb.size
  clear hb1
  replace gx := Lib.hid gx
  replace gy := Lib.hid gy
  replace hb := Lib.hid hb
  obtain ⟨cx0, cx1, cx2⟩ := gx.out.all
  dsimp only at cx0 cx1 cx2
  go_wp2_with fail
  refine (cf.out _).mono ?_
  rintro e w2 ⟨rfl, hb2⟩
  replace gx := Lib.hid (isN_of hb2 gx.out)
  replace gy := Lib.hid (isN_of hb2 gy.out)
  replace hb := Lib.hid (hb.out.trans (hb2.mono hs))
  clear hs hb2
  have hs := hb.out.size
  clear cx0 cx1 cx2
  obtain ⟨cy0, cy1, cy2⟩ := gy.out.all
  dsimp only at cy0 cy1 cy2
  go_wp2_with fail
  refine (cg.out _).mono ?_
  rintro e w3 ⟨rfl, hb3⟩
  replace gx := Lib.hid (isN_of hb3 gx.out)
  replace gy := Lib.hid (isN_of hb3 gy.out)
  replace hb := Lib.hid (hb.out.trans (hb3.mono hs))
  clear hs hb3
  have hs := hb.out.size
  clear cy0 cy1 cy2
  obtain ⟨cx0, cx1, cx2⟩ := gx.out.all
  obtain ⟨cy0, cy1, cy2⟩ := gy.out.all
  dsimp only at cx0 cx1 cx2 cy0 cy1 cy2
  go_wp2_with fail
  refine (ca.out _).mono ?_
  rintro e w4 ⟨rfl, hb4⟩
  replace gx := Lib.hid (isN_of hb4 gx.out)
  replace gy := Lib.hid (isN_of hb4 gy.out)
  replace hb := Lib.hid (hb.out.trans (hb4.mono hs))
  clear hs hb4
  have hs := hb.out.size
  replace gx := Lib.hid (gx.out.alloc (oN ⟨An, Ah, Al⟩))
  replace gy := Lib.hid (gy.out.alloc (oN ⟨An, Ah, Al⟩))
  have ga := Lib.hid (IsN.new w4 ⟨An, Ah, Al⟩)
  replace hb := Lib.hid (hb.out.alloc hs (oN ⟨An, Ah, Al⟩))
  clear hs
  have hs := hb.out.size
  clear cx0 cx1 cx2 cy0 cy1 cy2
  obtain ⟨ca0, ca1, ca2⟩ := ga.out.all
  obtain ⟨cy0, cy1, cy2⟩ := gy.out.all
  obtain ⟨cx0, cx1, cx2⟩ := gx.out.all
  dsimp only at ca0 ca1 ca2 cy0 cy1 cy2 cx0 cx1 cx2
  go_wp2_with fail
  refine (cq.out _).mono ?_
  rintro e w5 ⟨rfl, hb5⟩
  replace gx := Lib.hid (isN_of hb5 gx.out)
  replace gy := Lib.hid (isN_of hb5 gy.out)
  replace ga := Lib.hid (isN_of hb5 ga.out)
  replace hb := Lib.hid (hb.out.trans (hb5.mono hs))
  clear hs hb5
  have hs := hb.out.size
  replace gx := Lib.hid (gx.out.alloc (oN ⟨Qn, Qh, Ql⟩))
  replace gy := Lib.hid (gy.out.alloc (oN ⟨Qn, Qh, Ql⟩))
  replace ga := Lib.hid (ga.out.alloc (oN ⟨Qn, Qh, Ql⟩))
  have gq := Lib.hid (IsN.new w5 ⟨Qn, Qh, Ql⟩)
  replace hb := Lib.hid (hb.out.alloc hs (oN ⟨Qn, Qh, Ql⟩))
  clear hs
  have hs := hb.out.size
  clear ca0 ca1 ca2 cy0 cy1 cy2 cx0 cx1 cx2
  obtain ⟨cx0, cx1, cx2⟩ := gx.out.all
  obtain ⟨cy0, cy1, cy2⟩ := gy.out.all
  dsimp only at cx0 cx1 cx2 cy0 cy1 cy2
  go_wp2_with fail
  refine (cr.out _).mono ?_
  rintro e w6 ⟨rfl, hb6⟩
  replace gx := Lib.hid (isN_of hb6 gx.out)
  replace gy := Lib.hid (isN_of hb6 gy.out)
  replace ga := Lib.hid (isN_of hb6 ga.out)
  replace gq := Lib.hid (isN_of hb6 gq.out)
  replace hb := Lib.hid (hb.out.trans (hb6.mono hs))
  clear hs hb6
  have hs := hb.out.size
  replace gx := Lib.hid (gx.out.alloc (oN ⟨true, rh, rl⟩))
  replace gy := Lib.hid (gy.out.alloc (oN ⟨true, rh, rl⟩))
  replace ga := Lib.hid (ga.out.alloc (oN ⟨true, rh, rl⟩))
  replace gq := Lib.hid (gq.out.alloc (oN ⟨true, rh, rl⟩))
  have gr := Lib.hid (IsN.new w6 ⟨true, rh, rl⟩)
  replace hb := Lib.hid (hb.out.alloc hs (oN ⟨true, rh, rl⟩))
  clear hs
  have hs := hb.out.size
  clear cx0 cx1 cx2 cy0 cy1 cy2
  obtain ⟨cy0, cy1, cy2⟩ := gy.out.all
  dsimp only at cy0 cy1 cy2
  go_wp2_with fail
  refine (cs.out _).mono ?_
  rintro e w7 ⟨rfl, hb7⟩
  replace gx := Lib.hid (isN_of hb7 gx.out)
  replace gy := Lib.hid (isN_of hb7 gy.out)
  replace ga := Lib.hid (isN_of hb7 ga.out)
  replace gq := Lib.hid (isN_of hb7 gq.out)
  replace gr := Lib.hid (isN_of hb7 gr.out)
  replace hb := Lib.hid (hb.out.trans (hb7.mono hs))
  clear hs hb7
  have hs := hb.out.size
  clear cy0 cy1 cy2
  obtain ⟨cq0, cq1, cq2⟩ := gq.out.all
  obtain ⟨cy0, cy1, cy2⟩ := gy.out.all
  dsimp only at cq0 cq1 cq2 cy0 cy1 cy2
  go_wp2_with fail
  refine (cm.out _).mono ?_
  rintro e w8 ⟨rfl, hb8⟩
  replace gx := Lib.hid (isN_of hb8 gx.out)
  replace gy := Lib.hid (isN_of hb8 gy.out)
  replace ga := Lib.hid (isN_of hb8 ga.out)
  replace gq := Lib.hid (isN_of hb8 gq.out)
  replace gr := Lib.hid (isN_of hb8 gr.out)
  replace hb := Lib.hid (hb.out.trans (hb8.mono hs))
  clear hs hb8
  have hs := hb.out.size
  replace gx := Lib.hid (gx.out.alloc (oN ⟨Mn, Mh, Ml⟩))
  replace gy := Lib.hid (gy.out.alloc (oN ⟨Mn, Mh, Ml⟩))
  replace ga := Lib.hid (ga.out.alloc (oN ⟨Mn, Mh, Ml⟩))
  replace gq := Lib.hid (gq.out.alloc (oN ⟨Mn, Mh, Ml⟩))
  replace gr := Lib.hid (gr.out.alloc (oN ⟨Mn, Mh, Ml⟩))
  have gm := Lib.hid (IsN.new w8 ⟨Mn, Mh, Ml⟩)
  replace hb := Lib.hid (hb.out.alloc hs (oN ⟨Mn, Mh, Ml⟩))
  clear hs
  have hs := hb.out.size
  clear cq0 cq1 cq2 cy0 cy1 cy2
  obtain ⟨cm0, cm1, cm2⟩ := gm.out.all
  obtain ⟨cr0, cr1, cr2⟩ := gr.out.all
  dsimp only at cm0 cm1 cm2 cr0 cr1 cr2
  skip
  go_wp2_with fail
  refine (cal.out _).mono ?_
  rintro e w9 ⟨rfl, hb9⟩
  replace gx := Lib.hid (isN_of hb9 gx.out)
  replace gy := Lib.hid (isN_of hb9 gy.out)
  replace gr := Lib.hid (isN_of hb9 gr.out)
  replace hb := Lib.hid (hb.out.trans (hb9.mono hs))
  clear hs hb9
  have hs := hb.out.size
  replace gx := Lib.hid (gx.out.alloc (oN ⟨true, xh, xl⟩))
  replace gy := Lib.hid (gy.out.alloc (oN ⟨true, xh, xl⟩))
  replace gr := Lib.hid (gr.out.alloc (oN ⟨true, xh, xl⟩))
  have gt := Lib.hid (IsN.new w9 ⟨true, xh, xl⟩)
  replace hb := Lib.hid (hb.out.alloc hs (oN ⟨true, xh, xl⟩))
  clear hs
  have hs := hb.out.size
  clear cm0 cm1 cm2 cr0 cr1 cr2
  obtain ⟨by0, by1, by2⟩ := gy.out.all
  obtain ⟨br0, br1, br2⟩ := gr.out.all
  dsimp only at by0 by1 by2 br0 br1 br2
  have gn := Lib.hid (show IsN ((w9.alloc (oN ⟨true, xh, xl⟩)).alloc (oN ⟨false, yh, yl⟩)) (w9.heap.size + 1) ⟨false, yh, yl⟩ from by have h := IsN.new (w9.alloc (oN ⟨true, xh, xl⟩)) ⟨false, yh, yl⟩; rwa [size_alloc] at h)
  have ltx := gx.out.lt
  rw [size_alloc] at ltx
  have lty := gy.out.lt
  rw [size_alloc] at lty
  have ltr := gr.out.lt
  rw [size_alloc] at ltr
  have ltt := gt.out.lt
  rw [size_alloc] at ltt
  replace gx := Lib.hid (gx.out.alloc (oN ⟨false, yh, yl⟩))
  replace gy := Lib.hid (gy.out.alloc (oN ⟨false, yh, yl⟩))
  replace gr := Lib.hid (gr.out.alloc (oN ⟨false, yh, yl⟩))
  replace gt := Lib.hid (gt.out.alloc (oN ⟨false, yh, yl⟩))
  replace hb := Lib.hid (hb.out.alloc hs (oN ⟨false, yh, yl⟩))
  clear hs
  have hs := hb.out.size
  have hba : w.heap.size ≤ w9.heap.size + 1 := by have := gx.out.lt; rw [size_alloc, size_alloc] at this; omega
  obtain ⟨cx0, cx1, cx2⟩ := gx.out.all
  obtain ⟨cy0, cy1, cy2⟩ := gy.out.all
  obtain ⟨cr0, cr1, cr2⟩ := gr.out.all
  obtain ⟨ct0, ct1, ct2⟩ := gt.out.all
  obtain ⟨cn0, cn1, cn2⟩ := gn.out.all
  dsimp only at cx0 cx1 cx2 cy0 cy1 cy2 cr0 cr1 cr2 ct0 ct1 ct2 cn0 cn1 cn2
  have ltn := gn.out.lt
  rw [size_alloc, size_alloc] at ltn
  have gp := Lib.hid (show IsN (World.alloc ((w9.alloc (oN ⟨true, xh, xl⟩)).alloc (oN ⟨false, yh, yl⟩)) (oN ⟨true, rh, rl⟩)) (w9.heap.size + 2) ⟨true, rh, rl⟩ from by have h := IsN.new ((w9.alloc (oN ⟨true, xh, xl⟩)).alloc (oN ⟨false, yh, yl⟩)) ⟨true, rh, rl⟩; rwa [size_alloc, size_alloc] at h)
  replace gx := Lib.hid (gx.out.alloc (oN ⟨true, rh, rl⟩))
  replace gr := Lib.hid (gr.out.alloc (oN ⟨true, rh, rl⟩))
  replace gt := Lib.hid (gt.out.alloc (oN ⟨true, rh, rl⟩))
  replace gn := Lib.hid (gn.out.alloc (oN ⟨true, rh, rl⟩))
  replace hb := Lib.hid (hb.out.alloc hs (oN ⟨true, rh, rl⟩))
  clear hs
  have hs := hb.out.size
  have hbp : w.heap.size ≤ w9.heap.size + 2 := by omega
  obtain ⟨dx0, dx1, dx2⟩ := gx.out.all
  obtain ⟨dr0, dr1, dr2⟩ := gr.out.all
  obtain ⟨dt0, dt1, dt2⟩ := gt.out.all
  obtain ⟨dn0, dn1, dn2⟩ := gn.out.all
  obtain ⟨dp0, dp1, dp2⟩ := gp.out.all
  dsimp only at dx0 dx1 dx2 dr0 dr1 dr2 dt0 dt1 dt2 dn0 dn1 dn2 dp0 dp1 dp2
  go_wp2_with fail
  refine (cnr.out _).mono ?_
  rintro e w10 ⟨rfl, hb10⟩
  clear dx0 dx1 dx2 dr0 dr1 dr2 dt0 dt1 dt2 dn0 dn1 dn2 dp0 dp1 dp2
  replace gx := Lib.hid (isN_of hb10 gx.out)
  replace gr := Lib.hid (isN_of hb10 gr.out)
  replace gt := Lib.hid (isN_of hb10 gt.out)
  replace gn := Lib.hid (isN_of hb10 gn.out)
  replace gp := Lib.hid (isN_of hb10 gp.out)
  replace hb := Lib.hid (hb.out.trans (hb10.mono hs))
  clear hs hb10
  have hs := hb.out.size
  have pf := gp.out.f
  clear cx0 cx1 cx2 cy0 cy1 cy2 cr0 cr1 cr2 ct0 ct1 ct2 cn0 cn1 cn2
  obtain ⟨cp0, cp1, cp2⟩ := gp.out.all
  obtain ⟨cn0, cn1, cn2⟩ := gn.out.all
  obtain ⟨cx0, cx1, cx2⟩ := gx.out.all
  obtain ⟨cr0, cr1, cr2⟩ := gr.out.all
  obtain ⟨ct0, ct1, ct2⟩ := gt.out.all
  dsimp only at cp0 cp1 cp2 cn0 cn1 cn2 cx0 cx1 cx2 cr0 cr1 cr2 ct0 ct1 ct2
  have lux : w.heap.size ≠ w9.heap.size + 2 := by omega
  have lur : w6.heap.size ≠ w9.heap.size + 2 := by omega
  have lut : w9.heap.size ≠ w9.heap.size + 2 := by omega
  have lun : w9.heap.size + 1 ≠ w9.heap.size + 2 := by omega
  replace gx := Lib.hid (gx.out.set3_other (c := w9.heap.size + 2) (v0 := .bool RNn) (v1 := .int .u64 RNh) (v2 := .int .u64 RNl) (by omega))
  replace gr := Lib.hid (gr.out.set3_other (c := w9.heap.size + 2) (v0 := .bool RNn) (v1 := .int .u64 RNh) (v2 := .int .u64 RNl) (by omega))
  replace gt := Lib.hid (gt.out.set3_other (c := w9.heap.size + 2) (v0 := .bool RNn) (v1 := .int .u64 RNh) (v2 := .int .u64 RNl) (by omega))
  replace gn := Lib.hid (gn.out.set3_other (c := w9.heap.size + 2) (v0 := .bool RNn) (v1 := .int .u64 RNh) (v2 := .int .u64 RNl) (by omega))
  replace gp := Lib.hid (gp.out.set RNn RNh RNl)
  replace hb := Lib.hid (below_set3 hb.out (b := w9.heap.size + 2) (by omega) (.bool RNn) (.int .u64 RNh) (.int .u64 RNl))
  clear hs
  have hs := hb.out.size
  obtain ⟨dx0, dx1, dx2⟩ := gx.out.all
  obtain ⟨dr0, dr1, dr2⟩ := gr.out.all
  obtain ⟨dt0, dt1, dt2⟩ := gt.out.all
  obtain ⟨dn0, dn1, dn2⟩ := gn.out.all
  obtain ⟨dp0, dp1, dp2⟩ := gp.out.all
  dsimp only at dx0 dx1 dx2 dr0 dr1 dr2 dt0 dt1 dt2 dn0 dn1 dn2 dp0 dp1 dp2
  go_wp2_with fail
  refine (cc.out _).mono ?_
  rintro e w11 ⟨rfl, hb11⟩
  clear dx0 dx1 dx2 dr0 dr1 dr2 dt0 dt1 dt2 dn0 dn1 dn2 dp0 dp1 dp2
  replace gx := Lib.hid (isN_of hb11 gx.out)
  replace gr := Lib.hid (isN_of hb11 gr.out)
  replace gt := Lib.hid (isN_of hb11 gt.out)
  replace gn := Lib.hid (isN_of hb11 gn.out)
  replace gp := Lib.hid (isN_of hb11 gp.out)
  replace hb := Lib.hid (hb.out.trans (hb11.mono hs))
  clear hs hb11
  have hs := hb.out.size
  clear cp0 cp1 cp2 cn0 cn1 cn2 cx0 cx1 cx2 cr0 cr1 cr2 ct0 ct1 ct2
  obtain ⟨cx0, cx1, cx2⟩ := gx.out.all
  obtain ⟨cr0, cr1, cr2⟩ := gr.out.all
  dsimp only at cx0 cx1 cx2 cr0 cr1 cr2
  go_wp2_with fail
  refine (csr.out _).mono ?_
  rintro e w12 ⟨rfl, hb12⟩
  replace gx := Lib.hid (isN_of hb12 gx.out)
  replace gr := Lib.hid (isN_of hb12 gr.out)
  replace gt := Lib.hid (isN_of hb12 gt.out)
  replace gn := Lib.hid (isN_of hb12 gn.out)
  replace gp := Lib.hid (isN_of hb12 gp.out)
  replace hb := Lib.hid (hb.out.trans (hb12.mono hs))
  clear hs hb12
  have hs := hb.out.size
  clear cx0 cx1 cx2 cr0 cr1 cr2
  obtain ⟨cx0, cx1, cx2⟩ := gx.out.all
  obtain ⟨cr0, cr1, cr2⟩ := gr.out.all
  dsimp only at cx0 cx1 cx2 cr0 cr1 cr2
  go_wp2_with fail
  go_ret
  exact ⟨rfl, hb.out⟩

set_option maxRecDepth 10000 in
set_option maxHeartbeats 8000000 in
theorem wideParts_over_F_nil (x : WI) (ho : x.Ok) (hf : x.form = true) (y : WI) (hp : y.Ok) (hg : y.form = true) (f0 : (addF x y).2 = 3) (hz : nil2 y.h y.l = false) (hm : y.n = false) (hrn : (remF x y).1.n = false) (hs0 : signF (remF x y).1 = 0) (w : World) :
    Calls Tryd.prog 7 #[wv x, wv y] w fun e w' => e = .returned (.bool true) ∧ Below w.heap.size w w' := by
  have cf := form_c x ho
  rw [hf] at cf
  have cg := form_c y hp
  rw [hg] at cg
  have ca := add_c x y ho hp
  have cq := quo_c x y ho hp
  have cr := rem_c x y ho hp
  have cs := sign_c y hp
  have cw := awake_c
  obtain ⟨l1, l2, l3, l4, l5, -, kq, kr⟩ := parts_law x y ho hp hf hg hz
  have hsy := sign_ne hp hg hz
  have hsyb : (signF y == 0) = false := by simpa using hsy
  have cm := mul_c (quoF x y).1 y kq hp
  have cal := add_c (mulF (quoF x y).1 y).1 (remF x y).1 (mulF_ok _ _) kr
  rw [l4] at cal
  have csr := sign_c (remF x y).1 kr
  rw [hs0] at csr
  have cny := neg_c y hp
  have cnr := neg_c (remF x y).1 kr
  rw [hrn, hm] at l5
  rw [if_neg (by decide), if_neg (by decide)] at l5
  have cc := cmp_c (remF x y).1 y kr hp
  rw [l5] at cc
  have hyk := negF_ok y hp
  clear l4 l5 hs0 hz
  generalize negF (remF x y).1 = RN at *
  generalize negF y = YN at *
  generalize signF y = sy at *
  generalize mulF (quoF x y).1 y = M at *
  generalize quoF x y = Q at *
  generalize remF x y = R0 at *
  generalize addF x y = A at *
  clear ho hf hp hg kq kr hyk
  obtain ⟨⟨An, Ah, Al⟩, Ae⟩ := A
  obtain ⟨⟨Qn, Qh, Ql⟩, Qe⟩ := Q
  obtain ⟨⟨rn, rh, rl⟩, re⟩ := R0
  obtain ⟨⟨Mn, Mh, Ml⟩, Me⟩ := M
  obtain ⟨RNn, RNh, RNl⟩ := RN
  obtain ⟨YNn, YNh, YNl⟩ := YN
  obtain ⟨xn, xh, xl⟩ := x
  obtain ⟨yn, yh, yl⟩ := y
  unfold wv at *
  dsimp only at *
  subst f0
  subst l1 l2 l3 hm hrn
  replace cf := Lib.hid cf
  replace cg := Lib.hid cg
  replace ca := Lib.hid ca
  replace cq := Lib.hid cq
  replace cr := Lib.hid cr
  replace cs := Lib.hid cs
  replace cw := Lib.hid cw
  replace cm := Lib.hid cm
  replace cal := Lib.hid cal
  replace csr := Lib.hid csr
  replace cny := Lib.hid cny
  replace cnr := Lib.hid cnr
  replace cc := Lib.hid cc
  go_enter Tryd.func7, Tryd.ntmps7
  go_wp2_with fail
  refine (cw.out _).mono ?_
  rintro e w1 ⟨rfl, hb1⟩
  obtain ⟨gx, gy, hb⟩ := two_new (x := ⟨xn, xh, xl⟩) (y := ⟨false, yh, yl⟩) hb1
  have hs := hb.size
  clear hb1
  replace gx := Lib.hid gx
  replace gy := Lib.hid gy
  replace hb := Lib.hid hb
  obtain ⟨cx0, cx1, cx2⟩ := gx.out.all
  dsimp only at cx0 cx1 cx2
  go_wp2_with fail
  refine (cf.out _).mono ?_
  rintro e w2 ⟨rfl, hb2⟩
  replace gx := Lib.hid (isN_of hb2 gx.out)
  replace gy := Lib.hid (isN_of hb2 gy.out)
  replace hb := Lib.hid (hb.out.trans (hb2.mono hs))
  clear hs hb2
  have hs := hb.out.size
  clear cx0 cx1 cx2
  obtain ⟨cy0, cy1, cy2⟩ := gy.out.all
  dsimp only at cy0 cy1 cy2
  go_wp2_with fail
  refine (cg.out _).mono ?_
  rintro e w3 ⟨rfl, hb3⟩
  replace gx := Lib.hid (isN_of hb3 gx.out)
  replace gy := Lib.hid (isN_of hb3 gy.out)
  replace hb := Lib.hid (hb.out.trans (hb3.mono hs))
  clear hs hb3
  have hs := hb.out.size
  clear cy0 cy1 cy2
  obtain ⟨cx0, cx1, cx2⟩ := gx.out.all
  obtain ⟨cy0, cy1, cy2⟩ := gy.out.all
  dsimp only at cx0 cx1 cx2 cy0 cy1 cy2
  go_wp2_with fail
  refine (ca.out _).mono ?_
  rintro e w4 ⟨rfl, hb4⟩
  replace gx := Lib.hid (isN_of hb4 gx.out)
  replace gy := Lib.hid (isN_of hb4 gy.out)
  replace hb := Lib.hid (hb.out.trans (hb4.mono hs))
  clear hs hb4
  have hs := hb.out.size
  replace gx := Lib.hid (gx.out.alloc (oN ⟨An, Ah, Al⟩))
  replace gy := Lib.hid (gy.out.alloc (oN ⟨An, Ah, Al⟩))
  have ga := Lib.hid (IsN.new w4 ⟨An, Ah, Al⟩)
  replace hb := Lib.hid (hb.out.alloc hs (oN ⟨An, Ah, Al⟩))
  clear hs
  have hs := hb.out.size
  clear cx0 cx1 cx2 cy0 cy1 cy2
  obtain ⟨ca0, ca1, ca2⟩ := ga.out.all
  obtain ⟨cy0, cy1, cy2⟩ := gy.out.all
  obtain ⟨cx0, cx1, cx2⟩ := gx.out.all
  dsimp only at ca0 ca1 ca2 cy0 cy1 cy2 cx0 cx1 cx2
  go_wp2_with fail
  refine (cq.out _).mono ?_
  rintro e w5 ⟨rfl, hb5⟩
  replace gx := Lib.hid (isN_of hb5 gx.out)
  replace gy := Lib.hid (isN_of hb5 gy.out)
  replace ga := Lib.hid (isN_of hb5 ga.out)
  replace hb := Lib.hid (hb.out.trans (hb5.mono hs))
  clear hs hb5
  have hs := hb.out.size
  replace gx := Lib.hid (gx.out.alloc (oN ⟨Qn, Qh, Ql⟩))
  replace gy := Lib.hid (gy.out.alloc (oN ⟨Qn, Qh, Ql⟩))
  replace ga := Lib.hid (ga.out.alloc (oN ⟨Qn, Qh, Ql⟩))
  have gq := Lib.hid (IsN.new w5 ⟨Qn, Qh, Ql⟩)
  replace hb := Lib.hid (hb.out.alloc hs (oN ⟨Qn, Qh, Ql⟩))
  clear hs
  have hs := hb.out.size
  clear ca0 ca1 ca2 cy0 cy1 cy2 cx0 cx1 cx2
  obtain ⟨cx0, cx1, cx2⟩ := gx.out.all
  obtain ⟨cy0, cy1, cy2⟩ := gy.out.all
  dsimp only at cx0 cx1 cx2 cy0 cy1 cy2
  go_wp2_with fail
  refine (cr.out _).mono ?_
  rintro e w6 ⟨rfl, hb6⟩
  replace gx := Lib.hid (isN_of hb6 gx.out)
  replace gy := Lib.hid (isN_of hb6 gy.out)
  replace ga := Lib.hid (isN_of hb6 ga.out)
  replace gq := Lib.hid (isN_of hb6 gq.out)
  replace hb := Lib.hid (hb.out.trans (hb6.mono hs))
  clear hs hb6
  have hs := hb.out.size
  replace gx := Lib.hid (gx.out.alloc (oN ⟨false, rh, rl⟩))
  replace gy := Lib.hid (gy.out.alloc (oN ⟨false, rh, rl⟩))
  replace ga := Lib.hid (ga.out.alloc (oN ⟨false, rh, rl⟩))
  replace gq := Lib.hid (gq.out.alloc (oN ⟨false, rh, rl⟩))
  have gr := Lib.hid (IsN.new w6 ⟨false, rh, rl⟩)
  replace hb := Lib.hid (hb.out.alloc hs (oN ⟨false, rh, rl⟩))
  clear hs
  have hs := hb.out.size
  clear cx0 cx1 cx2 cy0 cy1 cy2
  obtain ⟨cy0, cy1, cy2⟩ := gy.out.all
  dsimp only at cy0 cy1 cy2
  go_wp2_with fail
  refine (cs.out _).mono ?_
  rintro e w7 ⟨rfl, hb7⟩
  replace gx := Lib.hid (isN_of hb7 gx.out)
  replace gy := Lib.hid (isN_of hb7 gy.out)
  replace ga := Lib.hid (isN_of hb7 ga.out)
  replace gq := Lib.hid (isN_of hb7 gq.out)
  replace gr := Lib.hid (isN_of hb7 gr.out)
  replace hb := Lib.hid (hb.out.trans (hb7.mono hs))
  clear hs hb7
  have hs := hb.out.size
  clear cy0 cy1 cy2
  obtain ⟨cq0, cq1, cq2⟩ := gq.out.all
  obtain ⟨cy0, cy1, cy2⟩ := gy.out.all
  dsimp only at cq0 cq1 cq2 cy0 cy1 cy2
  go_wp2_with fail
  refine (cm.out _).mono ?_
  rintro e w8 ⟨rfl, hb8⟩
  replace gx := Lib.hid (isN_of hb8 gx.out)
  replace gy := Lib.hid (isN_of hb8 gy.out)
  replace ga := Lib.hid (isN_of hb8 ga.out)
  replace gq := Lib.hid (isN_of hb8 gq.out)
  replace gr := Lib.hid (isN_of hb8 gr.out)
  replace hb := Lib.hid (hb.out.trans (hb8.mono hs))
  clear hs hb8
  have hs := hb.out.size
  replace gx := Lib.hid (gx.out.alloc (oN ⟨Mn, Mh, Ml⟩))
  replace gy := Lib.hid (gy.out.alloc (oN ⟨Mn, Mh, Ml⟩))
  replace ga := Lib.hid (ga.out.alloc (oN ⟨Mn, Mh, Ml⟩))
  replace gq := Lib.hid (gq.out.alloc (oN ⟨Mn, Mh, Ml⟩))
  replace gr := Lib.hid (gr.out.alloc (oN ⟨Mn, Mh, Ml⟩))
  have gm := Lib.hid (IsN.new w8 ⟨Mn, Mh, Ml⟩)
  replace hb := Lib.hid (hb.out.alloc hs (oN ⟨Mn, Mh, Ml⟩))
  clear hs
  have hs := hb.out.size
  clear cq0 cq1 cq2 cy0 cy1 cy2
  obtain ⟨cm0, cm1, cm2⟩ := gm.out.all
  obtain ⟨cr0, cr1, cr2⟩ := gr.out.all
  dsimp only at cm0 cm1 cm2 cr0 cr1 cr2
  skip
  go_wp2_with fail
  refine (cal.out _).mono ?_
  rintro e w9 ⟨rfl, hb9⟩
  replace gx := Lib.hid (isN_of hb9 gx.out)
  replace gy := Lib.hid (isN_of hb9 gy.out)
  replace gr := Lib.hid (isN_of hb9 gr.out)
  replace hb := Lib.hid (hb.out.trans (hb9.mono hs))
  clear hs hb9
  have hs := hb.out.size
  replace gx := Lib.hid (gx.out.alloc (oN ⟨xn, xh, xl⟩))
  replace gy := Lib.hid (gy.out.alloc (oN ⟨xn, xh, xl⟩))
  replace gr := Lib.hid (gr.out.alloc (oN ⟨xn, xh, xl⟩))
  have gt := Lib.hid (IsN.new w9 ⟨xn, xh, xl⟩)
  replace hb := Lib.hid (hb.out.alloc hs (oN ⟨xn, xh, xl⟩))
  clear hs
  have hs := hb.out.size
  clear cm0 cm1 cm2 cr0 cr1 cr2
  obtain ⟨by0, by1, by2⟩ := gy.out.all
  obtain ⟨br0, br1, br2⟩ := gr.out.all
  dsimp only at by0 by1 by2 br0 br1 br2
  have gn := Lib.hid (show IsN ((w9.alloc (oN ⟨xn, xh, xl⟩)).alloc (oN ⟨false, yh, yl⟩)) (w9.heap.size + 1) ⟨false, yh, yl⟩ from by have h := IsN.new (w9.alloc (oN ⟨xn, xh, xl⟩)) ⟨false, yh, yl⟩; rwa [size_alloc] at h)
  have ltx := gx.out.lt
  rw [size_alloc] at ltx
  have lty := gy.out.lt
  rw [size_alloc] at lty
  have ltr := gr.out.lt
  rw [size_alloc] at ltr
  have ltt := gt.out.lt
  rw [size_alloc] at ltt
  replace gx := Lib.hid (gx.out.alloc (oN ⟨false, yh, yl⟩))
  replace gy := Lib.hid (gy.out.alloc (oN ⟨false, yh, yl⟩))
  replace gr := Lib.hid (gr.out.alloc (oN ⟨false, yh, yl⟩))
  replace gt := Lib.hid (gt.out.alloc (oN ⟨false, yh, yl⟩))
  replace hb := Lib.hid (hb.out.alloc hs (oN ⟨false, yh, yl⟩))
  clear hs
  have hs := hb.out.size
  have hba : w.heap.size ≤ w9.heap.size + 1 := by have := gx.out.lt; rw [size_alloc, size_alloc] at this; omega
  obtain ⟨cx0, cx1, cx2⟩ := gx.out.all
  obtain ⟨cy0, cy1, cy2⟩ := gy.out.all
  obtain ⟨cr0, cr1, cr2⟩ := gr.out.all
  obtain ⟨ct0, ct1, ct2⟩ := gt.out.all
  obtain ⟨cn0, cn1, cn2⟩ := gn.out.all
  dsimp only at cx0 cx1 cx2 cy0 cy1 cy2 cr0 cr1 cr2 ct0 ct1 ct2 cn0 cn1 cn2
  have ltn := gn.out.lt
  rw [size_alloc, size_alloc] at ltn
  have gp := Lib.hid (show IsN (World.alloc ((w9.alloc (oN ⟨xn, xh, xl⟩)).alloc (oN ⟨false, yh, yl⟩)) (oN ⟨false, rh, rl⟩)) (w9.heap.size + 2) ⟨false, rh, rl⟩ from by have h := IsN.new ((w9.alloc (oN ⟨xn, xh, xl⟩)).alloc (oN ⟨false, yh, yl⟩)) ⟨false, rh, rl⟩; rwa [size_alloc, size_alloc] at h)
  replace gx := Lib.hid (gx.out.alloc (oN ⟨false, rh, rl⟩))
  replace gr := Lib.hid (gr.out.alloc (oN ⟨false, rh, rl⟩))
  replace gt := Lib.hid (gt.out.alloc (oN ⟨false, rh, rl⟩))
  replace gn := Lib.hid (gn.out.alloc (oN ⟨false, rh, rl⟩))
  replace hb := Lib.hid (hb.out.alloc hs (oN ⟨false, rh, rl⟩))
  clear hs
  have hs := hb.out.size
  have hbp : w.heap.size ≤ w9.heap.size + 2 := by omega
  obtain ⟨dx0, dx1, dx2⟩ := gx.out.all
  obtain ⟨dr0, dr1, dr2⟩ := gr.out.all
  obtain ⟨dt0, dt1, dt2⟩ := gt.out.all
  obtain ⟨dn0, dn1, dn2⟩ := gn.out.all
  obtain ⟨dp0, dp1, dp2⟩ := gp.out.all
  dsimp only at dx0 dx1 dx2 dr0 dr1 dr2 dt0 dt1 dt2 dn0 dn1 dn2 dp0 dp1 dp2
  go_wp2_with fail
  refine (cc.out _).mono ?_
  rintro e w10 ⟨rfl, hb10⟩
  clear dx0 dx1 dx2 dr0 dr1 dr2 dt0 dt1 dt2 dn0 dn1 dn2 dp0 dp1 dp2
  replace gx := Lib.hid (isN_of hb10 gx.out)
  replace gr := Lib.hid (isN_of hb10 gr.out)
  replace gt := Lib.hid (isN_of hb10 gt.out)
  replace gn := Lib.hid (isN_of hb10 gn.out)
  replace gp := Lib.hid (isN_of hb10 gp.out)
  replace hb := Lib.hid (hb.out.trans (hb10.mono hs))
  clear hs hb10
  have hs := hb.out.size
  clear cx0 cx1 cx2 cy0 cy1 cy2 cr0 cr1 cr2 ct0 ct1 ct2 cn0 cn1 cn2
  obtain ⟨cx0, cx1, cx2⟩ := gx.out.all
  obtain ⟨cr0, cr1, cr2⟩ := gr.out.all
  dsimp only at cx0 cx1 cx2 cr0 cr1 cr2
  go_wp2_with fail
  refine (csr.out _).mono ?_
  rintro e w11 ⟨rfl, hb11⟩
  replace gx := Lib.hid (isN_of hb11 gx.out)
  replace gr := Lib.hid (isN_of hb11 gr.out)
  replace gt := Lib.hid (isN_of hb11 gt.out)
  replace gn := Lib.hid (isN_of hb11 gn.out)
  replace gp := Lib.hid (isN_of hb11 gp.out)
  replace hb := Lib.hid (hb.out.trans (hb11.mono hs))
  clear hs hb11
  have hs := hb.out.size
  clear cx0 cx1 cx2 cr0 cr1 cr2
  obtain ⟨cx0, cx1, cx2⟩ := gx.out.all
  obtain ⟨cr0, cr1, cr2⟩ := gr.out.all
  dsimp only at cx0 cx1 cx2 cr0 cr1 cr2
  go_wp2_with fail
  go_ret
  exact ⟨rfl, hb.out⟩

set_option maxRecDepth 10000 in
set_option maxHeartbeats 8000000 in
theorem wideParts_over_F_pos (x : WI) (ho : x.Ok) (hf : x.form = true) (y : WI) (hp : y.Ok) (hg : y.form = true) (f0 : (addF x y).2 = 3) (hz : nil2 y.h y.l = false) (hm : y.n = false) (hrn : (remF x y).1.n = false) (hs0 : signF (remF x y).1 = 1) (hxn : x.n = false) (w : World) :
    Calls Tryd.prog 7 #[wv x, wv y] w fun e w' => e = .returned (.bool true) ∧ Below w.heap.size w w' := by
  have cf := form_c x ho
  rw [hf] at cf
  have cg := form_c y hp
  rw [hg] at cg
  have ca := add_c x y ho hp
  have cq := quo_c x y ho hp
  have cr := rem_c x y ho hp
  have cs := sign_c y hp
  have cw := awake_c
  obtain ⟨l1, l2, l3, l4, l5, -, kq, kr⟩ := parts_law x y ho hp hf hg hz
  have hsy := sign_ne hp hg hz
  have hsyb : (signF y == 0) = false := by simpa using hsy
  have cm := mul_c (quoF x y).1 y kq hp
  have cal := add_c (mulF (quoF x y).1 y).1 (remF x y).1 (mulF_ok _ _) kr
  rw [l4] at cal
  have csr := sign_c (remF x y).1 kr
  rw [hs0] at csr
  have cny := neg_c y hp
  have cnr := neg_c (remF x y).1 kr
  rw [hrn, hm] at l5
  rw [if_neg (by decide), if_neg (by decide)] at l5
  have cc := cmp_c (remF x y).1 y kr hp
  rw [l5] at cc
  have hyk := negF_ok y hp
  clear l4 l5 hs0 hz
  generalize negF (remF x y).1 = RN at *
  generalize negF y = YN at *
  generalize signF y = sy at *
  generalize mulF (quoF x y).1 y = M at *
  generalize quoF x y = Q at *
  generalize remF x y = R0 at *
  generalize addF x y = A at *
  clear ho hf hp hg kq kr hyk
  obtain ⟨⟨An, Ah, Al⟩, Ae⟩ := A
  obtain ⟨⟨Qn, Qh, Ql⟩, Qe⟩ := Q
  obtain ⟨⟨rn, rh, rl⟩, re⟩ := R0
  obtain ⟨⟨Mn, Mh, Ml⟩, Me⟩ := M
  obtain ⟨RNn, RNh, RNl⟩ := RN
  obtain ⟨YNn, YNh, YNl⟩ := YN
  obtain ⟨xn, xh, xl⟩ := x
  obtain ⟨yn, yh, yl⟩ := y
  unfold wv at *
  dsimp only at *
  subst f0
  subst l1 l2 l3 hm hrn hxn
  replace cf := Lib.hid cf
  replace cg := Lib.hid cg
  replace ca := Lib.hid ca
  replace cq := Lib.hid cq
  replace cr := Lib.hid cr
  replace cs := Lib.hid cs
  replace cw := Lib.hid cw
  replace cm := Lib.hid cm
  replace cal := Lib.hid cal
  replace csr := Lib.hid csr
  replace cny := Lib.hid cny
  replace cnr := Lib.hid cnr
  replace cc := Lib.hid cc
  go_enter Tryd.func7, Tryd.ntmps7
  go_wp2_with fail
  refine (cw.out _).mono ?_
  rintro e w1 ⟨rfl, hb1⟩
  obtain ⟨gx, gy, hb⟩ := two_new (x := ⟨false, xh, xl⟩) (y := ⟨false, yh, yl⟩) hb1
  have hs := hb.size
  clear hb1
  replace gx := Lib.hid gx
  replace gy := Lib.hid gy
  replace hb := Lib.hid hb
  obtain ⟨cx0, cx1, cx2⟩ := gx.out.all
  dsimp only at cx0 cx1 cx2
  go_wp2_with fail
  refine (cf.out _).mono ?_
  rintro e w2 ⟨rfl, hb2⟩
  replace gx := Lib.hid (isN_of hb2 gx.out)
  replace gy := Lib.hid (isN_of hb2 gy.out)
  replace hb := Lib.hid (hb.out.trans (hb2.mono hs))
  clear hs hb2
  have hs := hb.out.size
  clear cx0 cx1 cx2
  obtain ⟨cy0, cy1, cy2⟩ := gy.out.all
  dsimp only at cy0 cy1 cy2
  go_wp2_with fail
  refine (cg.out _).mono ?_
  rintro e w3 ⟨rfl, hb3⟩
  replace gx := Lib.hid (isN_of hb3 gx.out)
  replace gy := Lib.hid (isN_of hb3 gy.out)
  replace hb := Lib.hid (hb.out.trans (hb3.mono hs))
  clear hs hb3
  have hs := hb.out.size
  clear cy0 cy1 cy2
  obtain ⟨cx0, cx1, cx2⟩ := gx.out.all
  obtain ⟨cy0, cy1, cy2⟩ := gy.out.all
  dsimp only at cx0 cx1 cx2 cy0 cy1 cy2
  go_wp2_with fail
  refine (ca.out _).mono ?_
  rintro e w4 ⟨rfl, hb4⟩
  replace gx := Lib.hid (isN_of hb4 gx.out)
  replace gy := Lib.hid (isN_of hb4 gy.out)
  replace hb := Lib.hid (hb.out.trans (hb4.mono hs))
  clear hs hb4
  have hs := hb.out.size
  replace gx := Lib.hid (gx.out.alloc (oN ⟨An, Ah, Al⟩))
  replace gy := Lib.hid (gy.out.alloc (oN ⟨An, Ah, Al⟩))
  have ga := Lib.hid (IsN.new w4 ⟨An, Ah, Al⟩)
  replace hb := Lib.hid (hb.out.alloc hs (oN ⟨An, Ah, Al⟩))
  clear hs
  have hs := hb.out.size
  clear cx0 cx1 cx2 cy0 cy1 cy2
  obtain ⟨ca0, ca1, ca2⟩ := ga.out.all
  obtain ⟨cy0, cy1, cy2⟩ := gy.out.all
  obtain ⟨cx0, cx1, cx2⟩ := gx.out.all
  dsimp only at ca0 ca1 ca2 cy0 cy1 cy2 cx0 cx1 cx2
  go_wp2_with fail
  refine (cq.out _).mono ?_
  rintro e w5 ⟨rfl, hb5⟩
  replace gx := Lib.hid (isN_of hb5 gx.out)
  replace gy := Lib.hid (isN_of hb5 gy.out)
  replace ga := Lib.hid (isN_of hb5 ga.out)
  replace hb := Lib.hid (hb.out.trans (hb5.mono hs))
  clear hs hb5
  have hs := hb.out.size
  replace gx := Lib.hid (gx.out.alloc (oN ⟨Qn, Qh, Ql⟩))
  replace gy := Lib.hid (gy.out.alloc (oN ⟨Qn, Qh, Ql⟩))
  replace ga := Lib.hid (ga.out.alloc (oN ⟨Qn, Qh, Ql⟩))
  have gq := Lib.hid (IsN.new w5 ⟨Qn, Qh, Ql⟩)
  replace hb := Lib.hid (hb.out.alloc hs (oN ⟨Qn, Qh, Ql⟩))
  clear hs
  have hs := hb.out.size
  clear ca0 ca1 ca2 cy0 cy1 cy2 cx0 cx1 cx2
  obtain ⟨cx0, cx1, cx2⟩ := gx.out.all
  obtain ⟨cy0, cy1, cy2⟩ := gy.out.all
  dsimp only at cx0 cx1 cx2 cy0 cy1 cy2
  go_wp2_with fail
  refine (cr.out _).mono ?_
  rintro e w6 ⟨rfl, hb6⟩
  replace gx := Lib.hid (isN_of hb6 gx.out)
  replace gy := Lib.hid (isN_of hb6 gy.out)
  replace ga := Lib.hid (isN_of hb6 ga.out)
  replace gq := Lib.hid (isN_of hb6 gq.out)
  replace hb := Lib.hid (hb.out.trans (hb6.mono hs))
  clear hs hb6
  have hs := hb.out.size
  replace gx := Lib.hid (gx.out.alloc (oN ⟨false, rh, rl⟩))
  replace gy := Lib.hid (gy.out.alloc (oN ⟨false, rh, rl⟩))
  replace ga := Lib.hid (ga.out.alloc (oN ⟨false, rh, rl⟩))
  replace gq := Lib.hid (gq.out.alloc (oN ⟨false, rh, rl⟩))
  have gr := Lib.hid (IsN.new w6 ⟨false, rh, rl⟩)
  replace hb := Lib.hid (hb.out.alloc hs (oN ⟨false, rh, rl⟩))
  clear hs
  have hs := hb.out.size
  clear cx0 cx1 cx2 cy0 cy1 cy2
  obtain ⟨cy0, cy1, cy2⟩ := gy.out.all
  dsimp only at cy0 cy1 cy2
  go_wp2_with fail
  refine (cs.out _).mono ?_
  rintro e w7 ⟨rfl, hb7⟩
  replace gx := Lib.hid (isN_of hb7 gx.out)
  replace gy := Lib.hid (isN_of hb7 gy.out)
  replace ga := Lib.hid (isN_of hb7 ga.out)
  replace gq := Lib.hid (isN_of hb7 gq.out)
  replace gr := Lib.hid (isN_of hb7 gr.out)
  replace hb := Lib.hid (hb.out.trans (hb7.mono hs))
  clear hs hb7
  have hs := hb.out.size
  clear cy0 cy1 cy2
  obtain ⟨cq0, cq1, cq2⟩ := gq.out.all
  obtain ⟨cy0, cy1, cy2⟩ := gy.out.all
  dsimp only at cq0 cq1 cq2 cy0 cy1 cy2
  go_wp2_with fail
  refine (cm.out _).mono ?_
  rintro e w8 ⟨rfl, hb8⟩
  replace gx := Lib.hid (isN_of hb8 gx.out)
  replace gy := Lib.hid (isN_of hb8 gy.out)
  replace ga := Lib.hid (isN_of hb8 ga.out)
  replace gq := Lib.hid (isN_of hb8 gq.out)
  replace gr := Lib.hid (isN_of hb8 gr.out)
  replace hb := Lib.hid (hb.out.trans (hb8.mono hs))
  clear hs hb8
  have hs := hb.out.size
  replace gx := Lib.hid (gx.out.alloc (oN ⟨Mn, Mh, Ml⟩))
  replace gy := Lib.hid (gy.out.alloc (oN ⟨Mn, Mh, Ml⟩))
  replace ga := Lib.hid (ga.out.alloc (oN ⟨Mn, Mh, Ml⟩))
  replace gq := Lib.hid (gq.out.alloc (oN ⟨Mn, Mh, Ml⟩))
  replace gr := Lib.hid (gr.out.alloc (oN ⟨Mn, Mh, Ml⟩))
  have gm := Lib.hid (IsN.new w8 ⟨Mn, Mh, Ml⟩)
  replace hb := Lib.hid (hb.out.alloc hs (oN ⟨Mn, Mh, Ml⟩))
  clear hs
  have hs := hb.out.size
  clear cq0 cq1 cq2 cy0 cy1 cy2
  obtain ⟨cm0, cm1, cm2⟩ := gm.out.all
  obtain ⟨cr0, cr1, cr2⟩ := gr.out.all
  dsimp only at cm0 cm1 cm2 cr0 cr1 cr2
  skip
  go_wp2_with fail
  refine (cal.out _).mono ?_
  rintro e w9 ⟨rfl, hb9⟩
  replace gx := Lib.hid (isN_of hb9 gx.out)
  replace gy := Lib.hid (isN_of hb9 gy.out)
  replace gr := Lib.hid (isN_of hb9 gr.out)
  replace hb := Lib.hid (hb.out.trans (hb9.mono hs))
  clear hs hb9
  have hs := hb.out.size
  replace gx := Lib.hid (gx.out.alloc (oN ⟨false, xh, xl⟩))
  replace gy := Lib.hid (gy.out.alloc (oN ⟨false, xh, xl⟩))
  replace gr := Lib.hid (gr.out.alloc (oN ⟨false, xh, xl⟩))
  have gt := Lib.hid (IsN.new w9 ⟨false, xh, xl⟩)
  replace hb := Lib.hid (hb.out.alloc hs (oN ⟨false, xh, xl⟩))
  clear hs
  have hs := hb.out.size
  clear cm0 cm1 cm2 cr0 cr1 cr2
  obtain ⟨by0, by1, by2⟩ := gy.out.all
  obtain ⟨br0, br1, br2⟩ := gr.out.all
  dsimp only at by0 by1 by2 br0 br1 br2
  have gn := Lib.hid (show IsN ((w9.alloc (oN ⟨false, xh, xl⟩)).alloc (oN ⟨false, yh, yl⟩)) (w9.heap.size + 1) ⟨false, yh, yl⟩ from by have h := IsN.new (w9.alloc (oN ⟨false, xh, xl⟩)) ⟨false, yh, yl⟩; rwa [size_alloc] at h)
  have ltx := gx.out.lt
  rw [size_alloc] at ltx
  have lty := gy.out.lt
  rw [size_alloc] at lty
  have ltr := gr.out.lt
  rw [size_alloc] at ltr
  have ltt := gt.out.lt
  rw [size_alloc] at ltt
  replace gx := Lib.hid (gx.out.alloc (oN ⟨false, yh, yl⟩))
  replace gy := Lib.hid (gy.out.alloc (oN ⟨false, yh, yl⟩))
  replace gr := Lib.hid (gr.out.alloc (oN ⟨false, yh, yl⟩))
  replace gt := Lib.hid (gt.out.alloc (oN ⟨false, yh, yl⟩))
  replace hb := Lib.hid (hb.out.alloc hs (oN ⟨false, yh, yl⟩))
  clear hs
  have hs := hb.out.size
  have hba : w.heap.size ≤ w9.heap.size + 1 := by have := gx.out.lt; rw [size_alloc, size_alloc] at this; omega
  obtain ⟨cx0, cx1, cx2⟩ := gx.out.all
  obtain ⟨cy0, cy1, cy2⟩ := gy.out.all
  obtain ⟨cr0, cr1, cr2⟩ := gr.out.all
  obtain ⟨ct0, ct1, ct2⟩ := gt.out.all
  obtain ⟨cn0, cn1, cn2⟩ := gn.out.all
  dsimp only at cx0 cx1 cx2 cy0 cy1 cy2 cr0 cr1 cr2 ct0 ct1 ct2 cn0 cn1 cn2
  have ltn := gn.out.lt
  rw [size_alloc, size_alloc] at ltn
  have gp := Lib.hid (show IsN (World.alloc ((w9.alloc (oN ⟨false, xh, xl⟩)).alloc (oN ⟨false, yh, yl⟩)) (oN ⟨false, rh, rl⟩)) (w9.heap.size + 2) ⟨false, rh, rl⟩ from by have h := IsN.new ((w9.alloc (oN ⟨false, xh, xl⟩)).alloc (oN ⟨false, yh, yl⟩)) ⟨false, rh, rl⟩; rwa [size_alloc, size_alloc] at h)
  replace gx := Lib.hid (gx.out.alloc (oN ⟨false, rh, rl⟩))
  replace gr := Lib.hid (gr.out.alloc (oN ⟨false, rh, rl⟩))
  replace gt := Lib.hid (gt.out.alloc (oN ⟨false, rh, rl⟩))
  replace gn := Lib.hid (gn.out.alloc (oN ⟨false, rh, rl⟩))
  replace hb := Lib.hid (hb.out.alloc hs (oN ⟨false, rh, rl⟩))
  clear hs
  have hs := hb.out.size
  have hbp : w.heap.size ≤ w9.heap.size + 2 := by omega
  obtain ⟨dx0, dx1, dx2⟩ := gx.out.all
  obtain ⟨dr0, dr1, dr2⟩ := gr.out.all
  obtain ⟨dt0, dt1, dt2⟩ := gt.out.all
  obtain ⟨dn0, dn1, dn2⟩ := gn.out.all
  obtain ⟨dp0, dp1, dp2⟩ := gp.out.all
  dsimp only at dx0 dx1 dx2 dr0 dr1 dr2 dt0 dt1 dt2 dn0 dn1 dn2 dp0 dp1 dp2
  go_wp2_with fail
  refine (cc.out _).mono ?_
  rintro e w10 ⟨rfl, hb10⟩
  clear dx0 dx1 dx2 dr0 dr1 dr2 dt0 dt1 dt2 dn0 dn1 dn2 dp0 dp1 dp2
  replace gx := Lib.hid (isN_of hb10 gx.out)
  replace gr := Lib.hid (isN_of hb10 gr.out)
  replace gt := Lib.hid (isN_of hb10 gt.out)
  replace gn := Lib.hid (isN_of hb10 gn.out)
  replace gp := Lib.hid (isN_of hb10 gp.out)
  replace hb := Lib.hid (hb.out.trans (hb10.mono hs))
  clear hs hb10
  have hs := hb.out.size
  clear cx0 cx1 cx2 cy0 cy1 cy2 cr0 cr1 cr2 ct0 ct1 ct2 cn0 cn1 cn2
  obtain ⟨cx0, cx1, cx2⟩ := gx.out.all
  obtain ⟨cr0, cr1, cr2⟩ := gr.out.all
  dsimp only at cx0 cx1 cx2 cr0 cr1 cr2
  go_wp2_with fail
  refine (csr.out _).mono ?_
  rintro e w11 ⟨rfl, hb11⟩
  replace gx := Lib.hid (isN_of hb11 gx.out)
  replace gr := Lib.hid (isN_of hb11 gr.out)
  replace gt := Lib.hid (isN_of hb11 gt.out)
  replace gn := Lib.hid (isN_of hb11 gn.out)
  replace gp := Lib.hid (isN_of hb11 gp.out)
  replace hb := Lib.hid (hb.out.trans (hb11.mono hs))
  clear hs hb11
  have hs := hb.out.size
  clear cx0 cx1 cx2 cr0 cr1 cr2
  obtain ⟨cx0, cx1, cx2⟩ := gx.out.all
  obtain ⟨cr0, cr1, cr2⟩ := gr.out.all
  dsimp only at cx0 cx1 cx2 cr0 cr1 cr2
  go_wp2_with fail
  go_ret
  exact ⟨rfl, hb.out⟩
end Go.Proofs.YtbfigpollacngaaDoor
