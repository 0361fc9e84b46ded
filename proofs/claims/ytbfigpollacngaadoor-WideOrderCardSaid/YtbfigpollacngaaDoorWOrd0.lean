/- the walk over WideOrder: a number out of form -/
import Derived.Test.YtbfigpollacngaaDoorWvL
import Derived.Deep.RegionHeld3
import Derived.Deep.DrawnRows
import Derived.BigQuiet
namespace Go.Proofs.YtbfigpollacngaaDoor
open Go.RowKit
open Rf
open Wide
attribute [local go_sem ↓] Go.wp_at_zero Go.wp_at_succ

set_option maxRecDepth 10000 in
set_option maxHeartbeats 4000000 in
theorem wideOrder_bad (x : WI) (ho : x.Ok) (y : WI) (hp : y.Ok) (z : WI) (hq : z.Ok) (hb0 : ¬ (x.form = true ∧ y.form = true ∧ z.form = true)) (w : World) :
    Calls Tryd.prog 4 #[wv x, wv y, wv z] w fun e w' => e = .returned (.bool true) ∧ Below w.heap.size w w' := by
  have cf := form_c x ho
  have cg := form_c y hp
  have ch := form_c z hq
  have cc := cmp_c x y ho hp
  have c0 : ¬ (x.form = true ∧ y.form = true) → cmpF x y = 0 := cmpF_bad
  have cw := awake_c
  clear ho hp hq
  generalize cmpF x y = c at *
  generalize x.form = f at *
  generalize y.form = g at *
  generalize z.form = h at *
  obtain ⟨xn, xh, xl⟩ := x
  obtain ⟨yn, yh, yl⟩ := y
  obtain ⟨zn, zh, zl⟩ := z
  unfold wv at *
  dsimp only at *
  replace cf := Lib.hid cf
  replace cg := Lib.hid cg
  replace ch := Lib.hid ch
  replace cc := Lib.hid cc
  replace cw := Lib.hid cw
  cases f with
  | false =>
    obtain rfl : c = 0 := c0 (fun h => by cases h.1)
    clear hb0 c0
    go_enter Tryd.func4, Tryd.ntmps4
    go_wp2_with fail
    refine (cw.out _).mono ?_
    rintro e w1 ⟨rfl, hb1⟩
    obtain ⟨gx, gy, gz, hb⟩ := three_new (x := ⟨xn, xh, xl⟩) (y := ⟨yn, yh, yl⟩) (z := ⟨zn, zh, zl⟩) hb1
    have hs := hb.size
    clear hb1
    replace gx := Lib.hid gx
    replace gy := Lib.hid gy
    replace gz := Lib.hid gz
    replace hb := Lib.hid hb
    obtain ⟨cx0, cx1, cx2⟩ := gx.out.all
    dsimp only at cx0 cx1 cx2
    go_wp2_with fail
    refine (cf.out _).mono ?_
    rintro e w2 ⟨rfl, hb2⟩
    replace gx := Lib.hid (isN_of hb2 gx.out)
    replace gy := Lib.hid (isN_of hb2 gy.out)
    replace gz := Lib.hid (isN_of hb2 gz.out)
    replace hb := Lib.hid (hb.out.trans (hb2.mono hs))
    clear hs hb2
    have hs := hb.out.size
    clear cx0 cx1 cx2
    obtain ⟨cx0, cx1, cx2⟩ := gx.out.all
    obtain ⟨cy0, cy1, cy2⟩ := gy.out.all
    dsimp only at cx0 cx1 cx2 cy0 cy1 cy2
    go_wp2_with fail
    refine (cc.out _).mono ?_
    rintro e w3 ⟨rfl, hb3⟩
    replace gx := Lib.hid (isN_of hb3 gx.out)
    replace gy := Lib.hid (isN_of hb3 gy.out)
    replace gz := Lib.hid (isN_of hb3 gz.out)
    replace hb := Lib.hid (hb.out.trans (hb3.mono hs))
    clear hs hb3
    have hs := hb.out.size
    clear cx0 cx1 cx2 cy0 cy1 cy2
    go_wp2_with fail
    go_ret
    exact ⟨rfl, hb.out⟩
  | true =>
    cases g with
    | false =>
      obtain rfl : c = 0 := c0 (fun h => by cases h.2)
      clear hb0 c0
      go_enter Tryd.func4, Tryd.ntmps4
      go_wp2_with fail
      refine (cw.out _).mono ?_
      rintro e w1 ⟨rfl, hb1⟩
      obtain ⟨gx, gy, gz, hb⟩ := three_new (x := ⟨xn, xh, xl⟩) (y := ⟨yn, yh, yl⟩) (z := ⟨zn, zh, zl⟩) hb1
      have hs := hb.size
      clear hb1
      replace gx := Lib.hid gx
      replace gy := Lib.hid gy
      replace gz := Lib.hid gz
      replace hb := Lib.hid hb
      obtain ⟨cx0, cx1, cx2⟩ := gx.out.all
      dsimp only at cx0 cx1 cx2
      go_wp2_with fail
      refine (cf.out _).mono ?_
      rintro e w2 ⟨rfl, hb2⟩
      replace gx := Lib.hid (isN_of hb2 gx.out)
      replace gy := Lib.hid (isN_of hb2 gy.out)
      replace gz := Lib.hid (isN_of hb2 gz.out)
      replace hb := Lib.hid (hb.out.trans (hb2.mono hs))
      clear hs hb2
      have hs := hb.out.size
      clear cx0 cx1 cx2
      obtain ⟨cy0, cy1, cy2⟩ := gy.out.all
      dsimp only at cy0 cy1 cy2
      go_wp2_with fail
      refine (cg.out _).mono ?_
      rintro e w3 ⟨rfl, hb3⟩
      replace gx := Lib.hid (isN_of hb3 gx.out)
      replace gy := Lib.hid (isN_of hb3 gy.out)
      replace gz := Lib.hid (isN_of hb3 gz.out)
      replace hb := Lib.hid (hb.out.trans (hb3.mono hs))
      clear hs hb3
      have hs := hb.out.size
      clear cy0 cy1 cy2
      obtain ⟨cx0, cx1, cx2⟩ := gx.out.all
      obtain ⟨cy0, cy1, cy2⟩ := gy.out.all
      dsimp only at cx0 cx1 cx2 cy0 cy1 cy2
      go_wp2_with fail
      refine (cc.out _).mono ?_
      rintro e w4 ⟨rfl, hb4⟩
      replace gx := Lib.hid (isN_of hb4 gx.out)
      replace gy := Lib.hid (isN_of hb4 gy.out)
      replace gz := Lib.hid (isN_of hb4 gz.out)
      replace hb := Lib.hid (hb.out.trans (hb4.mono hs))
      clear hs hb4
      have hs := hb.out.size
      clear cx0 cx1 cx2 cy0 cy1 cy2
      go_wp2_with fail
      go_ret
      exact ⟨rfl, hb.out⟩
    | true =>
      clear c0
      obtain rfl : h = false := by
        cases h with
        | false => rfl
        | true => exact absurd ⟨rfl, rfl, rfl⟩ hb0
      clear hb0
      by_cases hc : c = 0
      · subst hc
        go_enter Tryd.func4, Tryd.ntmps4
        go_wp2_with fail
        refine (cw.out _).mono ?_
        rintro e w1 ⟨rfl, hb1⟩
        obtain ⟨gx, gy, gz, hb⟩ := three_new (x := ⟨xn, xh, xl⟩) (y := ⟨yn, yh, yl⟩) (z := ⟨zn, zh, zl⟩) hb1
        have hs := hb.size
        clear hb1
        replace gx := Lib.hid gx
        replace gy := Lib.hid gy
        replace gz := Lib.hid gz
        replace hb := Lib.hid hb
        obtain ⟨cx0, cx1, cx2⟩ := gx.out.all
        dsimp only at cx0 cx1 cx2
        go_wp2_with fail
        refine (cf.out _).mono ?_
        rintro e w2 ⟨rfl, hb2⟩
        replace gx := Lib.hid (isN_of hb2 gx.out)
        replace gy := Lib.hid (isN_of hb2 gy.out)
        replace gz := Lib.hid (isN_of hb2 gz.out)
        replace hb := Lib.hid (hb.out.trans (hb2.mono hs))
        clear hs hb2
        have hs := hb.out.size
        clear cx0 cx1 cx2
        obtain ⟨cy0, cy1, cy2⟩ := gy.out.all
        dsimp only at cy0 cy1 cy2
        go_wp2_with fail
        refine (cg.out _).mono ?_
        rintro e w3 ⟨rfl, hb3⟩
        replace gx := Lib.hid (isN_of hb3 gx.out)
        replace gy := Lib.hid (isN_of hb3 gy.out)
        replace gz := Lib.hid (isN_of hb3 gz.out)
        replace hb := Lib.hid (hb.out.trans (hb3.mono hs))
        clear hs hb3
        have hs := hb.out.size
        clear cy0 cy1 cy2
        obtain ⟨cz0, cz1, cz2⟩ := gz.out.all
        dsimp only at cz0 cz1 cz2
        go_wp2_with fail
        refine (ch.out _).mono ?_
        rintro e w4 ⟨rfl, hb4⟩
        replace gx := Lib.hid (isN_of hb4 gx.out)
        replace gy := Lib.hid (isN_of hb4 gy.out)
        replace gz := Lib.hid (isN_of hb4 gz.out)
        replace hb := Lib.hid (hb.out.trans (hb4.mono hs))
        clear hs hb4
        have hs := hb.out.size
        clear cz0 cz1 cz2
        obtain ⟨cx0, cx1, cx2⟩ := gx.out.all
        obtain ⟨cy0, cy1, cy2⟩ := gy.out.all
        dsimp only at cx0 cx1 cx2 cy0 cy1 cy2
        go_wp2_with fail
        refine (cc.out _).mono ?_
        rintro e w5 ⟨rfl, hb5⟩
        replace gx := Lib.hid (isN_of hb5 gx.out)
        replace gy := Lib.hid (isN_of hb5 gy.out)
        replace gz := Lib.hid (isN_of hb5 gz.out)
        replace hb := Lib.hid (hb.out.trans (hb5.mono hs))
        clear hs hb5
        have hs := hb.out.size
        clear cx0 cx1 cx2 cy0 cy1 cy2
        go_wp2_with fail
        go_ret
        exact ⟨rfl, hb.out⟩
      · have hc' : (c == 0) = false := by simpa using hc
        go_enter Tryd.func4, Tryd.ntmps4
        go_wp2_with fail
        refine (cw.out _).mono ?_
        rintro e w1 ⟨rfl, hb1⟩
        obtain ⟨gx, gy, gz, hb⟩ := three_new (x := ⟨xn, xh, xl⟩) (y := ⟨yn, yh, yl⟩) (z := ⟨zn, zh, zl⟩) hb1
        have hs := hb.size
        clear hb1
        replace gx := Lib.hid gx
        replace gy := Lib.hid gy
        replace gz := Lib.hid gz
        replace hb := Lib.hid hb
        obtain ⟨cx0, cx1, cx2⟩ := gx.out.all
        dsimp only at cx0 cx1 cx2
        go_wp2_with fail
        refine (cf.out _).mono ?_
        rintro e w2 ⟨rfl, hb2⟩
        replace gx := Lib.hid (isN_of hb2 gx.out)
        replace gy := Lib.hid (isN_of hb2 gy.out)
        replace gz := Lib.hid (isN_of hb2 gz.out)
        replace hb := Lib.hid (hb.out.trans (hb2.mono hs))
        clear hs hb2
        have hs := hb.out.size
        clear cx0 cx1 cx2
        obtain ⟨cy0, cy1, cy2⟩ := gy.out.all
        dsimp only at cy0 cy1 cy2
        go_wp2_with fail
        refine (cg.out _).mono ?_
        rintro e w3 ⟨rfl, hb3⟩
        replace gx := Lib.hid (isN_of hb3 gx.out)
        replace gy := Lib.hid (isN_of hb3 gy.out)
        replace gz := Lib.hid (isN_of hb3 gz.out)
        replace hb := Lib.hid (hb.out.trans (hb3.mono hs))
        clear hs hb3
        have hs := hb.out.size
        clear cy0 cy1 cy2
        obtain ⟨cz0, cz1, cz2⟩ := gz.out.all
        dsimp only at cz0 cz1 cz2
        go_wp2_with fail
        refine (ch.out _).mono ?_
        rintro e w4 ⟨rfl, hb4⟩
        replace gx := Lib.hid (isN_of hb4 gx.out)
        replace gy := Lib.hid (isN_of hb4 gy.out)
        replace gz := Lib.hid (isN_of hb4 gz.out)
        replace hb := Lib.hid (hb.out.trans (hb4.mono hs))
        clear hs hb4
        have hs := hb.out.size
        clear cz0 cz1 cz2
        obtain ⟨cx0, cx1, cx2⟩ := gx.out.all
        obtain ⟨cy0, cy1, cy2⟩ := gy.out.all
        dsimp only at cx0 cx1 cx2 cy0 cy1 cy2
        go_wp2_with fail
        refine (cc.out _).mono ?_
        rintro e w5 ⟨rfl, hb5⟩
        replace gx := Lib.hid (isN_of hb5 gx.out)
        replace gy := Lib.hid (isN_of hb5 gy.out)
        replace gz := Lib.hid (isN_of hb5 gz.out)
        replace hb := Lib.hid (hb.out.trans (hb5.mono hs))
        clear hs hb5
        have hs := hb.out.size
        clear cx0 cx1 cx2 cy0 cy1 cy2
        obtain ⟨cx0, cx1, cx2⟩ := gx.out.all
        dsimp only at cx0 cx1 cx2
        go_wp2_with fail
        refine (cf.out _).mono ?_
        rintro e w6 ⟨rfl, hb6⟩
        replace gx := Lib.hid (isN_of hb6 gx.out)
        replace gy := Lib.hid (isN_of hb6 gy.out)
        replace gz := Lib.hid (isN_of hb6 gz.out)
        replace hb := Lib.hid (hb.out.trans (hb6.mono hs))
        clear hs hb6
        have hs := hb.out.size
        clear cx0 cx1 cx2
        obtain ⟨cy0, cy1, cy2⟩ := gy.out.all
        dsimp only at cy0 cy1 cy2
        go_wp2_with fail
        refine (cg.out _).mono ?_
        rintro e w7 ⟨rfl, hb7⟩
        replace gx := Lib.hid (isN_of hb7 gx.out)
        replace gy := Lib.hid (isN_of hb7 gy.out)
        replace gz := Lib.hid (isN_of hb7 gz.out)
        replace hb := Lib.hid (hb.out.trans (hb7.mono hs))
        clear hs hb7
        have hs := hb.out.size
        clear cy0 cy1 cy2
        go_wp2_with fail
        go_ret
        exact ⟨rfl, hb.out⟩
end Go.Proofs.YtbfigpollacngaaDoor
