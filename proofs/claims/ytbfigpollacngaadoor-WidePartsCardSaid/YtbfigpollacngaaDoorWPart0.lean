/- the walk over WideParts: a number out of form -/
import Derived.Test.YtbfigpollacngaaDoorWvN
namespace Go.Proofs.YtbfigpollacngaaDoor
open Go.RowKit
open Rf
open Wide

set_option maxRecDepth 10000 in
set_option maxHeartbeats 4000000 in
theorem wideParts_bad (x : WI) (ho : x.Ok) (y : WI) (hp : y.Ok) (hb0 : ¬ (x.form = true ∧ y.form = true)) (w : World) :
    Calls Tryd.prog 7 #[wv x, wv y] w fun e w' => e = .returned (.bool true) ∧ Below w.heap.size w w' := by
  have cf := form_c x ho
  have cg := form_c y hp
  have ca := add_c x y ho hp
  rw [addF_bad hb0] at ca
  have cw := awake_c
  clear ho hp
  generalize x.form = f at *
  generalize y.form = g at *
  obtain ⟨xn, xh, xl⟩ := x
  obtain ⟨yn, yh, yl⟩ := y
  unfold wv zero at *
  dsimp only at *
  replace cf := Lib.hid cf
  replace cg := Lib.hid cg
  replace ca := Lib.hid ca
  replace cw := Lib.hid cw
  cases f with
  | false =>
    clear hb0
    go_enter Tryd.func7, Tryd.ntmps7
    go_wp2_with fail
    refine (cw.out _).mono ?_
    rintro e w1 ⟨rfl, hb1⟩
    obtain ⟨gx, gy, hb⟩ := two_new (x := ⟨xn, xh, xl⟩) (y := ⟨yn, yh, yl⟩) hb1
    have hs := hb.size
    clear hb1
    replace gx := Lib.hid gx
    replace gy := Lib.hid gy
    replace hb := Lib.hid hb
    obtain ⟨cx0, cx1, cx2⟩ := gx.out.all
    dsimp only at cx0 cx1 cx2
    go_wp2_with fail
    refine (cf.out _).mono ?_
    rintro e w2 ⟨rfl, hb2⟩
    replace gx := Lib.hid (isN_of hb2 gx.out)
    replace gy := Lib.hid (isN_of hb2 gy.out)
    replace hb := Lib.hid (hb.out.trans (hb2.mono hs))
    clear hs hb2
    have hs := hb.out.size
    clear cx0 cx1 cx2
    obtain ⟨cx0, cx1, cx2⟩ := gx.out.all
    obtain ⟨cy0, cy1, cy2⟩ := gy.out.all
    dsimp only at cx0 cx1 cx2 cy0 cy1 cy2
    go_wp2_with fail
    refine (ca.out _).mono ?_
    rintro e w3 ⟨rfl, hb3⟩
    replace gx := Lib.hid (isN_of hb3 gx.out)
    replace gy := Lib.hid (isN_of hb3 gy.out)
    replace hb := Lib.hid (hb.out.trans (hb3.mono hs))
    clear hs hb3
    have hs := hb.out.size
    replace gx := Lib.hid (gx.out.alloc (oN ⟨false, 0, 0⟩))
    replace gy := Lib.hid (gy.out.alloc (oN ⟨false, 0, 0⟩))
    have ga := Lib.hid (IsN.new w3 ⟨false, 0, 0⟩)
    replace hb := Lib.hid (hb.out.alloc hs (oN ⟨false, 0, 0⟩))
    clear hs
    have hs := hb.out.size
    clear cx0 cx1 cx2 cy0 cy1 cy2
    go_wp2_with fail
    go_ret
    exact ⟨rfl, hb.out⟩
  | true =>
    cases g with
    | true => exact absurd ⟨rfl, rfl⟩ hb0
    | false =>
      clear hb0
      go_enter Tryd.func7, Tryd.ntmps7
      go_wp2_with fail
      refine (cw.out _).mono ?_
      rintro e w1 ⟨rfl, hb1⟩
      obtain ⟨gx, gy, hb⟩ := two_new (x := ⟨xn, xh, xl⟩) (y := ⟨yn, yh, yl⟩) hb1
      have hs := hb.size
      clear hb1
      replace gx := Lib.hid gx
      replace gy := Lib.hid gy
      replace hb := Lib.hid hb
      obtain ⟨cx0, cx1, cx2⟩ := gx.out.all
      dsimp only at cx0 cx1 cx2
      go_wp2_with fail
      refine (cf.out _).mono ?_
      rintro e w2 ⟨rfl, hb2⟩
      replace gx := Lib.hid (isN_of hb2 gx.out)
      replace gy := Lib.hid (isN_of hb2 gy.out)
      replace hb := Lib.hid (hb.out.trans (hb2.mono hs))
      clear hs hb2
      have hs := hb.out.size
      clear cx0 cx1 cx2
      obtain ⟨cy0, cy1, cy2⟩ := gy.out.all
      dsimp only at cy0 cy1 cy2
      go_wp2_with fail
      refine (cg.out _).mono ?_
      rintro e w3 ⟨rfl, hb3⟩
      replace gx := Lib.hid (isN_of hb3 gx.out)
      replace gy := Lib.hid (isN_of hb3 gy.out)
      replace hb := Lib.hid (hb.out.trans (hb3.mono hs))
      clear hs hb3
      have hs := hb.out.size
      clear cy0 cy1 cy2
      obtain ⟨cx0, cx1, cx2⟩ := gx.out.all
      obtain ⟨cy0, cy1, cy2⟩ := gy.out.all
      dsimp only at cx0 cx1 cx2 cy0 cy1 cy2
      go_wp2_with fail
      refine (ca.out _).mono ?_
      rintro e w4 ⟨rfl, hb4⟩
      replace gx := Lib.hid (isN_of hb4 gx.out)
      replace gy := Lib.hid (isN_of hb4 gy.out)
      replace hb := Lib.hid (hb.out.trans (hb4.mono hs))
      clear hs hb4
      have hs := hb.out.size
      replace gx := Lib.hid (gx.out.alloc (oN ⟨false, 0, 0⟩))
      replace gy := Lib.hid (gy.out.alloc (oN ⟨false, 0, 0⟩))
      have ga := Lib.hid (IsN.new w4 ⟨false, 0, 0⟩)
      replace hb := Lib.hid (hb.out.alloc hs (oN ⟨false, 0, 0⟩))
      clear hs
      have hs := hb.out.size
      clear cx0 cx1 cx2 cy0 cy1 cy2
      go_wp2_with fail
      go_ret
      exact ⟨rfl, hb.out⟩
end Go.Proofs.YtbfigpollacngaaDoor
