/- the walk over WideOrder: numbers in form -/
import Derived.Test.YtbfigpollacngaaDoorWvL
import Derived.Deep.RegionHeld3
import Derived.Deep.DrawnRows
import Derived.BigQuiet
namespace Go.Proofs.YtbfigpollacngaaDoor
open Go.RowKit
open Rf
open Wide
attribute [local go_sem ↓] Go.wp_at_zero Go.wp_at_succ

set_option maxRecDepth 10000 in
set_option maxHeartbeats 8000000 in
theorem wideOrder_same_nil_le (x : WI) (ho : x.Ok) (hf : x.form = true) (y : WI) (hp : y.Ok) (hg : y.form = true) (z : WI) (hq : z.Ok) (hh : z.form = true) (he : x = y) (k1 : cmpF x y = 0) (k2 : cmpF y z ≤ 0) (w : World) :
    Calls Tryd.prog 4 #[wv x, wv y, wv z] w fun e w' => e = .returned (.bool true) ∧ Below w.heap.size w w' := by
  have cf := form_c x ho
  rw [hf] at cf
  have cg := form_c y hp
  rw [hg] at cg
  have ch := form_c z hq
  rw [hh] at ch
  have cxy := cmp_c x y ho hp
  rw [k1] at cxy
  have cyz := cmp_c y z hp hq
  have cxz := cmp_c x z ho hq
  have k3 := order_law hf hg hh (by rw [k1]; decide) k2
  have ca := add_c x z ho hq
  have cb := add_c y z hp hq
  have cab := cmp_c (addF x z).1 (addF y z).1 (addF_ok x z) (addF_ok y z)
  have law := fun e f => (sum_law (x := x) (y := y) (z := z) e f).trans k1
  have cw := awake_c
  generalize cmpF (addF x z).1 (addF y z).1 = kab at *
  generalize addF x z = A at *
  generalize addF y z = C at *
  generalize cmpF y z = c2 at *
  have k2b : decide (c2 ≤ 0) = true := decide_eq_true k2
  generalize cmpF x z = c3 at *
  have k3b : decide (0 < c3) = false := decide_eq_false (by omega)
  have k3c : ¬ 0 < c3 := by omega
  clear ho hf hp hg hq hh k1
  obtain ⟨⟨An, Ah, Al⟩, Ae⟩ := A
  obtain ⟨⟨Cn, Ch, Cl⟩, Ce⟩ := C
  obtain ⟨xn, xh, xl⟩ := x
  obtain ⟨yn, yh, yl⟩ := y
  obtain ⟨zn, zh, zl⟩ := z
  simp only [WI.mk.injEq] at he
  obtain ⟨e0, e1, e2⟩ := he
  subst e0 e1 e2
  unfold wv at *
  dsimp only at *
  replace cf := Lib.hid cf
  replace cg := Lib.hid cg
  replace ch := Lib.hid ch
  replace cxy := Lib.hid cxy
  replace ca := Lib.hid ca
  replace cb := Lib.hid cb
  replace cab := Lib.hid cab
  replace cw := Lib.hid cw
  replace law := Lib.hid law
  replace cyz := Lib.hid cyz
  replace cxz := Lib.hid cxz
  go_enter Tryd.func4, Tryd.ntmps4
  go_wp2_with fail
  refine (cw.out _).mono ?_
  rintro e w1 ⟨rfl, hb1⟩
  obtain ⟨gx, gy, gz, hb⟩ := three_new (x := ⟨xn, xh, xl⟩) (y := ⟨xn, xh, xl⟩) (z := ⟨zn, zh, zl⟩) hb1
  have hs := hb.size
  clear hb1
  replace gx := Lib.hid gx
  replace gy := Lib.hid gy
  replace gz := Lib.hid gz
  replace hb := Lib.hid hb
  obtain ⟨cx0, cx1, cx2⟩ := gx.out.all
  dsimp only at cx0 cx1 cx2
  go_wp2_with fail
  refine (cf.out _).mono ?_
  rintro e w2 ⟨rfl, hb2⟩
  replace gx := Lib.hid (isN_of hb2 gx.out)
  replace gy := Lib.hid (isN_of hb2 gy.out)
  replace gz := Lib.hid (isN_of hb2 gz.out)
  replace hb := Lib.hid (hb.out.trans (hb2.mono hs))
  clear hs hb2
  have hs := hb.out.size
  clear cx0 cx1 cx2
  obtain ⟨cy0, cy1, cy2⟩ := gy.out.all
  dsimp only at cy0 cy1 cy2
  go_wp2_with fail
  refine (cg.out _).mono ?_
  rintro e w3 ⟨rfl, hb3⟩
  replace gx := Lib.hid (isN_of hb3 gx.out)
  replace gy := Lib.hid (isN_of hb3 gy.out)
  replace gz := Lib.hid (isN_of hb3 gz.out)
  replace hb := Lib.hid (hb.out.trans (hb3.mono hs))
  clear hs hb3
  have hs := hb.out.size
  clear cy0 cy1 cy2
  obtain ⟨cz0, cz1, cz2⟩ := gz.out.all
  dsimp only at cz0 cz1 cz2
  go_wp2_with fail
  refine (ch.out _).mono ?_
  rintro e w4 ⟨rfl, hb4⟩
  replace gx := Lib.hid (isN_of hb4 gx.out)
  replace gy := Lib.hid (isN_of hb4 gy.out)
  replace gz := Lib.hid (isN_of hb4 gz.out)
  replace hb := Lib.hid (hb.out.trans (hb4.mono hs))
  clear hs hb4
  have hs := hb.out.size
  clear cz0 cz1 cz2
  replace hb := Lib.hid (below_drewed hb.out)
  clear hs
  have hs := hb.out.size
  obtain ⟨cx0, cx1, cx2⟩ := gx.out.all
  obtain ⟨cy0, cy1, cy2⟩ := gy.out.all
  obtain ⟨cz0, cz1, cz2⟩ := gz.out.all
  dsimp only at cx0 cx1 cx2 cy0 cy1 cy2 cz0 cz1 cz2
  have mk0 := Lib.hid trivial
  have mk1 := Lib.hid trivial
  have mk2 := Lib.hid trivial
  have mk3 := Lib.hid trivial
  go_wp2_with fail
  go_region_held3 (fun w1 => w1.cell? ⟨w.heap.size, 0, none⟩ = some (.bool xn) ∧ w1.cell? ⟨w.heap.size, 1, none⟩ = some (.int .u64 xh) ∧ w1.cell? ⟨w.heap.size, 2, none⟩ = some (.int .u64 xl) ∧ w1.cell? ⟨w.heap.size + 1, 0, none⟩ = some (.bool xn) ∧ w1.cell? ⟨w.heap.size + 1, 1, none⟩ = some (.int .u64 xh) ∧ w1.cell? ⟨w.heap.size + 1, 2, none⟩ = some (.int .u64 xl) ∧ w1.cell? ⟨w.heap.size + 2, 0, none⟩ = some (.bool zn) ∧ w1.cell? ⟨w.heap.size + 2, 1, none⟩ = some (.int .u64 zh) ∧ w1.cell? ⟨w.heap.size + 2, 2, none⟩ = some (.int .u64 zl)) (go_keep)
    (first
      | (go_at_call 13
         clear mk0
         refine (cxy.out _).mono ?_
         rintro e wr ⟨rfl, hbr⟩
         have hb2 := Lib.hid (hb.out.trans (hbr.mono hs))
         clear hb hs
         have hb := hb2
         clear hb2
         have hs := hb.out.size
         have gg := Lib.hid (isN_of hbr gx.out)
         clear gx
         have gx := gg
         clear gg
         have gg := Lib.hid (isN_of hbr gy.out)
         clear gy
         have gy := gg
         clear gg
         have gg := Lib.hid (isN_of hbr gz.out)
         clear gz
         have gz := gg
         clear gg
         clear hbr cx0 cx1 cx2 cy0 cy1 cy2 cz0 cz1 cz2
         obtain ⟨cx0, cx1, cx2⟩ := gx.out.all
         obtain ⟨cy0, cy1, cy2⟩ := gy.out.all
         obtain ⟨cz0, cz1, cz2⟩ := gz.out.all
         dsimp only at cx0 cx1 cx2 cy0 cy1 cy2 cz0 cz1 cz2)
      | (go_at_call 13
         clear mk1
         refine (cyz.out _).mono ?_
         rintro e wr ⟨rfl, hbr⟩
         have hb2 := Lib.hid (hb.out.trans (hbr.mono hs))
         clear hb hs
         have hb := hb2
         clear hb2
         have hs := hb.out.size
         have gg := Lib.hid (isN_of hbr gx.out)
         clear gx
         have gx := gg
         clear gg
         have gg := Lib.hid (isN_of hbr gy.out)
         clear gy
         have gy := gg
         clear gg
         have gg := Lib.hid (isN_of hbr gz.out)
         clear gz
         have gz := gg
         clear gg
         clear hbr cx0 cx1 cx2 cy0 cy1 cy2 cz0 cz1 cz2
         obtain ⟨cx0, cx1, cx2⟩ := gx.out.all
         obtain ⟨cy0, cy1, cy2⟩ := gy.out.all
         obtain ⟨cz0, cz1, cz2⟩ := gz.out.all
         dsimp only at cx0 cx1 cx2 cy0 cy1 cy2 cz0 cz1 cz2)
      | (go_at_call 13
         clear mk2
         refine (cxz.out _).mono ?_
         rintro e wr ⟨rfl, hbr⟩
         have hb2 := Lib.hid (hb.out.trans (hbr.mono hs))
         clear hb hs
         have hb := hb2
         clear hb2
         have hs := hb.out.size
         have gg := Lib.hid (isN_of hbr gx.out)
         clear gx
         have gx := gg
         clear gg
         have gg := Lib.hid (isN_of hbr gy.out)
         clear gy
         have gy := gg
         clear gg
         have gg := Lib.hid (isN_of hbr gz.out)
         clear gz
         have gz := gg
         clear gg
         clear hbr cx0 cx1 cx2 cy0 cy1 cy2 cz0 cz1 cz2
         obtain ⟨cx0, cx1, cx2⟩ := gx.out.all
         obtain ⟨cy0, cy1, cy2⟩ := gy.out.all
         obtain ⟨cz0, cz1, cz2⟩ := gz.out.all
         dsimp only at cx0 cx1 cx2 cy0 cy1 cy2 cz0 cz1 cz2)
      | (go_at_call 13
         clear mk3
         refine (cxy.out _).mono ?_
         rintro e wr ⟨rfl, hbr⟩
         have hb2 := Lib.hid (hb.out.trans (hbr.mono hs))
         clear hb hs
         have hb := hb2
         clear hb2
         have hs := hb.out.size
         have gg := Lib.hid (isN_of hbr gx.out)
         clear gx
         have gx := gg
         clear gg
         have gg := Lib.hid (isN_of hbr gy.out)
         clear gy
         have gy := gg
         clear gg
         have gg := Lib.hid (isN_of hbr gz.out)
         clear gz
         have gz := gg
         clear gg
         clear hbr cx0 cx1 cx2 cy0 cy1 cy2 cz0 cz1 cz2
         obtain ⟨cx0, cx1, cx2⟩ := gx.out.all
         obtain ⟨cy0, cy1, cy2⟩ := gy.out.all
         obtain ⟨cz0, cz1, cz2⟩ := gz.out.all
         dsimp only at cx0 cx1 cx2 cy0 cy1 cy2 cz0 cz1 cz2))
  go_wp2_with fail
  refine (ca.out _).mono ?_
  rintro e w8 ⟨rfl, hb8⟩
  replace gx := Lib.hid (isN_of hb8 gx.out)
  replace gy := Lib.hid (isN_of hb8 gy.out)
  replace gz := Lib.hid (isN_of hb8 gz.out)
  replace hb := Lib.hid (hb.out.trans (hb8.mono hs))
  clear hs hb8
  have hs := hb.out.size
  replace gx := Lib.hid (gx.out.alloc (oN ⟨An, Ah, Al⟩))
  replace gy := Lib.hid (gy.out.alloc (oN ⟨An, Ah, Al⟩))
  replace gz := Lib.hid (gz.out.alloc (oN ⟨An, Ah, Al⟩))
  have ga := Lib.hid (IsN.new w8 ⟨An, Ah, Al⟩)
  replace hb := Lib.hid (hb.out.alloc hs (oN ⟨An, Ah, Al⟩))
  clear hs
  have hs := hb.out.size
  clear cx0 cx1 cx2 cy0 cy1 cy2 cz0 cz1 cz2
  obtain ⟨cx0, cx1, cx2⟩ := gx.out.all
  obtain ⟨cy0, cy1, cy2⟩ := gy.out.all
  obtain ⟨cz0, cz1, cz2⟩ := gz.out.all
  obtain ⟨ca0, ca1, ca2⟩ := ga.out.all
  dsimp only at cx0 cx1 cx2 cy0 cy1 cy2 cz0 cz1 cz2 ca0 ca1 ca2
  go_wp2_with fail
  refine (cb.out _).mono ?_
  rintro e w9 ⟨rfl, hb9⟩
  replace gx := Lib.hid (isN_of hb9 gx.out)
  replace gy := Lib.hid (isN_of hb9 gy.out)
  replace gz := Lib.hid (isN_of hb9 gz.out)
  replace ga := Lib.hid (isN_of hb9 ga.out)
  replace hb := Lib.hid (hb.out.trans (hb9.mono hs))
  clear hs hb9
  have hs := hb.out.size
  replace gx := Lib.hid (gx.out.alloc (oN ⟨Cn, Ch, Cl⟩))
  replace gy := Lib.hid (gy.out.alloc (oN ⟨Cn, Ch, Cl⟩))
  replace gz := Lib.hid (gz.out.alloc (oN ⟨Cn, Ch, Cl⟩))
  replace ga := Lib.hid (ga.out.alloc (oN ⟨Cn, Ch, Cl⟩))
  have gb := Lib.hid (IsN.new w9 ⟨Cn, Ch, Cl⟩)
  replace hb := Lib.hid (hb.out.alloc hs (oN ⟨Cn, Ch, Cl⟩))
  clear hs
  have hs := hb.out.size
  clear cx0 cx1 cx2 cy0 cy1 cy2 cz0 cz1 cz2 ca0 ca1 ca2
  by_cases e1 : Ae = 0
  · by_cases e2 : Ce = 0
    · have e3 := law.out e1 e2
      subst e1 e2 e3
      replace hb := Lib.hid (below_drewed hb.out)
      clear hs
      have hs := hb.out.size
      obtain ⟨cx0, cx1, cx2⟩ := gx.out.all
      obtain ⟨cy0, cy1, cy2⟩ := gy.out.all
      obtain ⟨ca0, ca1, ca2⟩ := ga.out.all
      obtain ⟨cb0, cb1, cb2⟩ := gb.out.all
      dsimp only at cx0 cx1 cx2 cy0 cy1 cy2 ca0 ca1 ca2 cb0 cb1 cb2
      have mk0 := Lib.hid trivial
      have mk1 := Lib.hid trivial
      go_wp2_with fail
      go_region_held3 (fun w1 => w1.cell? ⟨w.heap.size, 0, none⟩ = some (.bool xn) ∧ w1.cell? ⟨w.heap.size, 1, none⟩ = some (.int .u64 xh) ∧ w1.cell? ⟨w.heap.size, 2, none⟩ = some (.int .u64 xl) ∧ w1.cell? ⟨w.heap.size + 1, 0, none⟩ = some (.bool xn) ∧ w1.cell? ⟨w.heap.size + 1, 1, none⟩ = some (.int .u64 xh) ∧ w1.cell? ⟨w.heap.size + 1, 2, none⟩ = some (.int .u64 xl) ∧ w1.cell? ⟨w8.heap.size, 0, none⟩ = some (.bool An) ∧ w1.cell? ⟨w8.heap.size, 1, none⟩ = some (.int .u64 Ah) ∧ w1.cell? ⟨w8.heap.size, 2, none⟩ = some (.int .u64 Al) ∧ w1.cell? ⟨w9.heap.size, 0, none⟩ = some (.bool Cn) ∧ w1.cell? ⟨w9.heap.size, 1, none⟩ = some (.int .u64 Ch) ∧ w1.cell? ⟨w9.heap.size, 2, none⟩ = some (.int .u64 Cl)) (go_keep)
        (first
          | (go_at_call 13
             clear mk0
             refine (cab.out _).mono ?_
             rintro e wr ⟨rfl, hbr⟩
             have hb2 := Lib.hid (hb.out.trans (hbr.mono hs))
             clear hb hs
             have hb := hb2
             clear hb2
             have hs := hb.out.size
             have gg := Lib.hid (isN_of hbr gx.out)
             clear gx
             have gx := gg
             clear gg
             have gg := Lib.hid (isN_of hbr gy.out)
             clear gy
             have gy := gg
             clear gg
             have gg := Lib.hid (isN_of hbr gz.out)
             clear gz
             have gz := gg
             clear gg
             have gg := Lib.hid (isN_of hbr ga.out)
             clear ga
             have ga := gg
             clear gg
             have gg := Lib.hid (isN_of hbr gb.out)
             clear gb
             have gb := gg
             clear gg
             clear hbr cx0 cx1 cx2 cy0 cy1 cy2 ca0 ca1 ca2 cb0 cb1 cb2
             obtain ⟨cx0, cx1, cx2⟩ := gx.out.all
             obtain ⟨cy0, cy1, cy2⟩ := gy.out.all
             obtain ⟨ca0, ca1, ca2⟩ := ga.out.all
             obtain ⟨cb0, cb1, cb2⟩ := gb.out.all
             dsimp only at cx0 cx1 cx2 cy0 cy1 cy2 ca0 ca1 ca2 cb0 cb1 cb2)
          | (go_at_call 13
             clear mk1
             refine (cxy.out _).mono ?_
             rintro e wr ⟨rfl, hbr⟩
             have hb2 := Lib.hid (hb.out.trans (hbr.mono hs))
             clear hb hs
             have hb := hb2
             clear hb2
             have hs := hb.out.size
             have gg := Lib.hid (isN_of hbr gx.out)
             clear gx
             have gx := gg
             clear gg
             have gg := Lib.hid (isN_of hbr gy.out)
             clear gy
             have gy := gg
             clear gg
             have gg := Lib.hid (isN_of hbr gz.out)
             clear gz
             have gz := gg
             clear gg
             have gg := Lib.hid (isN_of hbr ga.out)
             clear ga
             have ga := gg
             clear gg
             have gg := Lib.hid (isN_of hbr gb.out)
             clear gb
             have gb := gg
             clear gg
             clear hbr cx0 cx1 cx2 cy0 cy1 cy2 ca0 ca1 ca2 cb0 cb1 cb2
             obtain ⟨cx0, cx1, cx2⟩ := gx.out.all
             obtain ⟨cy0, cy1, cy2⟩ := gy.out.all
             obtain ⟨ca0, ca1, ca2⟩ := ga.out.all
             obtain ⟨cb0, cb1, cb2⟩ := gb.out.all
             dsimp only at cx0 cx1 cx2 cy0 cy1 cy2 ca0 ca1 ca2 cb0 cb1 cb2))
      go_wp2_with fail
      go_ret
      exact ⟨rfl, hb.out⟩
    · have f2 : (Ce != 0) = true := by simpa using e2
      have f3 : (Ce == 0) = false := by simpa using e2
      subst e1
      go_wp2_with fail
      go_quiet (fail)
      go_wp2_with fail
      go_ret
      exact ⟨rfl, hb.out.trans ⟨rfl, rfl, rfl, Nat.le_refl _, fun _ _ => rfl⟩⟩
  · have f1 : (Ae != 0) = true := by simpa using e1
    have f0 : (Ae == 0) = false := by simpa using e1
    go_wp2_with fail
    go_quiet (fail)
    go_wp2_with fail
    go_ret
    exact ⟨rfl, hb.out.trans ⟨rfl, rfl, rfl, Nat.le_refl _, fun _ _ => rfl⟩⟩

set_option maxRecDepth 10000 in
set_option maxHeartbeats 8000000 in
theorem wideOrder_same_nil_gt (x : WI) (ho : x.Ok) (hf : x.form = true) (y : WI) (hp : y.Ok) (hg : y.form = true) (z : WI) (hq : z.Ok) (hh : z.form = true) (he : x = y) (k1 : cmpF x y = 0) (k2 : ¬ cmpF y z ≤ 0) (w : World) :
    Calls Tryd.prog 4 #[wv x, wv y, wv z] w fun e w' => e = .returned (.bool true) ∧ Below w.heap.size w w' := by
  have cf := form_c x ho
  rw [hf] at cf
  have cg := form_c y hp
  rw [hg] at cg
  have ch := form_c z hq
  rw [hh] at ch
  have cxy := cmp_c x y ho hp
  rw [k1] at cxy
  have cyz := cmp_c y z hp hq
  have ca := add_c x z ho hq
  have cb := add_c y z hp hq
  have cab := cmp_c (addF x z).1 (addF y z).1 (addF_ok x z) (addF_ok y z)
  have law := fun e f => (sum_law (x := x) (y := y) (z := z) e f).trans k1
  have cw := awake_c
  generalize cmpF (addF x z).1 (addF y z).1 = kab at *
  generalize addF x z = A at *
  generalize addF y z = C at *
  generalize cmpF y z = c2 at *
  have k2b : decide (c2 ≤ 0) = false := decide_eq_false k2
  clear ho hf hp hg hq hh k1
  obtain ⟨⟨An, Ah, Al⟩, Ae⟩ := A
  obtain ⟨⟨Cn, Ch, Cl⟩, Ce⟩ := C
  obtain ⟨xn, xh, xl⟩ := x
  obtain ⟨yn, yh, yl⟩ := y
  obtain ⟨zn, zh, zl⟩ := z
  simp only [WI.mk.injEq] at he
  obtain ⟨e0, e1, e2⟩ := he
  subst e0 e1 e2
  unfold wv at *
  dsimp only at *
  replace cf := Lib.hid cf
  replace cg := Lib.hid cg
  replace ch := Lib.hid ch
  replace cxy := Lib.hid cxy
  replace ca := Lib.hid ca
  replace cb := Lib.hid cb
  replace cab := Lib.hid cab
  replace cw := Lib.hid cw
  replace law := Lib.hid law
  replace cyz := Lib.hid cyz
  go_enter Tryd.func4, Tryd.ntmps4
  go_wp2_with fail
  refine (cw.out _).mono ?_
  rintro e w1 ⟨rfl, hb1⟩
  obtain ⟨gx, gy, gz, hb⟩ := three_new (x := ⟨xn, xh, xl⟩) (y := ⟨xn, xh, xl⟩) (z := ⟨zn, zh, zl⟩) hb1
  have hs := hb.size
  clear hb1
  replace gx := Lib.hid gx
  replace gy := Lib.hid gy
  replace gz := Lib.hid gz
  replace hb := Lib.hid hb
  obtain ⟨cx0, cx1, cx2⟩ := gx.out.all
  dsimp only at cx0 cx1 cx2
  go_wp2_with fail
  refine (cf.out _).mono ?_
  rintro e w2 ⟨rfl, hb2⟩
  replace gx := Lib.hid (isN_of hb2 gx.out)
  replace gy := Lib.hid (isN_of hb2 gy.out)
  replace gz := Lib.hid (isN_of hb2 gz.out)
  replace hb := Lib.hid (hb.out.trans (hb2.mono hs))
  clear hs hb2
  have hs := hb.out.size
  clear cx0 cx1 cx2
  obtain ⟨cy0, cy1, cy2⟩ := gy.out.all
  dsimp only at cy0 cy1 cy2
  go_wp2_with fail
  refine (cg.out _).mono ?_
  rintro e w3 ⟨rfl, hb3⟩
  replace gx := Lib.hid (isN_of hb3 gx.out)
  replace gy := Lib.hid (isN_of hb3 gy.out)
  replace gz := Lib.hid (isN_of hb3 gz.out)
  replace hb := Lib.hid (hb.out.trans (hb3.mono hs))
  clear hs hb3
  have hs := hb.out.size
  clear cy0 cy1 cy2
  obtain ⟨cz0, cz1, cz2⟩ := gz.out.all
  dsimp only at cz0 cz1 cz2
  go_wp2_with fail
  refine (ch.out _).mono ?_
  rintro e w4 ⟨rfl, hb4⟩
  replace gx := Lib.hid (isN_of hb4 gx.out)
  replace gy := Lib.hid (isN_of hb4 gy.out)
  replace gz := Lib.hid (isN_of hb4 gz.out)
  replace hb := Lib.hid (hb.out.trans (hb4.mono hs))
  clear hs hb4
  have hs := hb.out.size
  clear cz0 cz1 cz2
  replace hb := Lib.hid (below_drewed hb.out)
  clear hs
  have hs := hb.out.size
  obtain ⟨cx0, cx1, cx2⟩ := gx.out.all
  obtain ⟨cy0, cy1, cy2⟩ := gy.out.all
  obtain ⟨cz0, cz1, cz2⟩ := gz.out.all
  dsimp only at cx0 cx1 cx2 cy0 cy1 cy2 cz0 cz1 cz2
  go_wp2_with fail
  refine wp_region_held_at (S := fun w1 => w1.cell? ⟨w.heap.size, 0, none⟩ = some (.bool xn) ∧ w1.cell? ⟨w.heap.size, 1, none⟩ = some (.int .u64 xh) ∧ w1.cell? ⟨w.heap.size, 2, none⟩ = some (.int .u64 xl) ∧ w1.cell? ⟨w.heap.size + 1, 0, none⟩ = some (.bool xn) ∧ w1.cell? ⟨w.heap.size + 1, 1, none⟩ = some (.int .u64 xh) ∧ w1.cell? ⟨w.heap.size + 1, 2, none⟩ = some (.int .u64 xl) ∧ w1.cell? ⟨w.heap.size + 2, 0, none⟩ = some (.bool zn) ∧ w1.cell? ⟨w.heap.size + 2, 1, none⟩ = some (.int .u64 zh) ∧ w1.cell? ⟨w.heap.size + 2, 2, none⟩ = some (.int .u64 zl)) 26 rfl (by kernel_rfl) (by go_keep) (fun hH => ?_)
  refine wpAnyH_take (i := 0) (v := ?_) rfl (by decide +kernel) (by decide +kernel) (by decide +kernel) (fun _ _ _ h => h) (Or.inl ⟨by rfl, ?_⟩) (by assumption) ?_
  rotate_left
  · intro w1 hSw; (try dsimp only at hSw); (try simp only [List.getElem_toArray, List.getElem_cons_zero]); go_simp; try with_reducible rfl
  try simp only [List.getElem_toArray, List.getElem_cons_zero, Act.put, List.setIfInBounds_toArray, List.set_cons_zero, List.set_cons_succ]
  refine wpAnyH_take (i := 1) (v := ?_) rfl (by decide +kernel) (by decide +kernel) (by decide +kernel) (fun _ _ _ h => h) (Or.inl ⟨by rfl, ?_⟩) (by assumption) ?_
  rotate_left
  · intro w1 hSw; (try dsimp only at hSw); (try simp only [List.getElem_toArray, List.getElem_cons_zero, List.getElem_cons_succ]); go_simp; try with_reducible rfl
  try simp only [List.getElem_toArray, List.getElem_cons_zero, List.getElem_cons_succ, Act.put, List.setIfInBounds_toArray, List.set_cons_zero, List.set_cons_succ]
  refine wpAnyH_ready (rs := [2]) (by decide +kernel) (by simp) ?_
  refine AllReadyH.cons rfl (fun K hK => ?_) AllReadyH.nil
  (try simp only [List.getElem_toArray, List.getElem_cons_zero, List.getElem_cons_succ])
  go_simp
  refine (cxy.out _).mono ?_
  rintro e wr ⟨rfl, hbr⟩
  have hb2 := Lib.hid (hb.out.trans (hbr.mono hs))
  clear hb hs
  have hb := hb2
  clear hb2
  have hs := hb.out.size
  have gg := Lib.hid (isN_of hbr gx.out)
  clear gx
  have gx := gg
  clear gg
  have gg := Lib.hid (isN_of hbr gy.out)
  clear gy
  have gy := gg
  clear gg
  have gg := Lib.hid (isN_of hbr gz.out)
  clear gz
  have gz := gg
  clear gg
  clear hH hbr cx0 cx1 cx2 cy0 cy1 cy2 cz0 cz1 cz2
  obtain ⟨cx0, cx1, cx2⟩ := gx.out.all
  obtain ⟨cy0, cy1, cy2⟩ := gy.out.all
  obtain ⟨cz0, cz1, cz2⟩ := gz.out.all
  dsimp only at cx0 cx1 cx2 cy0 cy1 cy2 cz0 cz1 cz2
  go_simp
  refine hK.out _ _ (by go_keep) (fun hH => ?_)
  clear hK K
  try simp only [List.getElem_toArray, List.getElem_cons_zero, List.getElem_cons_succ, Act.put, List.setIfInBounds_toArray, List.set_cons_zero, List.set_cons_succ]
  refine wpAnyH_take (i := 3) (v := ?_) rfl (by decide +kernel) (by decide +kernel) (by decide +kernel) (fun _ _ _ h => h) (Or.inl ⟨by rfl, ?_⟩) (by assumption) ?_
  rotate_left
  · intro w1 hSw; (try dsimp only at hSw); (try simp only [List.getElem_toArray, List.getElem_cons_zero, List.getElem_cons_succ]); go_simp; try with_reducible rfl
  try simp only [List.getElem_toArray, List.getElem_cons_zero, List.getElem_cons_succ, Act.put, List.setIfInBounds_toArray, List.set_cons_zero, List.set_cons_succ]
  refine wpAnyH_take (i := 4) (v := ?_) rfl (by decide +kernel) (by decide +kernel) (by decide +kernel) (fun _ _ _ h => h) (Or.inl ⟨by rfl, ?_⟩) (by assumption) ?_
  rotate_left
  · intro w1 hSw; (try dsimp only at hSw); (try simp only [List.getElem_toArray, List.getElem_cons_zero, List.getElem_cons_succ]); go_simp; try with_reducible rfl
  try simp only [List.getElem_toArray, List.getElem_cons_zero, List.getElem_cons_succ, Act.put, List.setIfInBounds_toArray, List.set_cons_zero, List.set_cons_succ]
  refine wpAnyH_take (i := 5) (v := ?_) rfl (by decide +kernel) (by decide +kernel) (by decide +kernel) (fun _ _ _ h => h) (Or.inl ⟨by rfl, ?_⟩) (by assumption) ?_
  rotate_left
  · intro w1 hSw; (try dsimp only at hSw); (try simp only [List.getElem_toArray, List.getElem_cons_zero, List.getElem_cons_succ]); go_simp; try with_reducible rfl
  try simp only [List.getElem_toArray, List.getElem_cons_zero, List.getElem_cons_succ, Act.put, List.setIfInBounds_toArray, List.set_cons_zero, List.set_cons_succ]
  refine wpAnyH_take (i := 6) (v := ?_) rfl (by decide +kernel) (by decide +kernel) (by decide +kernel) (fun _ _ _ h => h) (Or.inl ⟨by rfl, ?_⟩) (by assumption) ?_
  rotate_left
  · intro w1 hSw; (try dsimp only at hSw); (try simp only [List.getElem_toArray, List.getElem_cons_zero, List.getElem_cons_succ]); go_simp; try with_reducible rfl
  try simp only [List.getElem_toArray, List.getElem_cons_zero, List.getElem_cons_succ, Act.put, List.setIfInBounds_toArray, List.set_cons_zero, List.set_cons_succ]
  refine wpAnyH_ready (rs := [7]) (by decide +kernel) (by simp) ?_
  refine AllReadyH.cons rfl (fun K hK => ?_) AllReadyH.nil
  (try simp only [List.getElem_toArray, List.getElem_cons_zero, List.getElem_cons_succ])
  go_simp
  refine (cyz.out _).mono ?_
  rintro e wr ⟨rfl, hbr⟩
  have hb2 := Lib.hid (hb.out.trans (hbr.mono hs))
  clear hb hs
  have hb := hb2
  clear hb2
  have hs := hb.out.size
  have gg := Lib.hid (isN_of hbr gx.out)
  clear gx
  have gx := gg
  clear gg
  have gg := Lib.hid (isN_of hbr gy.out)
  clear gy
  have gy := gg
  clear gg
  have gg := Lib.hid (isN_of hbr gz.out)
  clear gz
  have gz := gg
  clear gg
  clear hH hbr cx0 cx1 cx2 cy0 cy1 cy2 cz0 cz1 cz2
  obtain ⟨cx0, cx1, cx2⟩ := gx.out.all
  obtain ⟨cy0, cy1, cy2⟩ := gy.out.all
  obtain ⟨cz0, cz1, cz2⟩ := gz.out.all
  dsimp only at cx0 cx1 cx2 cy0 cy1 cy2 cz0 cz1 cz2
  go_simp
  refine hK.out _ _ (by go_keep) (fun hH => ?_)
  clear hK K
  try simp only [List.getElem_toArray, List.getElem_cons_zero, List.getElem_cons_succ, Act.put, List.setIfInBounds_toArray, List.set_cons_zero, List.set_cons_succ]
  refine wpAnyH_take (i := 8) (v := ?_) rfl (by decide +kernel) (by decide +kernel) (by decide +kernel) (fun _ _ _ h => h) (Or.inl ⟨by rfl, ?_⟩) (by assumption) ?_
  rotate_left
  · intro w1 hSw; (try dsimp only at hSw); (try simp only [List.getElem_toArray, List.getElem_cons_zero, List.getElem_cons_succ]); go_simp; try with_reducible rfl
  try simp only [List.getElem_toArray, List.getElem_cons_zero, List.getElem_cons_succ, Act.put, List.setIfInBounds_toArray, List.set_cons_zero, List.set_cons_succ]
  refine wpAnyH_take (i := 9) (v := ?_) rfl (by decide +kernel) (by decide +kernel) (by decide +kernel) (fun _ _ _ h => h) (Or.inl ⟨by rfl, ?_⟩) (by assumption) ?_
  rotate_left
  · intro w1 hSw; (try dsimp only at hSw); (try simp only [List.getElem_toArray, List.getElem_cons_zero, List.getElem_cons_succ]); go_simp; try with_reducible rfl
  try simp only [List.getElem_toArray, List.getElem_cons_zero, List.getElem_cons_succ, Act.put, List.setIfInBounds_toArray, List.set_cons_zero, List.set_cons_succ]
  refine wpAnyH_take (i := 10) (v := ?_) rfl (by decide +kernel) (by decide +kernel) (by decide +kernel) (fun _ _ _ h => h) (Or.inl ⟨by rfl, ?_⟩) (by assumption) ?_
  rotate_left
  · intro w1 hSw; (try dsimp only at hSw); (try simp only [List.getElem_toArray, List.getElem_cons_zero, List.getElem_cons_succ]); go_simp; try with_reducible rfl
  try simp only [List.getElem_toArray, List.getElem_cons_zero, List.getElem_cons_succ, Act.put, List.setIfInBounds_toArray, List.set_cons_zero, List.set_cons_succ]
  refine wpAnyH_take (i := 11) (v := undef) rfl (by decide +kernel) (by decide +kernel) (by decide +kernel) (fun _ _ _ h => h) (Or.inr ⟨by rfl, rfl⟩) (by assumption) ?_
  try simp only [List.getElem_toArray, List.getElem_cons_zero, List.getElem_cons_succ, Act.put, List.setIfInBounds_toArray, List.set_cons_zero, List.set_cons_succ]
  refine wpAnyH_take (i := 12) (v := undef) rfl (by decide +kernel) (by decide +kernel) (by decide +kernel) (fun _ _ _ h => h) (Or.inr ⟨by rfl, rfl⟩) (by assumption) ?_
  try simp only [List.getElem_toArray, List.getElem_cons_zero, List.getElem_cons_succ, Act.put, List.setIfInBounds_toArray, List.set_cons_zero, List.set_cons_succ]
  refine wpAnyH_take (i := 13) (v := undef) rfl (by decide +kernel) (by decide +kernel) (by decide +kernel) (fun _ _ _ h => h) (Or.inr ⟨by rfl, rfl⟩) (by assumption) ?_
  try simp only [List.getElem_toArray, List.getElem_cons_zero, List.getElem_cons_succ, Act.put, List.setIfInBounds_toArray, List.set_cons_zero, List.set_cons_succ]
  refine wpAnyH_take (i := 14) (v := undef) rfl (by decide +kernel) (by decide +kernel) (by decide +kernel) (fun _ _ _ h => h) (Or.inr ⟨by rfl, rfl⟩) (by assumption) ?_
  try simp only [List.getElem_toArray, List.getElem_cons_zero, List.getElem_cons_succ, Act.put, List.setIfInBounds_toArray, List.set_cons_zero, List.set_cons_succ]
  refine wpAnyH_take (i := 15) (v := ?_) rfl (by decide +kernel) (by decide +kernel) (by decide +kernel) (fun _ _ _ h => h) (Or.inl ⟨by rfl, ?_⟩) (by assumption) ?_
  rotate_left
  · intro w1 hSw; (try dsimp only at hSw); (try simp only [List.getElem_toArray, List.getElem_cons_zero, List.getElem_cons_succ]); go_simp; try with_reducible rfl
  try simp only [List.getElem_toArray, List.getElem_cons_zero, List.getElem_cons_succ, Act.put, List.setIfInBounds_toArray, List.set_cons_zero, List.set_cons_succ]
  refine wpAnyH_take (i := 16) (v := ?_) rfl (by decide +kernel) (by decide +kernel) (by decide +kernel) (fun _ _ _ h => h) (Or.inl ⟨by rfl, ?_⟩) (by assumption) ?_
  rotate_left
  · intro w1 hSw; (try dsimp only at hSw); (try simp only [List.getElem_toArray, List.getElem_cons_zero, List.getElem_cons_succ]); go_simp; try with_reducible rfl
  try simp only [List.getElem_toArray, List.getElem_cons_zero, List.getElem_cons_succ, Act.put, List.setIfInBounds_toArray, List.set_cons_zero, List.set_cons_succ]
  refine wpAnyH_take (i := 17) (v := ?_) rfl (by decide +kernel) (by decide +kernel) (by decide +kernel) (fun _ _ _ h => h) (Or.inl ⟨by rfl, ?_⟩) (by assumption) ?_
  rotate_left
  · intro w1 hSw; (try dsimp only at hSw); (try simp only [List.getElem_toArray, List.getElem_cons_zero, List.getElem_cons_succ]); go_simp; try with_reducible rfl
  try simp only [List.getElem_toArray, List.getElem_cons_zero, List.getElem_cons_succ, Act.put, List.setIfInBounds_toArray, List.set_cons_zero, List.set_cons_succ]
  refine wpAnyH_take (i := 18) (v := ?_) rfl (by decide +kernel) (by decide +kernel) (by decide +kernel) (fun _ _ _ h => h) (Or.inl ⟨by rfl, ?_⟩) (by assumption) ?_
  rotate_left
  · intro w1 hSw; (try dsimp only at hSw); (try simp only [List.getElem_toArray, List.getElem_cons_zero, List.getElem_cons_succ]); go_simp; try with_reducible rfl
  try simp only [List.getElem_toArray, List.getElem_cons_zero, List.getElem_cons_succ, Act.put, List.setIfInBounds_toArray, List.set_cons_zero, List.set_cons_succ]
  refine wpAnyH_take (i := 21) (v := ?_) rfl (by decide +kernel) (by decide +kernel) (by decide +kernel) (fun _ _ _ h => h) (Or.inl ⟨by rfl, ?_⟩) (by assumption) ?_
  rotate_left
  · intro w1 hSw; (try dsimp only at hSw); (try simp only [List.getElem_toArray, List.getElem_cons_zero, List.getElem_cons_succ]); go_simp; try with_reducible rfl
  try simp only [List.getElem_toArray, List.getElem_cons_zero, List.getElem_cons_succ, Act.put, List.setIfInBounds_toArray, List.set_cons_zero, List.set_cons_succ]
  refine wpAnyH_take (i := 22) (v := ?_) rfl (by decide +kernel) (by decide +kernel) (by decide +kernel) (fun _ _ _ h => h) (Or.inl ⟨by rfl, ?_⟩) (by assumption) ?_
  rotate_left
  · intro w1 hSw; (try dsimp only at hSw); (try simp only [List.getElem_toArray, List.getElem_cons_zero, List.getElem_cons_succ]); go_simp; try with_reducible rfl
  try simp only [List.getElem_toArray, List.getElem_cons_zero, List.getElem_cons_succ, Act.put, List.setIfInBounds_toArray, List.set_cons_zero, List.set_cons_succ]
  refine wpAnyH_take (i := 23) (v := ?_) rfl (by decide +kernel) (by decide +kernel) (by decide +kernel) (fun _ _ _ h => h) (Or.inl ⟨by rfl, ?_⟩) (by assumption) ?_
  rotate_left
  · intro w1 hSw; (try dsimp only at hSw); (try simp only [List.getElem_toArray, List.getElem_cons_zero, List.getElem_cons_succ]); go_simp; try with_reducible rfl
  try simp only [List.getElem_toArray, List.getElem_cons_zero, List.getElem_cons_succ, Act.put, List.setIfInBounds_toArray, List.set_cons_zero, List.set_cons_succ]
  refine wpAnyH_ready (rs := [19]) (by decide +kernel) (by simp) ?_
  refine AllReadyH.cons rfl (fun K hK => ?_) AllReadyH.nil
  (try simp only [List.getElem_toArray, List.getElem_cons_zero, List.getElem_cons_succ])
  go_simp
  refine (cxy.out _).mono ?_
  rintro e wr ⟨rfl, hbr⟩
  have hb2 := Lib.hid (hb.out.trans (hbr.mono hs))
  clear hb hs
  have hb := hb2
  clear hb2
  have hs := hb.out.size
  have gg := Lib.hid (isN_of hbr gx.out)
  clear gx
  have gx := gg
  clear gg
  have gg := Lib.hid (isN_of hbr gy.out)
  clear gy
  have gy := gg
  clear gg
  have gg := Lib.hid (isN_of hbr gz.out)
  clear gz
  have gz := gg
  clear gg
  clear hH hbr cx0 cx1 cx2 cy0 cy1 cy2 cz0 cz1 cz2
  obtain ⟨cx0, cx1, cx2⟩ := gx.out.all
  obtain ⟨cy0, cy1, cy2⟩ := gy.out.all
  obtain ⟨cz0, cz1, cz2⟩ := gz.out.all
  dsimp only at cx0 cx1 cx2 cy0 cy1 cy2 cz0 cz1 cz2
  go_simp
  refine hK.out _ _ (by go_keep) (fun hH => ?_)
  clear hK K
  try simp only [List.getElem_toArray, List.getElem_cons_zero, List.getElem_cons_succ, Act.put, List.setIfInBounds_toArray, List.set_cons_zero, List.set_cons_succ]
  refine wpAnyH_take (i := 20) (v := ?_) rfl (by decide +kernel) (by decide +kernel) (by decide +kernel) (fun _ _ _ h => h) (Or.inl ⟨by rfl, ?_⟩) (by assumption) ?_
  rotate_left
  · intro w1 hSw; (try dsimp only at hSw); (try simp only [List.getElem_toArray, List.getElem_cons_zero, List.getElem_cons_succ]); go_simp; try with_reducible rfl
  try simp only [List.getElem_toArray, List.getElem_cons_zero, List.getElem_cons_succ, Act.put, List.setIfInBounds_toArray, List.set_cons_zero, List.set_cons_succ]
  refine wpAnyH_take (i := 24) (v := ?_) rfl (by decide +kernel) (by decide +kernel) (by decide +kernel) (fun _ _ _ h => h) (Or.inl ⟨by rfl, ?_⟩) (by assumption) ?_
  rotate_left
  · intro w1 hSw; (try dsimp only at hSw); (try simp only [List.getElem_toArray, List.getElem_cons_zero, List.getElem_cons_succ]); go_simp; try with_reducible rfl
  try simp only [List.getElem_toArray, List.getElem_cons_zero, List.getElem_cons_succ, Act.put, List.setIfInBounds_toArray, List.set_cons_zero, List.set_cons_succ]
  refine wpAnyH_take (i := 25) (v := ?_) rfl (by decide +kernel) (by decide +kernel) (by decide +kernel) (fun _ _ _ h => h) (Or.inl ⟨by rfl, ?_⟩) (by assumption) ?_
  rotate_left
  · intro w1 hSw; (try dsimp only at hSw); (try simp only [List.getElem_toArray, List.getElem_cons_zero, List.getElem_cons_succ]); go_simp; try with_reducible rfl
  try simp only [List.getElem_toArray, List.getElem_cons_zero, List.getElem_cons_succ, Act.put, List.setIfInBounds_toArray, List.set_cons_zero, List.set_cons_succ]
  refine wpAnyH_done (by decide +kernel) ?_ _
  clear hH
  go_wp2_with fail
  refine (ca.out _).mono ?_
  rintro e w8 ⟨rfl, hb8⟩
  replace gx := Lib.hid (isN_of hb8 gx.out)
  replace gy := Lib.hid (isN_of hb8 gy.out)
  replace gz := Lib.hid (isN_of hb8 gz.out)
  replace hb := Lib.hid (hb.out.trans (hb8.mono hs))
  clear hs hb8
  have hs := hb.out.size
  replace gx := Lib.hid (gx.out.alloc (oN ⟨An, Ah, Al⟩))
  replace gy := Lib.hid (gy.out.alloc (oN ⟨An, Ah, Al⟩))
  replace gz := Lib.hid (gz.out.alloc (oN ⟨An, Ah, Al⟩))
  have ga := Lib.hid (IsN.new w8 ⟨An, Ah, Al⟩)
  replace hb := Lib.hid (hb.out.alloc hs (oN ⟨An, Ah, Al⟩))
  clear hs
  have hs := hb.out.size
  clear cx0 cx1 cx2 cy0 cy1 cy2 cz0 cz1 cz2
  obtain ⟨cx0, cx1, cx2⟩ := gx.out.all
  obtain ⟨cy0, cy1, cy2⟩ := gy.out.all
  obtain ⟨cz0, cz1, cz2⟩ := gz.out.all
  obtain ⟨ca0, ca1, ca2⟩ := ga.out.all
  dsimp only at cx0 cx1 cx2 cy0 cy1 cy2 cz0 cz1 cz2 ca0 ca1 ca2
  go_wp2_with fail
  refine (cb.out _).mono ?_
  rintro e w9 ⟨rfl, hb9⟩
  replace gx := Lib.hid (isN_of hb9 gx.out)
  replace gy := Lib.hid (isN_of hb9 gy.out)
  replace gz := Lib.hid (isN_of hb9 gz.out)
  replace ga := Lib.hid (isN_of hb9 ga.out)
  replace hb := Lib.hid (hb.out.trans (hb9.mono hs))
  clear hs hb9
  have hs := hb.out.size
  replace gx := Lib.hid (gx.out.alloc (oN ⟨Cn, Ch, Cl⟩))
  replace gy := Lib.hid (gy.out.alloc (oN ⟨Cn, Ch, Cl⟩))
  replace gz := Lib.hid (gz.out.alloc (oN ⟨Cn, Ch, Cl⟩))
  replace ga := Lib.hid (ga.out.alloc (oN ⟨Cn, Ch, Cl⟩))
  have gb := Lib.hid (IsN.new w9 ⟨Cn, Ch, Cl⟩)
  replace hb := Lib.hid (hb.out.alloc hs (oN ⟨Cn, Ch, Cl⟩))
  clear hs
  have hs := hb.out.size
  clear cx0 cx1 cx2 cy0 cy1 cy2 cz0 cz1 cz2 ca0 ca1 ca2
  by_cases e1 : Ae = 0
  · by_cases e2 : Ce = 0
    · have e3 := law.out e1 e2
      subst e1 e2 e3
      replace hb := Lib.hid (below_drewed hb.out)
      clear hs
      have hs := hb.out.size
      obtain ⟨cx0, cx1, cx2⟩ := gx.out.all
      obtain ⟨cy0, cy1, cy2⟩ := gy.out.all
      obtain ⟨ca0, ca1, ca2⟩ := ga.out.all
      obtain ⟨cb0, cb1, cb2⟩ := gb.out.all
      dsimp only at cx0 cx1 cx2 cy0 cy1 cy2 ca0 ca1 ca2 cb0 cb1 cb2
      have mk0 := Lib.hid trivial
      have mk1 := Lib.hid trivial
      go_wp2_with fail
      go_region_held3 (fun w1 => w1.cell? ⟨w.heap.size, 0, none⟩ = some (.bool xn) ∧ w1.cell? ⟨w.heap.size, 1, none⟩ = some (.int .u64 xh) ∧ w1.cell? ⟨w.heap.size, 2, none⟩ = some (.int .u64 xl) ∧ w1.cell? ⟨w.heap.size + 1, 0, none⟩ = some (.bool xn) ∧ w1.cell? ⟨w.heap.size + 1, 1, none⟩ = some (.int .u64 xh) ∧ w1.cell? ⟨w.heap.size + 1, 2, none⟩ = some (.int .u64 xl) ∧ w1.cell? ⟨w8.heap.size, 0, none⟩ = some (.bool An) ∧ w1.cell? ⟨w8.heap.size, 1, none⟩ = some (.int .u64 Ah) ∧ w1.cell? ⟨w8.heap.size, 2, none⟩ = some (.int .u64 Al) ∧ w1.cell? ⟨w9.heap.size, 0, none⟩ = some (.bool Cn) ∧ w1.cell? ⟨w9.heap.size, 1, none⟩ = some (.int .u64 Ch) ∧ w1.cell? ⟨w9.heap.size, 2, none⟩ = some (.int .u64 Cl)) (go_keep)
        (first
          | (go_at_call 13
             clear mk0
             refine (cab.out _).mono ?_
             rintro e wr ⟨rfl, hbr⟩
             have hb2 := Lib.hid (hb.out.trans (hbr.mono hs))
             clear hb hs
             have hb := hb2
             clear hb2
             have hs := hb.out.size
             have gg := Lib.hid (isN_of hbr gx.out)
             clear gx
             have gx := gg
             clear gg
             have gg := Lib.hid (isN_of hbr gy.out)
             clear gy
             have gy := gg
             clear gg
             have gg := Lib.hid (isN_of hbr gz.out)
             clear gz
             have gz := gg
             clear gg
             have gg := Lib.hid (isN_of hbr ga.out)
             clear ga
             have ga := gg
             clear gg
             have gg := Lib.hid (isN_of hbr gb.out)
             clear gb
             have gb := gg
             clear gg
             clear hbr cx0 cx1 cx2 cy0 cy1 cy2 ca0 ca1 ca2 cb0 cb1 cb2
             obtain ⟨cx0, cx1, cx2⟩ := gx.out.all
             obtain ⟨cy0, cy1, cy2⟩ := gy.out.all
             obtain ⟨ca0, ca1, ca2⟩ := ga.out.all
             obtain ⟨cb0, cb1, cb2⟩ := gb.out.all
             dsimp only at cx0 cx1 cx2 cy0 cy1 cy2 ca0 ca1 ca2 cb0 cb1 cb2)
          | (go_at_call 13
             clear mk1
             refine (cxy.out _).mono ?_
             rintro e wr ⟨rfl, hbr⟩
             have hb2 := Lib.hid (hb.out.trans (hbr.mono hs))
             clear hb hs
             have hb := hb2
             clear hb2
             have hs := hb.out.size
             have gg := Lib.hid (isN_of hbr gx.out)
             clear gx
             have gx := gg
             clear gg
             have gg := Lib.hid (isN_of hbr gy.out)
             clear gy
             have gy := gg
             clear gg
             have gg := Lib.hid (isN_of hbr gz.out)
             clear gz
             have gz := gg
             clear gg
             have gg := Lib.hid (isN_of hbr ga.out)
             clear ga
             have ga := gg
             clear gg
             have gg := Lib.hid (isN_of hbr gb.out)
             clear gb
             have gb := gg
             clear gg
             clear hbr cx0 cx1 cx2 cy0 cy1 cy2 ca0 ca1 ca2 cb0 cb1 cb2
             obtain ⟨cx0, cx1, cx2⟩ := gx.out.all
             obtain ⟨cy0, cy1, cy2⟩ := gy.out.all
             obtain ⟨ca0, ca1, ca2⟩ := ga.out.all
             obtain ⟨cb0, cb1, cb2⟩ := gb.out.all
             dsimp only at cx0 cx1 cx2 cy0 cy1 cy2 ca0 ca1 ca2 cb0 cb1 cb2))
      go_wp2_with fail
      go_ret
      exact ⟨rfl, hb.out⟩
    · have f2 : (Ce != 0) = true := by simpa using e2
      have f3 : (Ce == 0) = false := by simpa using e2
      subst e1
      go_wp2_with fail
      go_quiet (fail)
      go_wp2_with fail
      go_ret
      exact ⟨rfl, hb.out.trans ⟨rfl, rfl, rfl, Nat.le_refl _, fun _ _ => rfl⟩⟩
  · have f1 : (Ae != 0) = true := by simpa using e1
    have f0 : (Ae == 0) = false := by simpa using e1
    go_wp2_with fail
    go_quiet (fail)
    go_wp2_with fail
    go_ret
    exact ⟨rfl, hb.out.trans ⟨rfl, rfl, rfl, Nat.le_refl _, fun _ _ => rfl⟩⟩
end Go.Proofs.YtbfigpollacngaaDoor
