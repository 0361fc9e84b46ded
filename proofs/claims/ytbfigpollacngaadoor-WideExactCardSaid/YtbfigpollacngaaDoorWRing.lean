/- the walk over WideRing -/
import Derived.Test.YtbfigpollacngaaDoorWvG
import Derived.Test.YtbfigpollacngaaDoorWvM
import Derived.Deep.Cut
namespace Go.Proofs.YtbfigpollacngaaDoor
open Go.RowKit
open Rf
open Wide

theorem zero_ok : zero.Ok := by unfold zero WI.Ok; decide
theorem R_ok (v : Int) : (R v).1.Ok := by
  unfold R
  split
  · exact mk_ok _ ‹_›
  · exact zero_ok
theorem addF_ok (x y : WI) : (addF x y).1.Ok := by
  unfold addF
  split
  · exact R_ok _
  · exact zero_ok
theorem mulF_ok (x y : WI) : (mulF x y).1.Ok := by
  unfold mulF
  split
  · exact R_ok _
  · exact zero_ok
theorem addF_comm (x y : WI) : addF x y = addF y x := by unfold addF; rw [Bool.and_comm, Int.add_comm]
theorem mulF_comm (x y : WI) : mulF x y = mulF y x := by unfold mulF; rw [Bool.and_comm, Int.mul_comm]
/-- where there is no error, what is there -/
theorem R_ok0 {v : Int} (h : (R v).2 = 0) : In v = true ∧ (R v).1 = mk v := by
  by_cases hi : In v = true
  · rw [R_in hi]; exact ⟨hi, rfl⟩
  · rw [R_out hi] at h; cases h
theorem addF_ok0 {x y : WI} (h : (addF x y).2 = 0) : x.form = true ∧ y.form = true ∧ In (x.val + y.val) = true ∧ (addF x y).1 = mk (x.val + y.val) := by
  unfold addF at *
  by_cases hf : (x.form && y.form) = true
  · rw [if_pos hf] at h ⊢
    rw [Bool.and_eq_true] at hf
    exact ⟨hf.1, hf.2, R_ok0 h⟩
  · rw [if_neg hf] at h; cases h
theorem mulF_ok0 {x y : WI} (h : (mulF x y).2 = 0) : x.form = true ∧ y.form = true ∧ In (x.val * y.val) = true ∧ (mulF x y).1 = mk (x.val * y.val) := by
  unfold mulF at *
  by_cases hf : (x.form && y.form) = true
  · rw [if_pos hf] at h ⊢
    rw [Bool.and_eq_true] at hf
    exact ⟨hf.1, hf.2, R_ok0 h⟩
  · rw [if_neg hf] at h; cases h
theorem addF_mk {a b : Int} (ha : In a = true) (hb : In b = true) : addF (mk a) (mk b) = R (a + b) := by
  unfold addF
  rw [mk_form a ha, mk_form b hb, mk_val, mk_val]
  rfl
theorem ring_law (x y z : WI) (e : (addF x y).2 = 0) (i : (mulF (addF x y).1 z).2 = 0) (j : (mulF x z).2 = 0) (k : (mulF y z).2 = 0) :
    (addF (mulF x z).1 (mulF y z).1).2 = 0 ∧ (addF (mulF x z).1 (mulF y z).1).1 = (mulF (addF x y).1 z).1 := by
  obtain ⟨_, _, i1, e1⟩ := addF_ok0 e
  obtain ⟨_, _, i2, e2⟩ := mulF_ok0 i
  obtain ⟨_, _, i3, e3⟩ := mulF_ok0 j
  obtain ⟨_, _, i4, e4⟩ := mulF_ok0 k
  rw [e1, mk_val] at i2
  rw [e2, e1, mk_val, e3, e4, addF_mk i3 i4, ← Int.add_mul, R_in i2]
  exact ⟨rfl, rfl⟩

set_option maxRecDepth 10000 in
set_option maxHeartbeats 8000000 in
theorem wideRing_any (x : WI) (ho : x.Ok) (y : WI) (hp : y.Ok) (z : WI) (hq : z.Ok) (w : World) :
    Calls Tryd.prog 3 #[wv x, wv y, wv z] w fun e w' => e = .returned (.bool true) ∧ Below w.heap.size w w' := by
  have ca := add_c x y ho hp
  have cb := add_c y x hp ho
  rw [← addF_comm] at cb
  have cc := mul_c x y ho hp
  have cd := mul_c y x hp ho
  rw [← mulF_comm] at cd
  have cp := mul_c (addF x y).1 z (addF_ok x y) hq
  have cq := mul_c x z ho hq
  have cr := mul_c y z hp hq
  have cs := add_c (mulF x z).1 (mulF y z).1 (mulF_ok x z) (mulF_ok y z)
  have law := ring_law x y z
  have cw := awake_c
  generalize addF (mulF x z).1 (mulF y z).1 = S at *
  generalize mulF (addF x y).1 z = P at *
  generalize mulF x z = Q at *
  generalize mulF y z = T at *
  generalize addF x y = A at *
  generalize mulF x y = C at *
  clear ho hp hq
  obtain ⟨⟨An, Ah, Al⟩, Ae⟩ := A
  obtain ⟨⟨Cn, Ch, Cl⟩, Ce⟩ := C
  obtain ⟨⟨Pn, Ph, Pl⟩, Pe⟩ := P
  obtain ⟨⟨Qn, Qh, Ql⟩, Qe⟩ := Q
  obtain ⟨⟨Tn, Th, Tl⟩, Te⟩ := T
  obtain ⟨⟨Sn, Sh, Sl⟩, Se⟩ := S
  obtain ⟨xn, xh, xl⟩ := x
  obtain ⟨yn, yh, yl⟩ := y
  obtain ⟨zn, zh, zl⟩ := z
  unfold wv at *
  dsimp only at *
  simp only [WI.mk.injEq] at law
  replace law := Lib.hid law
  replace ca := Lib.hid ca
  replace cb := Lib.hid cb
  replace cc := Lib.hid cc
  replace cd := Lib.hid cd
  replace cp := Lib.hid cp
  replace cq := Lib.hid cq
  replace cr := Lib.hid cr
  replace cs := Lib.hid cs
  replace cw := Lib.hid cw
  go_enter Tryd.func3, Tryd.ntmps3
  go_wp2_with fail
  refine (cw.out _).mono ?_
  rintro e w1 ⟨rfl, hb1⟩
  obtain ⟨gx, gy, gz, hb⟩ := three_new (x := ⟨xn, xh, xl⟩) (y := ⟨yn, yh, yl⟩) (z := ⟨zn, zh, zl⟩) hb1
  have hs := hb.size
  clear hb1
  replace gx := Lib.hid gx
  replace gy := Lib.hid gy
  replace gz := Lib.hid gz
  replace hb := Lib.hid hb
  obtain ⟨cx0, cx1, cx2⟩ := gx.out.all
  obtain ⟨cy0, cy1, cy2⟩ := gy.out.all
  dsimp only at cx0 cx1 cx2 cy0 cy1 cy2
  go_wp2_with fail
  refine (ca.out _).mono ?_
  rintro e w2 ⟨rfl, hb2⟩
  replace gx := Lib.hid (isN_of hb2 gx.out)
  replace gy := Lib.hid (isN_of hb2 gy.out)
  replace gz := Lib.hid (isN_of hb2 gz.out)
  replace hb := Lib.hid (hb.out.trans (hb2.mono hs))
  clear hs hb2
  have hs := hb.out.size
  replace gx := Lib.hid (gx.out.alloc (oN ⟨An, Ah, Al⟩))
  replace gy := Lib.hid (gy.out.alloc (oN ⟨An, Ah, Al⟩))
  replace gz := Lib.hid (gz.out.alloc (oN ⟨An, Ah, Al⟩))
  have ga := Lib.hid (IsN.new w2 ⟨An, Ah, Al⟩)
  replace hb := Lib.hid (hb.out.alloc hs (oN ⟨An, Ah, Al⟩))
  clear hs
  have hs := hb.out.size
  clear cx0 cx1 cx2 cy0 cy1 cy2
  obtain ⟨cx0, cx1, cx2⟩ := gx.out.all
  obtain ⟨cy0, cy1, cy2⟩ := gy.out.all
  dsimp only at cx0 cx1 cx2 cy0 cy1 cy2
  go_wp2_with fail
  refine (cb.out _).mono ?_
  rintro e w3 ⟨rfl, hb3⟩
  replace gx := Lib.hid (isN_of hb3 gx.out)
  replace gy := Lib.hid (isN_of hb3 gy.out)
  replace gz := Lib.hid (isN_of hb3 gz.out)
  replace ga := Lib.hid (isN_of hb3 ga.out)
  replace hb := Lib.hid (hb.out.trans (hb3.mono hs))
  clear hs hb3
  have hs := hb.out.size
  replace gx := Lib.hid (gx.out.alloc (oN ⟨An, Ah, Al⟩))
  replace gy := Lib.hid (gy.out.alloc (oN ⟨An, Ah, Al⟩))
  replace gz := Lib.hid (gz.out.alloc (oN ⟨An, Ah, Al⟩))
  replace ga := Lib.hid (ga.out.alloc (oN ⟨An, Ah, Al⟩))
  have gb := Lib.hid (IsN.new w3 ⟨An, Ah, Al⟩)
  replace hb := Lib.hid (hb.out.alloc hs (oN ⟨An, Ah, Al⟩))
  clear hs
  have hs := hb.out.size
  clear cx0 cx1 cx2 cy0 cy1 cy2
  obtain ⟨cx0, cx1, cx2⟩ := gx.out.all
  obtain ⟨cy0, cy1, cy2⟩ := gy.out.all
  dsimp only at cx0 cx1 cx2 cy0 cy1 cy2
  go_wp2_with fail
  refine (cc.out _).mono ?_
  rintro e w4 ⟨rfl, hb4⟩
  replace gx := Lib.hid (isN_of hb4 gx.out)
  replace gy := Lib.hid (isN_of hb4 gy.out)
  replace gz := Lib.hid (isN_of hb4 gz.out)
  replace ga := Lib.hid (isN_of hb4 ga.out)
  replace gb := Lib.hid (isN_of hb4 gb.out)
  replace hb := Lib.hid (hb.out.trans (hb4.mono hs))
  clear hs hb4
  have hs := hb.out.size
  replace gx := Lib.hid (gx.out.alloc (oN ⟨Cn, Ch, Cl⟩))
  replace gy := Lib.hid (gy.out.alloc (oN ⟨Cn, Ch, Cl⟩))
  replace gz := Lib.hid (gz.out.alloc (oN ⟨Cn, Ch, Cl⟩))
  replace ga := Lib.hid (ga.out.alloc (oN ⟨Cn, Ch, Cl⟩))
  replace gb := Lib.hid (gb.out.alloc (oN ⟨Cn, Ch, Cl⟩))
  have gc := Lib.hid (IsN.new w4 ⟨Cn, Ch, Cl⟩)
  replace hb := Lib.hid (hb.out.alloc hs (oN ⟨Cn, Ch, Cl⟩))
  clear hs
  have hs := hb.out.size
  clear cx0 cx1 cx2 cy0 cy1 cy2
  obtain ⟨cx0, cx1, cx2⟩ := gx.out.all
  obtain ⟨cy0, cy1, cy2⟩ := gy.out.all
  dsimp only at cx0 cx1 cx2 cy0 cy1 cy2
  go_wp2_with fail
  refine (cd.out _).mono ?_
  rintro e w5 ⟨rfl, hb5⟩
  replace gx := Lib.hid (isN_of hb5 gx.out)
  replace gy := Lib.hid (isN_of hb5 gy.out)
  replace gz := Lib.hid (isN_of hb5 gz.out)
  replace ga := Lib.hid (isN_of hb5 ga.out)
  replace gb := Lib.hid (isN_of hb5 gb.out)
  replace gc := Lib.hid (isN_of hb5 gc.out)
  replace hb := Lib.hid (hb.out.trans (hb5.mono hs))
  clear hs hb5
  have hs := hb.out.size
  replace gx := Lib.hid (gx.out.alloc (oN ⟨Cn, Ch, Cl⟩))
  replace gy := Lib.hid (gy.out.alloc (oN ⟨Cn, Ch, Cl⟩))
  replace gz := Lib.hid (gz.out.alloc (oN ⟨Cn, Ch, Cl⟩))
  replace ga := Lib.hid (ga.out.alloc (oN ⟨Cn, Ch, Cl⟩))
  replace gb := Lib.hid (gb.out.alloc (oN ⟨Cn, Ch, Cl⟩))
  replace gc := Lib.hid (gc.out.alloc (oN ⟨Cn, Ch, Cl⟩))
  have gd := Lib.hid (IsN.new w5 ⟨Cn, Ch, Cl⟩)
  replace hb := Lib.hid (hb.out.alloc hs (oN ⟨Cn, Ch, Cl⟩))
  clear hs
  have hs := hb.out.size
  clear cx0 cx1 cx2 cy0 cy1 cy2
  obtain ⟨ca0, ca1, ca2⟩ := ga.out.all
  obtain ⟨cb0, cb1, cb2⟩ := gb.out.all
  obtain ⟨cc0, cc1, cc2⟩ := gc.out.all
  obtain ⟨cd0, cd1, cd2⟩ := gd.out.all
  obtain ⟨cz0, cz1, cz2⟩ := gz.out.all
  dsimp only at ca0 ca1 ca2 cb0 cb1 cb2 cc0 cc1 cc2 cd0 cd1 cd2 cz0 cz1 cz2
  go_wp2_with fail
  refine (cp.out _).mono ?_
  rintro e w6 ⟨rfl, hb6⟩
  replace gx := Lib.hid (isN_of hb6 gx.out)
  replace gy := Lib.hid (isN_of hb6 gy.out)
  replace gz := Lib.hid (isN_of hb6 gz.out)
  replace ga := Lib.hid (isN_of hb6 ga.out)
  replace gb := Lib.hid (isN_of hb6 gb.out)
  replace gc := Lib.hid (isN_of hb6 gc.out)
  replace gd := Lib.hid (isN_of hb6 gd.out)
  replace hb := Lib.hid (hb.out.trans (hb6.mono hs))
  clear hs hb6
  have hs := hb.out.size
  replace gx := Lib.hid (gx.out.alloc (oN ⟨Pn, Ph, Pl⟩))
  replace gy := Lib.hid (gy.out.alloc (oN ⟨Pn, Ph, Pl⟩))
  replace gz := Lib.hid (gz.out.alloc (oN ⟨Pn, Ph, Pl⟩))
  replace ga := Lib.hid (ga.out.alloc (oN ⟨Pn, Ph, Pl⟩))
  replace gb := Lib.hid (gb.out.alloc (oN ⟨Pn, Ph, Pl⟩))
  replace gc := Lib.hid (gc.out.alloc (oN ⟨Pn, Ph, Pl⟩))
  replace gd := Lib.hid (gd.out.alloc (oN ⟨Pn, Ph, Pl⟩))
  have gp := Lib.hid (IsN.new w6 ⟨Pn, Ph, Pl⟩)
  replace hb := Lib.hid (hb.out.alloc hs (oN ⟨Pn, Ph, Pl⟩))
  clear hs
  have hs := hb.out.size
  clear ca0 ca1 ca2 cb0 cb1 cb2 cc0 cc1 cc2 cd0 cd1 cd2 cz0 cz1 cz2
  obtain ⟨cx0, cx1, cx2⟩ := gx.out.all
  obtain ⟨cz0, cz1, cz2⟩ := gz.out.all
  dsimp only at cx0 cx1 cx2 cz0 cz1 cz2
  go_wp2_with fail
  refine (cq.out _).mono ?_
  rintro e w7 ⟨rfl, hb7⟩
  replace gx := Lib.hid (isN_of hb7 gx.out)
  replace gy := Lib.hid (isN_of hb7 gy.out)
  replace gz := Lib.hid (isN_of hb7 gz.out)
  replace ga := Lib.hid (isN_of hb7 ga.out)
  replace gb := Lib.hid (isN_of hb7 gb.out)
  replace gc := Lib.hid (isN_of hb7 gc.out)
  replace gd := Lib.hid (isN_of hb7 gd.out)
  replace gp := Lib.hid (isN_of hb7 gp.out)
  replace hb := Lib.hid (hb.out.trans (hb7.mono hs))
  clear hs hb7
  have hs := hb.out.size
  replace gx := Lib.hid (gx.out.alloc (oN ⟨Qn, Qh, Ql⟩))
  replace gy := Lib.hid (gy.out.alloc (oN ⟨Qn, Qh, Ql⟩))
  replace gz := Lib.hid (gz.out.alloc (oN ⟨Qn, Qh, Ql⟩))
  replace ga := Lib.hid (ga.out.alloc (oN ⟨Qn, Qh, Ql⟩))
  replace gb := Lib.hid (gb.out.alloc (oN ⟨Qn, Qh, Ql⟩))
  replace gc := Lib.hid (gc.out.alloc (oN ⟨Qn, Qh, Ql⟩))
  replace gd := Lib.hid (gd.out.alloc (oN ⟨Qn, Qh, Ql⟩))
  replace gp := Lib.hid (gp.out.alloc (oN ⟨Qn, Qh, Ql⟩))
  have gq := Lib.hid (IsN.new w7 ⟨Qn, Qh, Ql⟩)
  replace hb := Lib.hid (hb.out.alloc hs (oN ⟨Qn, Qh, Ql⟩))
  clear hs
  have hs := hb.out.size
  clear cx0 cx1 cx2 cz0 cz1 cz2
  obtain ⟨cy0, cy1, cy2⟩ := gy.out.all
  obtain ⟨cz0, cz1, cz2⟩ := gz.out.all
  dsimp only at cy0 cy1 cy2 cz0 cz1 cz2
  go_wp2_with fail
  refine (cr.out _).mono ?_
  rintro e w8 ⟨rfl, hb8⟩
  replace gx := Lib.hid (isN_of hb8 gx.out)
  replace gy := Lib.hid (isN_of hb8 gy.out)
  replace gz := Lib.hid (isN_of hb8 gz.out)
  replace ga := Lib.hid (isN_of hb8 ga.out)
  replace gb := Lib.hid (isN_of hb8 gb.out)
  replace gc := Lib.hid (isN_of hb8 gc.out)
  replace gd := Lib.hid (isN_of hb8 gd.out)
  replace gp := Lib.hid (isN_of hb8 gp.out)
  replace gq := Lib.hid (isN_of hb8 gq.out)
  replace hb := Lib.hid (hb.out.trans (hb8.mono hs))
  clear hs hb8
  have hs := hb.out.size
  replace gx := Lib.hid (gx.out.alloc (oN ⟨Tn, Th, Tl⟩))
  replace gy := Lib.hid (gy.out.alloc (oN ⟨Tn, Th, Tl⟩))
  replace gz := Lib.hid (gz.out.alloc (oN ⟨Tn, Th, Tl⟩))
  replace ga := Lib.hid (ga.out.alloc (oN ⟨Tn, Th, Tl⟩))
  replace gb := Lib.hid (gb.out.alloc (oN ⟨Tn, Th, Tl⟩))
  replace gc := Lib.hid (gc.out.alloc (oN ⟨Tn, Th, Tl⟩))
  replace gd := Lib.hid (gd.out.alloc (oN ⟨Tn, Th, Tl⟩))
  replace gp := Lib.hid (gp.out.alloc (oN ⟨Tn, Th, Tl⟩))
  replace gq := Lib.hid (gq.out.alloc (oN ⟨Tn, Th, Tl⟩))
  have gr := Lib.hid (IsN.new w8 ⟨Tn, Th, Tl⟩)
  replace hb := Lib.hid (hb.out.alloc hs (oN ⟨Tn, Th, Tl⟩))
  clear hs
  have hs := hb.out.size
  clear cy0 cy1 cy2 cz0 cz1 cz2
  obtain ⟨cq0, cq1, cq2⟩ := gq.out.all
  obtain ⟨cr0, cr1, cr2⟩ := gr.out.all
  dsimp only at cq0 cq1 cq2 cr0 cr1 cr2
  go_wp2_with fail
  refine (cs.out _).mono ?_
  rintro e w9 ⟨rfl, hb9⟩
  replace gx := Lib.hid (isN_of hb9 gx.out)
  replace gy := Lib.hid (isN_of hb9 gy.out)
  replace gz := Lib.hid (isN_of hb9 gz.out)
  replace ga := Lib.hid (isN_of hb9 ga.out)
  replace gb := Lib.hid (isN_of hb9 gb.out)
  replace gc := Lib.hid (isN_of hb9 gc.out)
  replace gd := Lib.hid (isN_of hb9 gd.out)
  replace gp := Lib.hid (isN_of hb9 gp.out)
  replace gq := Lib.hid (isN_of hb9 gq.out)
  replace gr := Lib.hid (isN_of hb9 gr.out)
  replace hb := Lib.hid (hb.out.trans (hb9.mono hs))
  clear hs hb9
  have hs := hb.out.size
  replace gx := Lib.hid (gx.out.alloc (oN ⟨Sn, Sh, Sl⟩))
  replace gy := Lib.hid (gy.out.alloc (oN ⟨Sn, Sh, Sl⟩))
  replace gz := Lib.hid (gz.out.alloc (oN ⟨Sn, Sh, Sl⟩))
  replace ga := Lib.hid (ga.out.alloc (oN ⟨Sn, Sh, Sl⟩))
  replace gb := Lib.hid (gb.out.alloc (oN ⟨Sn, Sh, Sl⟩))
  replace gc := Lib.hid (gc.out.alloc (oN ⟨Sn, Sh, Sl⟩))
  replace gd := Lib.hid (gd.out.alloc (oN ⟨Sn, Sh, Sl⟩))
  replace gp := Lib.hid (gp.out.alloc (oN ⟨Sn, Sh, Sl⟩))
  replace gq := Lib.hid (gq.out.alloc (oN ⟨Sn, Sh, Sl⟩))
  replace gr := Lib.hid (gr.out.alloc (oN ⟨Sn, Sh, Sl⟩))
  have gs := Lib.hid (IsN.new w9 ⟨Sn, Sh, Sl⟩)
  replace hb := Lib.hid (hb.out.alloc hs (oN ⟨Sn, Sh, Sl⟩))
  clear hs
  have hs := hb.out.size
  clear cq0 cq1 cq2 cr0 cr1 cr2
  obtain ⟨cs0, cs1, cs2⟩ := gs.out.all
  obtain ⟨cp0, cp1, cp2⟩ := gp.out.all
  dsimp only at cs0 cs1 cs2 cp0 cp1 cp2
  clear gx gy gz ga gb gc gd gp gq gr gs hs
  by_cases e1 : Ae = 0
  · by_cases e2 : Pe = 0
    · by_cases e3 : Qe = 0
      · by_cases e4 : Te = 0
        · obtain ⟨e5, e6, e7, e8⟩ := law.out e1 e2 e3 e4
          subst e1 e2 e3 e4 e5 e6 e7 e8
          go_wp2_with fail
          go_ret
          exact ⟨rfl, hb.out⟩
        · have f4 : (Te != 0) = true := by simpa using e4
          subst e1 e2 e3
          go_wp2_with fail
          go_ret
          exact ⟨rfl, hb.out⟩
      · have f3 : (Qe != 0) = true := by simpa using e3
        subst e1 e2
        go_wp2_with fail
        go_ret
        exact ⟨rfl, hb.out⟩
    · have f2 : (Pe != 0) = true := by simpa using e2
      subst e1
      go_wp2_with fail
      go_ret
      exact ⟨rfl, hb.out⟩
  · have f1 : (Ae != 0) = true := by simpa using e1
    go_wp2_with fail
    go_ret
    exact ⟨rfl, hb.out⟩
end Go.Proofs.YtbfigpollacngaaDoor
