/- the walk over FieldBack -/
import Derived.Test.YtbfigpollacngaaFdOl
namespace Go.Proofs.Ytbfigpollacngaa
open Go.RowKit
open Rf
open Wide
attribute [local go_sem ↓] Go.wp_at_zero Go.wp_at_succ

set_option maxRecDepth 100000 in
set_option maxHeartbeats 8000000 in
theorem fieldBack_0 (k : Int) (x y : WI) (cs : Ret 15 #[.int .i64 k] (.int .i64 0)) (cf : Ret 21 #[.int .i64 k, wv x] (.bool false)) (w : World) :
    Calls Try.prog 5 #[.int .i64 k, wv x, wv y] w fun e w' => e = .returned (.bool true) ∧ Below w.heap.size w w' := by
  obtain ⟨xn, xh, xl⟩ := x
  obtain ⟨yn, yh, yl⟩ := y
  unfold wv at *
  dsimp only at *
  go_enter Try.func5, Try.ntmps5
  go_wp2_with fail
  refine (awake_c.on _).mono ?_
  rintro e w1 ⟨rfl, hb1⟩
  obtain ⟨gx, gy, hb⟩ := two_new (x := ⟨xn, xh, xl⟩) (y := ⟨yn, yh, yl⟩) hb1
  have hs := hb.size
  clear hb1
  replace gx := Lib.hid gx
  replace gy := Lib.hid gy
  replace hb := Lib.hid hb
  obtain ⟨cx0, cx1, cx2⟩ := gx.out.all
  dsimp only at cx0 cx1 cx2
  go_wp2_with fail
  refine (cs.on _).mono ?_
  rintro e w2 ⟨rfl, hb2⟩
  replace gx := Lib.hid (isN_of hb2 gx.out)
  replace gy := Lib.hid (isN_of hb2 gy.out)
  replace hb := Lib.hid (hb.out.trans (hb2.mono hs))
  clear hs hb2
  have hs := hb.out.size
  clear cx0 cx1 cx2
  obtain ⟨cx0, cx1, cx2⟩ := gx.out.all
  dsimp only at cx0 cx1 cx2
  go_wp2_with fail
  refine (cf.on _).mono ?_
  rintro e w3 ⟨rfl, hb3⟩
  replace gx := Lib.hid (isN_of hb3 gx.out)
  replace gy := Lib.hid (isN_of hb3 gy.out)
  replace hb := Lib.hid (hb.out.trans (hb3.mono hs))
  clear hs hb3
  have hs := hb.out.size
  clear cx0 cx1 cx2
  go_wp2_with fail
  go_ret
  exact ⟨rfl, hb.out⟩

set_option maxRecDepth 100000 in
set_option maxHeartbeats 8000000 in
theorem fieldBack_1 (k : Int) (x y A B G L U D : WI) (S T : ByteArray) (hs0 : ((S.size : Int) == 0) = false) (cs : Ret 15 #[.int .i64 k] (.int .i64 (S.size : Int)))
    (cA : Ret 25 #[.int .i64 k, wv x] (wv A)) (cB : Ret 25 #[.int .i64 k, wv y] (wv B))
    (pA : Ret 20 #[.int .i64 k, wv A] (.tuple #[.string S, .int .i64 0])) (pB : Ret 20 #[.int .i64 k, wv B] (.tuple #[.string T, .int .i64 0]))
    (gS : Ret 9 #[.int .i64 k, .string S] (.tuple #[wv A, .int .i64 0]))
    (heq : (A = B ∧ S = T) ∨ (A ≠ B ∧ (S.toList == T.toList) = false))
    (cg : Ret 18 #[.int .i64 k] (wv G)) (cl : Ret 17 #[.int .i64 k] (wv L)) (c1 : Ret 27 #[.int .i64 1] (wv ⟨false, 0, 1⟩))
    (cu : Ret 26 #[wv G, wv ⟨false, 0, 1⟩] (.tuple #[wv U, .int .i64 0])) (cd : Ret 28 #[wv L, wv ⟨false, 0, 1⟩] (.tuple #[wv D, .int .i64 0]))
    (fL : Ret 21 #[.int .i64 k, wv L] (.bool true)) (fG : Ret 21 #[.int .i64 k, wv G] (.bool true)) (fU : Ret 21 #[.int .i64 k, wv U] (.bool false)) (fD : Ret 21 #[.int .i64 k, wv D] (.bool false))
    (kU : Ret 25 #[.int .i64 k, wv U] (wv G)) (kD : Ret 25 #[.int .i64 k, wv D] (wv L)) (w : World) :
    Calls Try.prog 5 #[.int .i64 k, wv x, wv y] w fun e w' => e = .returned (.bool true) ∧ Below w.heap.size w w' := by
  obtain ⟨xn, xh, xl⟩ := x
  obtain ⟨yn, yh, yl⟩ := y
  obtain ⟨An, Ah, Al⟩ := A
  obtain ⟨Bn, Bh, Bl⟩ := B
  obtain ⟨Gn, Gh, Gl⟩ := G
  obtain ⟨Ln, Lh, Ll⟩ := L
  obtain ⟨Un, Uh, Ul⟩ := U
  obtain ⟨Dn, Dh, Dl⟩ := D
  unfold wv at cA cB pA pB gS cg cl c1 cu cd fL fG fU fD kU kD ⊢
  dsimp only at cA cB pA pB gS cg cl c1 cu cd fL fG fU fD kU kD ⊢
  replace heq := Lib.hid heq
  go_enter Try.func5, Try.ntmps5
  go_wp2_with fail
  refine (awake_c.on _).mono ?_
  rintro e w1 ⟨rfl, hb1⟩
  obtain ⟨gx, gy, hb⟩ := two_new (x := ⟨xn, xh, xl⟩) (y := ⟨yn, yh, yl⟩) hb1
  have hs := hb.size
  clear hb1
  replace gx := Lib.hid gx
  replace gy := Lib.hid gy
  replace hb := Lib.hid hb
  obtain ⟨cx0, cx1, cx2⟩ := gx.out.all
  dsimp only at cx0 cx1 cx2
  go_wp2_with fail
  refine (cs.on _).mono ?_
  rintro e w2 ⟨rfl, hb2⟩
  replace gx := Lib.hid (isN_of hb2 gx.out)
  replace gy := Lib.hid (isN_of hb2 gy.out)
  replace hb := Lib.hid (hb.out.trans (hb2.mono hs))
  clear hs hb2
  have hs := hb.out.size
  clear cx0 cx1 cx2
  obtain ⟨cx0, cx1, cx2⟩ := gx.out.all
  dsimp only at cx0 cx1 cx2
  go_wp2_with fail
  refine (cA.on _).mono ?_
  rintro e w3 ⟨rfl, hb3⟩
  replace gx := Lib.hid (isN_of hb3 gx.out)
  replace gy := Lib.hid (isN_of hb3 gy.out)
  replace hb := Lib.hid (hb.out.trans (hb3.mono hs))
  clear hs hb3
  have hs := hb.out.size
  replace gx := Lib.hid (gx.out.alloc (oN ⟨An, Ah, Al⟩))
  replace gy := Lib.hid (gy.out.alloc (oN ⟨An, Ah, Al⟩))
  have ga := Lib.hid (IsN.new w3 ⟨An, Ah, Al⟩)
  replace hb := Lib.hid (hb.out.alloc hs (oN ⟨An, Ah, Al⟩))
  clear hs
  have hs := hb.out.size
  clear cx0 cx1 cx2
  obtain ⟨cy0, cy1, cy2⟩ := gy.out.all
  dsimp only at cy0 cy1 cy2
  go_wp2_with fail
  refine (cB.on _).mono ?_
  rintro e w4 ⟨rfl, hb4⟩
  replace gx := Lib.hid (isN_of hb4 gx.out)
  replace gy := Lib.hid (isN_of hb4 gy.out)
  replace ga := Lib.hid (isN_of hb4 ga.out)
  replace hb := Lib.hid (hb.out.trans (hb4.mono hs))
  clear hs hb4
  have hs := hb.out.size
  replace gx := Lib.hid (gx.out.alloc (oN ⟨Bn, Bh, Bl⟩))
  replace gy := Lib.hid (gy.out.alloc (oN ⟨Bn, Bh, Bl⟩))
  replace ga := Lib.hid (ga.out.alloc (oN ⟨Bn, Bh, Bl⟩))
  have gb := Lib.hid (IsN.new w4 ⟨Bn, Bh, Bl⟩)
  replace hb := Lib.hid (hb.out.alloc hs (oN ⟨Bn, Bh, Bl⟩))
  clear hs
  have hs := hb.out.size
  clear cy0 cy1 cy2
  obtain ⟨ca0, ca1, ca2⟩ := ga.out.all
  dsimp only at ca0 ca1 ca2
  go_wp2_with fail
  refine (pA.on _).mono ?_
  rintro e w5 ⟨rfl, hb5⟩
  replace gx := Lib.hid (isN_of hb5 gx.out)
  replace gy := Lib.hid (isN_of hb5 gy.out)
  replace ga := Lib.hid (isN_of hb5 ga.out)
  replace gb := Lib.hid (isN_of hb5 gb.out)
  replace hb := Lib.hid (hb.out.trans (hb5.mono hs))
  clear hs hb5
  have hs := hb.out.size
  clear ca0 ca1 ca2
  obtain ⟨cb0, cb1, cb2⟩ := gb.out.all
  dsimp only at cb0 cb1 cb2
  go_wp2_with fail
  refine (pB.on _).mono ?_
  rintro e w6 ⟨rfl, hb6⟩
  replace gx := Lib.hid (isN_of hb6 gx.out)
  replace gy := Lib.hid (isN_of hb6 gy.out)
  replace ga := Lib.hid (isN_of hb6 ga.out)
  replace gb := Lib.hid (isN_of hb6 gb.out)
  replace hb := Lib.hid (hb.out.trans (hb6.mono hs))
  clear hs hb6
  have hs := hb.out.size
  clear cb0 cb1 cb2
  go_wp2_with fail
  refine (gS.on _).mono ?_
  rintro e w7 ⟨rfl, hb7⟩
  replace gx := Lib.hid (isN_of hb7 gx.out)
  replace gy := Lib.hid (isN_of hb7 gy.out)
  replace ga := Lib.hid (isN_of hb7 ga.out)
  replace gb := Lib.hid (isN_of hb7 gb.out)
  replace hb := Lib.hid (hb.out.trans (hb7.mono hs))
  clear hs hb7
  have hs := hb.out.size
  replace gx := Lib.hid (gx.out.alloc (oN ⟨An, Ah, Al⟩))
  replace gy := Lib.hid (gy.out.alloc (oN ⟨An, Ah, Al⟩))
  replace ga := Lib.hid (ga.out.alloc (oN ⟨An, Ah, Al⟩))
  replace gb := Lib.hid (gb.out.alloc (oN ⟨An, Ah, Al⟩))
  have gz := Lib.hid (IsN.new w7 ⟨An, Ah, Al⟩)
  replace hb := Lib.hid (hb.out.alloc hs (oN ⟨An, Ah, Al⟩))
  clear hs
  have hs := hb.out.size
  go_upto_region 10 with fail
  go_cut [82] (fun v0 wx => v0 = .bool false ∧ IsN wx (w.heap.size) ⟨xn, xh, xl⟩ ∧ IsN wx (w.heap.size + 1) ⟨yn, yh, yl⟩ ∧ IsN wx (w3.heap.size) ⟨An, Ah, Al⟩ ∧ IsN wx (w4.heap.size) ⟨Bn, Bh, Bl⟩ ∧ IsN wx (w7.heap.size) ⟨An, Ah, Al⟩ ∧ Below w.heap.size w wx)
  case first =>
    rcases heq.out with ⟨hAB, hST⟩ | ⟨hne, hst⟩
    · clear heq
      injection hAB with e1 e2 e3
      subst e1 e2 e3
      subst hST
      obtain ⟨cz0, cz1, cz2⟩ := gz.out.all
      obtain ⟨ca0, ca1, ca2⟩ := ga.out.all
      obtain ⟨cb0, cb1, cb2⟩ := gb.out.all
      dsimp only at cz0 cz1 cz2 ca0 ca1 ca2 cb0 cb1 cb2
      go_wp2_with fail
      refine (cs.on _).mono ?_
      rintro e w8 ⟨rfl, hb8⟩
      replace gx := Lib.hid (isN_of hb8 gx.out)
      replace gy := Lib.hid (isN_of hb8 gy.out)
      replace ga := Lib.hid (isN_of hb8 ga.out)
      replace gb := Lib.hid (isN_of hb8 gb.out)
      replace gz := Lib.hid (isN_of hb8 gz.out)
      replace hb := Lib.hid (hb.out.trans (hb8.mono hs))
      clear hs hb8
      have hs := hb.out.size
      clear cz0 cz1 cz2 ca0 ca1 ca2 cb0 cb1 cb2
      obtain ⟨cz0, cz1, cz2⟩ := gz.out.all
      obtain ⟨ca0, ca1, ca2⟩ := ga.out.all
      obtain ⟨cb0, cb1, cb2⟩ := gb.out.all
      dsimp only at cz0 cz1 cz2 ca0 ca1 ca2 cb0 cb1 cb2
      go_wp2_with fail
      go_meet
      exact ⟨rfl, gx.out, gy.out, ga.out, gb.out, gz.out, hb.out⟩
    · clear heq
      have hor : (An == Bn) = false ∨ (An = Bn ∧ (Ah == Bh) = false) ∨ (An = Bn ∧ Ah = Bh ∧ (Al == Bl) = false) := by
        by_cases e1 : An = Bn
        · by_cases e2 : Ah = Bh
          · exact .inr (.inr ⟨e1, e2, beq_eq_false_iff_ne.2 (fun e3 => hne (by rw [e1, e2, e3]))⟩)
          · exact .inr (.inl ⟨e1, beq_eq_false_iff_ne.2 e2⟩)
        · exact .inl (beq_eq_false_iff_ne.2 e1)
      clear hne
      rcases hor with h1 | ⟨rfl, h1⟩ | ⟨rfl, rfl, h1⟩
      · skip
        replace h1 := Lib.hid h1
        replace hst := Lib.hid hst
        obtain ⟨cz0, cz1, cz2⟩ := gz.out.all
        obtain ⟨ca0, ca1, ca2⟩ := ga.out.all
        obtain ⟨cb0, cb1, cb2⟩ := gb.out.all
        dsimp only at cz0 cz1 cz2 ca0 ca1 ca2 cb0 cb1 cb2
        go_wp2_with fail
        refine (cs.on _).mono ?_
        rintro e w8 ⟨rfl, hb8⟩
        replace gx := Lib.hid (isN_of hb8 gx.out)
        replace gy := Lib.hid (isN_of hb8 gy.out)
        replace ga := Lib.hid (isN_of hb8 ga.out)
        replace gb := Lib.hid (isN_of hb8 gb.out)
        replace gz := Lib.hid (isN_of hb8 gz.out)
        replace hb := Lib.hid (hb.out.trans (hb8.mono hs))
        clear hs hb8
        have hs := hb.out.size
        clear cz0 cz1 cz2 ca0 ca1 ca2 cb0 cb1 cb2
        obtain ⟨cz0, cz1, cz2⟩ := gz.out.all
        obtain ⟨ca0, ca1, ca2⟩ := ga.out.all
        obtain ⟨cb0, cb1, cb2⟩ := gb.out.all
        dsimp only at cz0 cz1 cz2 ca0 ca1 ca2 cb0 cb1 cb2
        replace h1 := h1.out
        replace hst := hst.out
        go_wp2_with fail
        go_meet
        exact ⟨rfl, gx.out, gy.out, ga.out, gb.out, gz.out, hb.out⟩
      · skip
        replace h1 := Lib.hid h1
        replace hst := Lib.hid hst
        obtain ⟨cz0, cz1, cz2⟩ := gz.out.all
        obtain ⟨ca0, ca1, ca2⟩ := ga.out.all
        obtain ⟨cb0, cb1, cb2⟩ := gb.out.all
        dsimp only at cz0 cz1 cz2 ca0 ca1 ca2 cb0 cb1 cb2
        go_wp2_with fail
        refine (cs.on _).mono ?_
        rintro e w8 ⟨rfl, hb8⟩
        replace gx := Lib.hid (isN_of hb8 gx.out)
        replace gy := Lib.hid (isN_of hb8 gy.out)
        replace ga := Lib.hid (isN_of hb8 ga.out)
        replace gb := Lib.hid (isN_of hb8 gb.out)
        replace gz := Lib.hid (isN_of hb8 gz.out)
        replace hb := Lib.hid (hb.out.trans (hb8.mono hs))
        clear hs hb8
        have hs := hb.out.size
        clear cz0 cz1 cz2 ca0 ca1 ca2 cb0 cb1 cb2
        obtain ⟨cz0, cz1, cz2⟩ := gz.out.all
        obtain ⟨ca0, ca1, ca2⟩ := ga.out.all
        obtain ⟨cb0, cb1, cb2⟩ := gb.out.all
        dsimp only at cz0 cz1 cz2 ca0 ca1 ca2 cb0 cb1 cb2
        replace h1 := h1.out
        replace hst := hst.out
        go_wp2_with fail
        go_meet
        exact ⟨rfl, gx.out, gy.out, ga.out, gb.out, gz.out, hb.out⟩
      · skip
        replace h1 := Lib.hid h1
        replace hst := Lib.hid hst
        obtain ⟨cz0, cz1, cz2⟩ := gz.out.all
        obtain ⟨ca0, ca1, ca2⟩ := ga.out.all
        obtain ⟨cb0, cb1, cb2⟩ := gb.out.all
        dsimp only at cz0 cz1 cz2 ca0 ca1 ca2 cb0 cb1 cb2
        go_wp2_with fail
        refine (cs.on _).mono ?_
        rintro e w8 ⟨rfl, hb8⟩
        replace gx := Lib.hid (isN_of hb8 gx.out)
        replace gy := Lib.hid (isN_of hb8 gy.out)
        replace ga := Lib.hid (isN_of hb8 ga.out)
        replace gb := Lib.hid (isN_of hb8 gb.out)
        replace gz := Lib.hid (isN_of hb8 gz.out)
        replace hb := Lib.hid (hb.out.trans (hb8.mono hs))
        clear hs hb8
        have hs := hb.out.size
        clear cz0 cz1 cz2 ca0 ca1 ca2 cb0 cb1 cb2
        obtain ⟨cz0, cz1, cz2⟩ := gz.out.all
        obtain ⟨ca0, ca1, ca2⟩ := ga.out.all
        obtain ⟨cb0, cb1, cb2⟩ := gb.out.all
        dsimp only at cz0 cz1 cz2 ca0 ca1 ca2 cb0 cb1 cb2
        replace h1 := h1.out
        replace hst := hst.out
        go_wp2_with fail
        go_meet
        exact ⟨rfl, gx.out, gy.out, ga.out, gb.out, gz.out, hb.out⟩
  obtain ⟨rfl, gx0, gy0, ga0, gb0, gz0, hb0⟩ := hcut
  clear hs hb gx gy ga gb gz
  have gx := Lib.hid gx0
  have gy := Lib.hid gy0
  have ga := Lib.hid ga0
  have gb := Lib.hid gb0
  have gz := Lib.hid gz0
  have hb := Lib.hid hb0
  clear hb0 gx0 gy0 ga0 gb0 gz0
  have hs := hb.out.size
  go_wp2_with fail
  refine (cg.on _).mono ?_
  rintro e w21 ⟨rfl, hb21⟩
  replace gx := Lib.hid (isN_of hb21 gx.out)
  replace gy := Lib.hid (isN_of hb21 gy.out)
  replace ga := Lib.hid (isN_of hb21 ga.out)
  replace gb := Lib.hid (isN_of hb21 gb.out)
  replace gz := Lib.hid (isN_of hb21 gz.out)
  replace hb := Lib.hid (hb.out.trans (hb21.mono hs))
  clear hs hb21
  have hs := hb.out.size
  go_wp2_with fail
  refine (c1.on _).mono ?_
  rintro e w22 ⟨rfl, hb22⟩
  replace gx := Lib.hid (isN_of hb22 gx.out)
  replace gy := Lib.hid (isN_of hb22 gy.out)
  replace ga := Lib.hid (isN_of hb22 ga.out)
  replace gb := Lib.hid (isN_of hb22 gb.out)
  replace gz := Lib.hid (isN_of hb22 gz.out)
  replace hb := Lib.hid (hb.out.trans (hb22.mono hs))
  clear hs hb22
  have hs := hb.out.size
  go_wp2_with fail
  refine (cu.on _).mono ?_
  rintro e w23 ⟨rfl, hb23⟩
  replace gx := Lib.hid (isN_of hb23 gx.out)
  replace gy := Lib.hid (isN_of hb23 gy.out)
  replace ga := Lib.hid (isN_of hb23 ga.out)
  replace gb := Lib.hid (isN_of hb23 gb.out)
  replace gz := Lib.hid (isN_of hb23 gz.out)
  replace hb := Lib.hid (hb.out.trans (hb23.mono hs))
  clear hs hb23
  have hs := hb.out.size
  replace gx := Lib.hid (gx.out.alloc (oN ⟨Un, Uh, Ul⟩))
  replace gy := Lib.hid (gy.out.alloc (oN ⟨Un, Uh, Ul⟩))
  replace ga := Lib.hid (ga.out.alloc (oN ⟨Un, Uh, Ul⟩))
  replace gb := Lib.hid (gb.out.alloc (oN ⟨Un, Uh, Ul⟩))
  replace gz := Lib.hid (gz.out.alloc (oN ⟨Un, Uh, Ul⟩))
  have gu := Lib.hid (IsN.new w23 ⟨Un, Uh, Ul⟩)
  replace hb := Lib.hid (hb.out.alloc hs (oN ⟨Un, Uh, Ul⟩))
  clear hs
  have hs := hb.out.size
  go_wp2_with fail
  refine (cl.on _).mono ?_
  rintro e w24 ⟨rfl, hb24⟩
  replace gx := Lib.hid (isN_of hb24 gx.out)
  replace gy := Lib.hid (isN_of hb24 gy.out)
  replace ga := Lib.hid (isN_of hb24 ga.out)
  replace gb := Lib.hid (isN_of hb24 gb.out)
  replace gz := Lib.hid (isN_of hb24 gz.out)
  replace gu := Lib.hid (isN_of hb24 gu.out)
  replace hb := Lib.hid (hb.out.trans (hb24.mono hs))
  clear hs hb24
  have hs := hb.out.size
  go_wp2_with fail
  refine (c1.on _).mono ?_
  rintro e w25 ⟨rfl, hb25⟩
  replace gx := Lib.hid (isN_of hb25 gx.out)
  replace gy := Lib.hid (isN_of hb25 gy.out)
  replace ga := Lib.hid (isN_of hb25 ga.out)
  replace gb := Lib.hid (isN_of hb25 gb.out)
  replace gz := Lib.hid (isN_of hb25 gz.out)
  replace gu := Lib.hid (isN_of hb25 gu.out)
  replace hb := Lib.hid (hb.out.trans (hb25.mono hs))
  clear hs hb25
  have hs := hb.out.size
  go_wp2_with fail
  refine (cd.on _).mono ?_
  rintro e w26 ⟨rfl, hb26⟩
  replace gx := Lib.hid (isN_of hb26 gx.out)
  replace gy := Lib.hid (isN_of hb26 gy.out)
  replace ga := Lib.hid (isN_of hb26 ga.out)
  replace gb := Lib.hid (isN_of hb26 gb.out)
  replace gz := Lib.hid (isN_of hb26 gz.out)
  replace gu := Lib.hid (isN_of hb26 gu.out)
  replace hb := Lib.hid (hb.out.trans (hb26.mono hs))
  clear hs hb26
  have hs := hb.out.size
  replace gx := Lib.hid (gx.out.alloc (oN ⟨Dn, Dh, Dl⟩))
  replace gy := Lib.hid (gy.out.alloc (oN ⟨Dn, Dh, Dl⟩))
  replace ga := Lib.hid (ga.out.alloc (oN ⟨Dn, Dh, Dl⟩))
  replace gb := Lib.hid (gb.out.alloc (oN ⟨Dn, Dh, Dl⟩))
  replace gz := Lib.hid (gz.out.alloc (oN ⟨Dn, Dh, Dl⟩))
  replace gu := Lib.hid (gu.out.alloc (oN ⟨Dn, Dh, Dl⟩))
  have gd := Lib.hid (IsN.new w26 ⟨Dn, Dh, Dl⟩)
  replace hb := Lib.hid (hb.out.alloc hs (oN ⟨Dn, Dh, Dl⟩))
  clear hs
  have hs := hb.out.size
  go_wp2_with fail
  refine (cl.on _).mono ?_
  rintro e w27 ⟨rfl, hb27⟩
  replace gx := Lib.hid (isN_of hb27 gx.out)
  replace gy := Lib.hid (isN_of hb27 gy.out)
  replace ga := Lib.hid (isN_of hb27 ga.out)
  replace gb := Lib.hid (isN_of hb27 gb.out)
  replace gz := Lib.hid (isN_of hb27 gz.out)
  replace gu := Lib.hid (isN_of hb27 gu.out)
  replace gd := Lib.hid (isN_of hb27 gd.out)
  replace hb := Lib.hid (hb.out.trans (hb27.mono hs))
  clear hs hb27
  have hs := hb.out.size
  go_wp2_with fail
  refine (fL.on _).mono ?_
  rintro e w28 ⟨rfl, hb28⟩
  replace gx := Lib.hid (isN_of hb28 gx.out)
  replace gy := Lib.hid (isN_of hb28 gy.out)
  replace ga := Lib.hid (isN_of hb28 ga.out)
  replace gb := Lib.hid (isN_of hb28 gb.out)
  replace gz := Lib.hid (isN_of hb28 gz.out)
  replace gu := Lib.hid (isN_of hb28 gu.out)
  replace gd := Lib.hid (isN_of hb28 gd.out)
  replace hb := Lib.hid (hb.out.trans (hb28.mono hs))
  clear hs hb28
  have hs := hb.out.size
  go_wp2_with fail
  refine (cg.on _).mono ?_
  rintro e w29 ⟨rfl, hb29⟩
  replace gx := Lib.hid (isN_of hb29 gx.out)
  replace gy := Lib.hid (isN_of hb29 gy.out)
  replace ga := Lib.hid (isN_of hb29 ga.out)
  replace gb := Lib.hid (isN_of hb29 gb.out)
  replace gz := Lib.hid (isN_of hb29 gz.out)
  replace gu := Lib.hid (isN_of hb29 gu.out)
  replace gd := Lib.hid (isN_of hb29 gd.out)
  replace hb := Lib.hid (hb.out.trans (hb29.mono hs))
  clear hs hb29
  have hs := hb.out.size
  go_wp2_with fail
  refine (fG.on _).mono ?_
  rintro e w30 ⟨rfl, hb30⟩
  replace gx := Lib.hid (isN_of hb30 gx.out)
  replace gy := Lib.hid (isN_of hb30 gy.out)
  replace ga := Lib.hid (isN_of hb30 ga.out)
  replace gb := Lib.hid (isN_of hb30 gb.out)
  replace gz := Lib.hid (isN_of hb30 gz.out)
  replace gu := Lib.hid (isN_of hb30 gu.out)
  replace gd := Lib.hid (isN_of hb30 gd.out)
  replace hb := Lib.hid (hb.out.trans (hb30.mono hs))
  clear hs hb30
  have hs := hb.out.size
  obtain ⟨cu0, cu1, cu2⟩ := gu.out.all
  dsimp only at cu0 cu1 cu2
  go_wp2_with fail
  refine (fU.on _).mono ?_
  rintro e w31 ⟨rfl, hb31⟩
  replace gx := Lib.hid (isN_of hb31 gx.out)
  replace gy := Lib.hid (isN_of hb31 gy.out)
  replace ga := Lib.hid (isN_of hb31 ga.out)
  replace gb := Lib.hid (isN_of hb31 gb.out)
  replace gz := Lib.hid (isN_of hb31 gz.out)
  replace gu := Lib.hid (isN_of hb31 gu.out)
  replace gd := Lib.hid (isN_of hb31 gd.out)
  replace hb := Lib.hid (hb.out.trans (hb31.mono hs))
  clear hs hb31
  have hs := hb.out.size
  clear cu0 cu1 cu2
  obtain ⟨cd0, cd1, cd2⟩ := gd.out.all
  dsimp only at cd0 cd1 cd2
  go_wp2_with fail
  refine (fD.on _).mono ?_
  rintro e w32 ⟨rfl, hb32⟩
  replace gx := Lib.hid (isN_of hb32 gx.out)
  replace gy := Lib.hid (isN_of hb32 gy.out)
  replace ga := Lib.hid (isN_of hb32 ga.out)
  replace gb := Lib.hid (isN_of hb32 gb.out)
  replace gz := Lib.hid (isN_of hb32 gz.out)
  replace gu := Lib.hid (isN_of hb32 gu.out)
  replace gd := Lib.hid (isN_of hb32 gd.out)
  replace hb := Lib.hid (hb.out.trans (hb32.mono hs))
  clear hs hb32
  have hs := hb.out.size
  clear cd0 cd1 cd2
  obtain ⟨cu0, cu1, cu2⟩ := gu.out.all
  dsimp only at cu0 cu1 cu2
  go_wp2_with fail
  refine (kU.on _).mono ?_
  rintro e w33 ⟨rfl, hb33⟩
  replace gx := Lib.hid (isN_of hb33 gx.out)
  replace gy := Lib.hid (isN_of hb33 gy.out)
  replace ga := Lib.hid (isN_of hb33 ga.out)
  replace gb := Lib.hid (isN_of hb33 gb.out)
  replace gz := Lib.hid (isN_of hb33 gz.out)
  replace gu := Lib.hid (isN_of hb33 gu.out)
  replace gd := Lib.hid (isN_of hb33 gd.out)
  replace hb := Lib.hid (hb.out.trans (hb33.mono hs))
  clear hs hb33
  have hs := hb.out.size
  clear cu0 cu1 cu2
  go_wp2_with fail
  refine (cg.on _).mono ?_
  rintro e w34 ⟨rfl, hb34⟩
  replace gx := Lib.hid (isN_of hb34 gx.out)
  replace gy := Lib.hid (isN_of hb34 gy.out)
  replace ga := Lib.hid (isN_of hb34 ga.out)
  replace gb := Lib.hid (isN_of hb34 gb.out)
  replace gz := Lib.hid (isN_of hb34 gz.out)
  replace gu := Lib.hid (isN_of hb34 gu.out)
  replace gd := Lib.hid (isN_of hb34 gd.out)
  replace hb := Lib.hid (hb.out.trans (hb34.mono hs))
  clear hs hb34
  have hs := hb.out.size
  obtain ⟨cd0, cd1, cd2⟩ := gd.out.all
  dsimp only at cd0 cd1 cd2
  go_wp2_with fail
  refine (kD.on _).mono ?_
  rintro e w35 ⟨rfl, hb35⟩
  replace gx := Lib.hid (isN_of hb35 gx.out)
  replace gy := Lib.hid (isN_of hb35 gy.out)
  replace ga := Lib.hid (isN_of hb35 ga.out)
  replace gb := Lib.hid (isN_of hb35 gb.out)
  replace gz := Lib.hid (isN_of hb35 gz.out)
  replace gu := Lib.hid (isN_of hb35 gu.out)
  replace gd := Lib.hid (isN_of hb35 gd.out)
  replace hb := Lib.hid (hb.out.trans (hb35.mono hs))
  clear hs hb35
  have hs := hb.out.size
  clear cd0 cd1 cd2
  go_wp2_with fail
  refine (cl.on _).mono ?_
  rintro e w36 ⟨rfl, hb36⟩
  replace gx := Lib.hid (isN_of hb36 gx.out)
  replace gy := Lib.hid (isN_of hb36 gy.out)
  replace ga := Lib.hid (isN_of hb36 ga.out)
  replace gb := Lib.hid (isN_of hb36 gb.out)
  replace gz := Lib.hid (isN_of hb36 gz.out)
  replace gu := Lib.hid (isN_of hb36 gu.out)
  replace gd := Lib.hid (isN_of hb36 gd.out)
  replace hb := Lib.hid (hb.out.trans (hb36.mono hs))
  clear hs hb36
  have hs := hb.out.size
  go_wp2_with fail
  go_ret
  exact ⟨rfl, hb.out⟩
end Go.Proofs.Ytbfigpollacngaa
