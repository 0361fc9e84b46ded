/- the walk over WideExact -/
import Derived.Test.YtbfigpollacngaaDoorNmD
import Derived.Test.YtbfigpollacngaaDoorWvG
import Derived.Deep.Cut
namespace Go.Proofs.YtbfigpollacngaaDoor
open Go.RowKit
open Rf
open Wide

/-- a block of the call's own -/
def IsC (w : World) (b : Nat) (T : TypeId) (cs : Array Value) : Prop := w.heap[b]? = some (.cells cs T (0, 0))
theorem IsC.lt {w : World} {b : Nat} {T : TypeId} {cs : Array Value} (h : IsC w b T cs) : b < w.heap.size := lt_of_block h
theorem isC_of {w w' : World} {b : Nat} {T : TypeId} {cs : Array Value} (hb : Below w.heap.size w w') (h : IsC w b T cs) : IsC w' b T cs := (hb.block b h.lt).trans h
theorem IsC.alloc {w : World} {b : Nat} {T : TypeId} {cs : Array Value} (h : IsC w b T cs) (o : Obj) : IsC (w.alloc o) b T cs := isC_of ((Below.refl _ _).alloc (Nat.le_refl _) o) h
theorem IsC.new (w : World) (T : TypeId) (cs : Array Value) : IsC (w.alloc (.cells cs T)) w.heap.size T cs := heap_alloc_new w _
theorem IsC.set_other {w : World} {b c i : Nat} {v : Value} {T : TypeId} {cs : Array Value} (h : IsC w b T cs) (hne : b ≠ c) : IsC (w.setCell ⟨c, i, none⟩ v) b T cs := by
  unfold IsC at *
  show (w.heap.modify c _)[b]? = _
  rw [Array.getElem?_modify, if_neg (fun hh => hne hh.symm)]
  exact h
theorem IsC.cell {w : World} {b : Nat} {T : TypeId} {cs : Array Value} (h : IsC w b T cs) (i : Nat) : w.cell? ⟨b, i, none⟩ = cs[i]? := by unfold IsC at h; simp [World.cell?, h]
theorem IsC.drewN {w : World} {b k : Nat} {T : TypeId} {cs : Array Value} (h : IsC w b T cs) : IsC (w.drewN k) b T cs := h

set_option maxRecDepth 100000 in
set_option maxHeartbeats 32000000 in
theorem exact_TT (xn yn : Bool) (xh xl yh yl : Int) (cw : ∀ w : World, Calls Tryd.prog 9 #[] w fun e w' => e = .returned (.bool true) ∧ Below w.heap.size w w')
    (An : Bool) (Ah Al Ae : Int) (cA : Ret 10 #[wv ⟨xn, xh, xl⟩, wv ⟨yn, yh, yl⟩] (.tuple #[wv ⟨An, Ah, Al⟩, .int .i64 Ae])) (dA : Ret 27 #[.int .i64 1, wv ⟨xn, xh, xl⟩, wv ⟨yn, yh, yl⟩] (.tuple #[wv ⟨An, Ah, Al⟩, .int .i64 Ae]))
    (Bn : Bool) (Bh Bl Be : Int) (cB : Ret 24 #[wv ⟨xn, xh, xl⟩, wv ⟨yn, yh, yl⟩] (.tuple #[wv ⟨Bn, Bh, Bl⟩, .int .i64 Be])) (dB : Ret 27 #[.int .i64 2, wv ⟨xn, xh, xl⟩, wv ⟨yn, yh, yl⟩] (.tuple #[wv ⟨Bn, Bh, Bl⟩, .int .i64 Be]))
    (Cn : Bool) (Ch Cl Ce : Int) (cC : Ret 11 #[wv ⟨xn, xh, xl⟩, wv ⟨yn, yh, yl⟩] (.tuple #[wv ⟨Cn, Ch, Cl⟩, .int .i64 Ce])) (dC : Ret 27 #[.int .i64 3, wv ⟨xn, xh, xl⟩, wv ⟨yn, yh, yl⟩] (.tuple #[wv ⟨Cn, Ch, Cl⟩, .int .i64 Ce]))
    (Dn : Bool) (Dh Dl De : Int) (cD : Ret 25 #[wv ⟨xn, xh, xl⟩, wv ⟨yn, yh, yl⟩] (.tuple #[wv ⟨Dn, Dh, Dl⟩, .int .i64 De])) (dD : Ret 27 #[.int .i64 4, wv ⟨xn, xh, xl⟩, wv ⟨yn, yh, yl⟩] (.tuple #[wv ⟨Dn, Dh, Dl⟩, .int .i64 De]))
    (En : Bool) (Eh El Ee : Int) (cE : Ret 26 #[wv ⟨xn, xh, xl⟩, wv ⟨yn, yh, yl⟩] (.tuple #[wv ⟨En, Eh, El⟩, .int .i64 Ee])) (dE : Ret 27 #[.int .i64 5, wv ⟨xn, xh, xl⟩, wv ⟨yn, yh, yl⟩] (.tuple #[wv ⟨En, Eh, El⟩, .int .i64 Ee]))
    (gX : Ret 19 #[wv ⟨xn, xh, xl⟩] (.bool true)) (fX : Ret 12 #[wv ⟨xn, xh, xl⟩] (.bool true)) (gY : Ret 19 #[wv ⟨yn, yh, yl⟩] (.bool true))
    (c s : Int) (Nn : Bool) (Nh Nl : Int) (kC : Ret 13 #[wv ⟨xn, xh, xl⟩, wv ⟨yn, yh, yl⟩] (.int .i64 c)) (kS : Ret 22 #[wv ⟨xn, xh, xl⟩] (.int .i64 s)) (kN : Ret 29 #[wv ⟨xn, xh, xl⟩] (wv ⟨Nn, Nh, Nl⟩)) (rC : Ret 28 #[wv ⟨xn, xh, xl⟩, wv ⟨yn, yh, yl⟩] (.int .i64 c)) (rS : Ret 28 #[wv ⟨xn, xh, xl⟩, wv zero] (.int .i64 s)) (rN : Ret 27 #[.int .i64 2, wv zero, wv ⟨xn, xh, xl⟩] (.tuple #[wv ⟨Nn, Nh, Nl⟩, .int .i64 0])) :
    Ret 6 #[wv ⟨xn, xh, xl⟩, wv ⟨yn, yh, yl⟩] (.bool true) := fun w => by
  unfold wv zero at *
  dsimp only at *
  replace cw := Lib.hid cw
  replace cA := Lib.hid cA
  replace cB := Lib.hid cB
  replace cC := Lib.hid cC
  replace cD := Lib.hid cD
  replace cE := Lib.hid cE
  replace dA := Lib.hid dA
  replace dB := Lib.hid dB
  replace dC := Lib.hid dC
  replace dD := Lib.hid dD
  replace dE := Lib.hid dE
  replace gX := Lib.hid gX
  replace fX := Lib.hid fX
  replace kC := Lib.hid kC
  replace kS := Lib.hid kS
  replace kN := Lib.hid kN
  replace gY := Lib.hid gY
  replace rC := Lib.hid rC
  replace rS := Lib.hid rS
  replace rN := Lib.hid rN
  go_enter Tryd.func6, Tryd.ntmps6
  go_wp2_with fail
  refine (cw.out _).mono ?_
  rintro e w1 ⟨rfl, hb1⟩
  obtain ⟨gx, gy, hb⟩ := two_new (x := ⟨xn, xh, xl⟩) (y := ⟨yn, yh, yl⟩) hb1
  have hs := hb.size
  clear hb1
  replace gx := Lib.hid gx
  replace gy := Lib.hid gy
  replace hb := Lib.hid hb
  obtain ⟨cx0, cx1, cx2⟩ := gx.out.all
  obtain ⟨cy0, cy1, cy2⟩ := gy.out.all
  dsimp only at cx0 cx1 cx2 cy0 cy1 cy2
  go_wp2_with fail
  refine (cA.out.on _).mono ?_
  rintro e w2 ⟨rfl, hb2⟩
  replace gx := Lib.hid (isN_of hb2 gx.out)
  replace gy := Lib.hid (isN_of hb2 gy.out)
  replace hb := Lib.hid (hb.out.trans (hb2.mono hs))
  clear hs hb2
  have hs := hb.out.size
  replace gx := Lib.hid (gx.out.alloc (oN ⟨An, Ah, Al⟩))
  replace gy := Lib.hid (gy.out.alloc (oN ⟨An, Ah, Al⟩))
  have gA := Lib.hid (IsN.new w2 ⟨An, Ah, Al⟩)
  replace hb := Lib.hid (hb.out.alloc hs (oN ⟨An, Ah, Al⟩))
  clear hs
  have hs := hb.out.size
  clear cx0 cx1 cx2 cy0 cy1 cy2
  obtain ⟨cx0, cx1, cx2⟩ := gx.out.all
  obtain ⟨cy0, cy1, cy2⟩ := gy.out.all
  dsimp only at cx0 cx1 cx2 cy0 cy1 cy2
  go_wp2_with fail
  refine (cB.out.on _).mono ?_
  rintro e w3 ⟨rfl, hb3⟩
  replace gx := Lib.hid (isN_of hb3 gx.out)
  replace gy := Lib.hid (isN_of hb3 gy.out)
  replace gA := Lib.hid (isN_of hb3 gA.out)
  replace hb := Lib.hid (hb.out.trans (hb3.mono hs))
  clear hs hb3
  have hs := hb.out.size
  replace gx := Lib.hid (gx.out.alloc (oN ⟨Bn, Bh, Bl⟩))
  replace gy := Lib.hid (gy.out.alloc (oN ⟨Bn, Bh, Bl⟩))
  replace gA := Lib.hid (gA.out.alloc (oN ⟨Bn, Bh, Bl⟩))
  have gB := Lib.hid (IsN.new w3 ⟨Bn, Bh, Bl⟩)
  replace hb := Lib.hid (hb.out.alloc hs (oN ⟨Bn, Bh, Bl⟩))
  clear hs
  have hs := hb.out.size
  clear cx0 cx1 cx2 cy0 cy1 cy2
  obtain ⟨cx0, cx1, cx2⟩ := gx.out.all
  obtain ⟨cy0, cy1, cy2⟩ := gy.out.all
  dsimp only at cx0 cx1 cx2 cy0 cy1 cy2
  go_wp2_with fail
  refine (cC.out.on _).mono ?_
  rintro e w4 ⟨rfl, hb4⟩
  replace gx := Lib.hid (isN_of hb4 gx.out)
  replace gy := Lib.hid (isN_of hb4 gy.out)
  replace gA := Lib.hid (isN_of hb4 gA.out)
  replace gB := Lib.hid (isN_of hb4 gB.out)
  replace hb := Lib.hid (hb.out.trans (hb4.mono hs))
  clear hs hb4
  have hs := hb.out.size
  replace gx := Lib.hid (gx.out.alloc (oN ⟨Cn, Ch, Cl⟩))
  replace gy := Lib.hid (gy.out.alloc (oN ⟨Cn, Ch, Cl⟩))
  replace gA := Lib.hid (gA.out.alloc (oN ⟨Cn, Ch, Cl⟩))
  replace gB := Lib.hid (gB.out.alloc (oN ⟨Cn, Ch, Cl⟩))
  have gC := Lib.hid (IsN.new w4 ⟨Cn, Ch, Cl⟩)
  replace hb := Lib.hid (hb.out.alloc hs (oN ⟨Cn, Ch, Cl⟩))
  clear hs
  have hs := hb.out.size
  clear cx0 cx1 cx2 cy0 cy1 cy2
  obtain ⟨cx0, cx1, cx2⟩ := gx.out.all
  obtain ⟨cy0, cy1, cy2⟩ := gy.out.all
  dsimp only at cx0 cx1 cx2 cy0 cy1 cy2
  go_wp2_with fail
  refine (cD.out.on _).mono ?_
  rintro e w5 ⟨rfl, hb5⟩
  replace gx := Lib.hid (isN_of hb5 gx.out)
  replace gy := Lib.hid (isN_of hb5 gy.out)
  replace gA := Lib.hid (isN_of hb5 gA.out)
  replace gB := Lib.hid (isN_of hb5 gB.out)
  replace gC := Lib.hid (isN_of hb5 gC.out)
  replace hb := Lib.hid (hb.out.trans (hb5.mono hs))
  clear hs hb5
  have hs := hb.out.size
  replace gx := Lib.hid (gx.out.alloc (oN ⟨Dn, Dh, Dl⟩))
  replace gy := Lib.hid (gy.out.alloc (oN ⟨Dn, Dh, Dl⟩))
  replace gA := Lib.hid (gA.out.alloc (oN ⟨Dn, Dh, Dl⟩))
  replace gB := Lib.hid (gB.out.alloc (oN ⟨Dn, Dh, Dl⟩))
  replace gC := Lib.hid (gC.out.alloc (oN ⟨Dn, Dh, Dl⟩))
  have gD := Lib.hid (IsN.new w5 ⟨Dn, Dh, Dl⟩)
  replace hb := Lib.hid (hb.out.alloc hs (oN ⟨Dn, Dh, Dl⟩))
  clear hs
  have hs := hb.out.size
  clear cx0 cx1 cx2 cy0 cy1 cy2
  obtain ⟨cx0, cx1, cx2⟩ := gx.out.all
  obtain ⟨cy0, cy1, cy2⟩ := gy.out.all
  dsimp only at cx0 cx1 cx2 cy0 cy1 cy2
  go_wp2_with fail
  refine (cE.out.on _).mono ?_
  rintro e w6 ⟨rfl, hb6⟩
  replace gx := Lib.hid (isN_of hb6 gx.out)
  replace gy := Lib.hid (isN_of hb6 gy.out)
  replace gA := Lib.hid (isN_of hb6 gA.out)
  replace gB := Lib.hid (isN_of hb6 gB.out)
  replace gC := Lib.hid (isN_of hb6 gC.out)
  replace gD := Lib.hid (isN_of hb6 gD.out)
  replace hb := Lib.hid (hb.out.trans (hb6.mono hs))
  clear hs hb6
  have hs := hb.out.size
  replace gx := Lib.hid (gx.out.alloc (oN ⟨En, Eh, El⟩))
  replace gy := Lib.hid (gy.out.alloc (oN ⟨En, Eh, El⟩))
  replace gA := Lib.hid (gA.out.alloc (oN ⟨En, Eh, El⟩))
  replace gB := Lib.hid (gB.out.alloc (oN ⟨En, Eh, El⟩))
  replace gC := Lib.hid (gC.out.alloc (oN ⟨En, Eh, El⟩))
  replace gD := Lib.hid (gD.out.alloc (oN ⟨En, Eh, El⟩))
  have gE := Lib.hid (IsN.new w6 ⟨En, Eh, El⟩)
  replace hb := Lib.hid (hb.out.alloc hs (oN ⟨En, Eh, El⟩))
  clear hs
  have hs := hb.out.size
  clear cx0 cx1 cx2 cy0 cy1 cy2
  obtain ⟨cx0, cx1, cx2⟩ := gx.out.all
  obtain ⟨cy0, cy1, cy2⟩ := gy.out.all
  obtain ⟨cA0, cA1, cA2⟩ := gA.out.all
  obtain ⟨cB0, cB1, cB2⟩ := gB.out.all
  obtain ⟨cC0, cC1, cC2⟩ := gC.out.all
  obtain ⟨cD0, cD1, cD2⟩ := gD.out.all
  obtain ⟨cE0, cE1, cE2⟩ := gE.out.all
  dsimp only at cx0 cx1 cx2 cy0 cy1 cy2 cA0 cA1 cA2 cB0 cB1 cB2 cC0 cC1 cC2 cD0 cD1 cD2 cE0 cE1 cE2
  go_upto_region 10 with fail
  clear cx0 cx1 cx2 cy0 cy1 cy2 cA0 cA1 cA2 cB0 cB1 cB2 cC0 cC1 cC2 cD0 cD1 cD2 cE0 cE1 cE2
  obtain ⟨wg, hwg⟩ : ∃ wg, w6.alloc (oN ⟨En, Eh, El⟩) = wg := ⟨_, rfl⟩
  have hsz : wg.heap.size = w6.heap.size + 1 := by rw [← hwg, size_alloc]
  have gx1 := (gx.out.alloc (.cells #[.bool An, .int .u64 Ah, .int .u64 Al, .bool Bn, .int .u64 Bh, .int .u64 Bl, .bool Cn, .int .u64 Ch, .int .u64 Cl, .bool Dn, .int .u64 Dh, .int .u64 Dl, .bool En, .int .u64 Eh, .int .u64 El] 43)).alloc (.cells #[.int .i64 Ae, .int .i64 Be, .int .i64 Ce, .int .i64 De, .int .i64 Ee] 44)
  have gy1 := (gy.out.alloc (.cells #[.bool An, .int .u64 Ah, .int .u64 Al, .bool Bn, .int .u64 Bh, .int .u64 Bl, .bool Cn, .int .u64 Ch, .int .u64 Cl, .bool Dn, .int .u64 Dh, .int .u64 Dl, .bool En, .int .u64 Eh, .int .u64 El] 43)).alloc (.cells #[.int .i64 Ae, .int .i64 Be, .int .i64 Ce, .int .i64 De, .int .i64 Ee] 44)
  have gG1 := (IsC.new (w6.alloc (oN ⟨En, Eh, El⟩)) 43 #[.bool An, .int .u64 Ah, .int .u64 Al, .bool Bn, .int .u64 Bh, .int .u64 Bl, .bool Cn, .int .u64 Ch, .int .u64 Cl, .bool Dn, .int .u64 Dh, .int .u64 Dl, .bool En, .int .u64 Eh, .int .u64 El]).alloc (.cells #[.int .i64 Ae, .int .i64 Be, .int .i64 Ce, .int .i64 De, .int .i64 Ee] 44)
  have gE1 := IsC.new ((w6.alloc (oN ⟨En, Eh, El⟩)).alloc (.cells #[.bool An, .int .u64 Ah, .int .u64 Al, .bool Bn, .int .u64 Bh, .int .u64 Bl, .bool Cn, .int .u64 Ch, .int .u64 Cl, .bool Dn, .int .u64 Dh, .int .u64 Dl, .bool En, .int .u64 Eh, .int .u64 El] 43)) 44 #[.int .i64 Ae, .int .i64 Be, .int .i64 Ce, .int .i64 De, .int .i64 Ee]
  have hb1 := (hb.out.alloc hs (.cells #[.bool An, .int .u64 Ah, .int .u64 Al, .bool Bn, .int .u64 Bh, .int .u64 Bl, .bool Cn, .int .u64 Ch, .int .u64 Cl, .bool Dn, .int .u64 Dh, .int .u64 Dl, .bool En, .int .u64 Eh, .int .u64 El] 43)).alloc (by rw [size_alloc]; omega) (.cells #[.int .i64 Ae, .int .i64 Be, .int .i64 Ce, .int .i64 De, .int .i64 Ee] 44)
  rw [size_alloc, size_alloc] at gE1
  rw [size_alloc] at gG1
  have hs6 : w.heap.size + 1 < w6.heap.size + 1 := by have := gy.out.lt; rw [size_alloc] at this; exact this
  clear gx gy gA gB gC gD gE hb hs hwg hsz wg
  (try dsimp only at gx1 gy1 gG1 gE1 hb1)
  generalize ((w6.alloc (oN ⟨En, Eh, El⟩)).alloc (.cells #[.bool An, .int .u64 Ah, .int .u64 Al, .bool Bn, .int .u64 Bh, .int .u64 Bl, .bool Cn, .int .u64 Ch, .int .u64 Cl, .bool Dn, .int .u64 Dh, .int .u64 Dl, .bool En, .int .u64 Eh, .int .u64 El] 43)).alloc (.cells #[.int .i64 Ae, .int .i64 Be, .int .i64 Ce, .int .i64 De, .int .i64 Ee] 44) = v0 at *
  have gx := Lib.hid gx1
  have gy := Lib.hid gy1
  have gG := Lib.hid gG1
  have gE := Lib.hid gE1
  have hb := Lib.hid hb1
  clear gx1 gy1 gG1 gE1 hb1
  replace hs6 := Lib.hid hs6
  go_wp2_with fail
  go_loopw [17] (fun iv wr => ∃ j : Int, 0 ≤ j ∧ j ≤ 5 ∧ iv = .int .i64 j ∧ IsN wr w.heap.size ⟨xn, xh, xl⟩ ∧ IsN wr (w.heap.size + 1) ⟨yn, yh, yl⟩ ∧ IsC wr (w6.heap.size + 1) 43 #[.bool An, .int .u64 Ah, .int .u64 Al, .bool Bn, .int .u64 Bh, .int .u64 Bl, .bool Cn, .int .u64 Ch, .int .u64 Cl, .bool Dn, .int .u64 Dh, .int .u64 Dl, .bool En, .int .u64 Eh, .int .u64 El] ∧ IsC wr (w6.heap.size + 1 + 1) 44 #[.int .i64 Ae, .int .i64 Be, .int .i64 Ce, .int .i64 De, .int .i64 Ee] ∧ Below w.heap.size w wr) (fun i _ => (5 - intOf i).toNat)
  case atStart => exact ⟨0, by omega, by omega, rfl, gx.out, gy.out, gG.out, gE.out, hb.out⟩
  case round =>
    clear gx gy gG gE hb
    obtain ⟨j, hj0, hj5, rfl, gx, gy, gG, gE, hb⟩ := hrel
    replace gx := Lib.hid gx
    replace gy := Lib.hid gy
    replace gG := Lib.hid gG
    replace gE := Lib.hid gE
    replace hb := Lib.hid hb
    have hs := hb.out.size
    have hcase : j = 0 ∨ j = 1 ∨ j = 2 ∨ j = 3 ∨ j = 4 ∨ j = 5 := by omega
    clear hj0 hj5
    rcases hcase with rfl | rfl | rfl | rfl | rfl | rfl
    · obtain ⟨cx0, cx1, cx2⟩ := gx.out.all
      obtain ⟨cy0, cy1, cy2⟩ := gy.out.all
      dsimp only at cx0 cx1 cx2 cy0 cy1 cy2
      go_wp2_with fail
      refine (dA.out.on _).mono ?_
      rintro e w7 ⟨rfl, hb7⟩
      replace gx := Lib.hid (isN_of hb7 gx.out)
      replace gy := Lib.hid (isN_of hb7 gy.out)
      replace gG := Lib.hid (isC_of hb7 gG.out)
      replace gE := Lib.hid (isC_of hb7 gE.out)
      replace hb := Lib.hid (hb.out.trans (hb7.mono hs))
      clear hs hb7
      have hs := hb.out.size
      replace gx := Lib.hid (gx.out.alloc (oN ⟨An, Ah, Al⟩))
      replace gy := Lib.hid (gy.out.alloc (oN ⟨An, Ah, Al⟩))
      replace gG := Lib.hid (gG.out.alloc (oN ⟨An, Ah, Al⟩))
      replace gE := Lib.hid (gE.out.alloc (oN ⟨An, Ah, Al⟩))
      have gu := Lib.hid (IsN.new w7 ⟨An, Ah, Al⟩)
      replace hb := Lib.hid (hb.out.alloc hs (oN ⟨An, Ah, Al⟩))
      clear hs
      have hs := hb.out.size
      clear cx0 cx1 cx2 cy0 cy1 cy2
      obtain ⟨cu0, cu1, cu2⟩ := gu.out.all
      dsimp only at cu0 cu1 cu2
      have h0 := gG.out.cell 0
      have h1 := gG.out.cell 1
      have h2 := gG.out.cell 2
      have h3 := gE.out.cell 0
      simp only [List.getElem?_toArray, List.getElem?_cons_succ, List.getElem?_cons_zero] at h0 h1 h2 h3
      go_wp2_with fail
      go_quiet (fail)
      clear cu0 cu1 cu2
      clear h0 h1 h2 h3
      go_wp2_with fail
      go_roundw
      case rel => exact ⟨1, by omega, by omega, rfl, isN_drewN gx.out, isN_drewN gy.out, gG.out.drewN, gE.out.drewN, below_drewN hb.out⟩
      case measure => simp [intOf]
    · obtain ⟨cx0, cx1, cx2⟩ := gx.out.all
      obtain ⟨cy0, cy1, cy2⟩ := gy.out.all
      dsimp only at cx0 cx1 cx2 cy0 cy1 cy2
      go_wp2_with fail
      refine (dB.out.on _).mono ?_
      rintro e w7 ⟨rfl, hb7⟩
      replace gx := Lib.hid (isN_of hb7 gx.out)
      replace gy := Lib.hid (isN_of hb7 gy.out)
      replace gG := Lib.hid (isC_of hb7 gG.out)
      replace gE := Lib.hid (isC_of hb7 gE.out)
      replace hb := Lib.hid (hb.out.trans (hb7.mono hs))
      clear hs hb7
      have hs := hb.out.size
      replace gx := Lib.hid (gx.out.alloc (oN ⟨Bn, Bh, Bl⟩))
      replace gy := Lib.hid (gy.out.alloc (oN ⟨Bn, Bh, Bl⟩))
      replace gG := Lib.hid (gG.out.alloc (oN ⟨Bn, Bh, Bl⟩))
      replace gE := Lib.hid (gE.out.alloc (oN ⟨Bn, Bh, Bl⟩))
      have gu := Lib.hid (IsN.new w7 ⟨Bn, Bh, Bl⟩)
      replace hb := Lib.hid (hb.out.alloc hs (oN ⟨Bn, Bh, Bl⟩))
      clear hs
      have hs := hb.out.size
      clear cx0 cx1 cx2 cy0 cy1 cy2
      obtain ⟨cu0, cu1, cu2⟩ := gu.out.all
      dsimp only at cu0 cu1 cu2
      have h0 := gG.out.cell 3
      have h1 := gG.out.cell 4
      have h2 := gG.out.cell 5
      have h3 := gE.out.cell 1
      simp only [List.getElem?_toArray, List.getElem?_cons_succ, List.getElem?_cons_zero] at h0 h1 h2 h3
      go_wp2_with fail
      go_quiet (fail)
      clear cu0 cu1 cu2
      clear h0 h1 h2 h3
      go_wp2_with fail
      go_roundw
      case rel => exact ⟨2, by omega, by omega, rfl, isN_drewN gx.out, isN_drewN gy.out, gG.out.drewN, gE.out.drewN, below_drewN hb.out⟩
      case measure => simp [intOf]
    · obtain ⟨cx0, cx1, cx2⟩ := gx.out.all
      obtain ⟨cy0, cy1, cy2⟩ := gy.out.all
      dsimp only at cx0 cx1 cx2 cy0 cy1 cy2
      go_wp2_with fail
      refine (dC.out.on _).mono ?_
      rintro e w7 ⟨rfl, hb7⟩
      replace gx := Lib.hid (isN_of hb7 gx.out)
      replace gy := Lib.hid (isN_of hb7 gy.out)
      replace gG := Lib.hid (isC_of hb7 gG.out)
      replace gE := Lib.hid (isC_of hb7 gE.out)
      replace hb := Lib.hid (hb.out.trans (hb7.mono hs))
      clear hs hb7
      have hs := hb.out.size
      replace gx := Lib.hid (gx.out.alloc (oN ⟨Cn, Ch, Cl⟩))
      replace gy := Lib.hid (gy.out.alloc (oN ⟨Cn, Ch, Cl⟩))
      replace gG := Lib.hid (gG.out.alloc (oN ⟨Cn, Ch, Cl⟩))
      replace gE := Lib.hid (gE.out.alloc (oN ⟨Cn, Ch, Cl⟩))
      have gu := Lib.hid (IsN.new w7 ⟨Cn, Ch, Cl⟩)
      replace hb := Lib.hid (hb.out.alloc hs (oN ⟨Cn, Ch, Cl⟩))
      clear hs
      have hs := hb.out.size
      clear cx0 cx1 cx2 cy0 cy1 cy2
      obtain ⟨cu0, cu1, cu2⟩ := gu.out.all
      dsimp only at cu0 cu1 cu2
      have h0 := gG.out.cell 6
      have h1 := gG.out.cell 7
      have h2 := gG.out.cell 8
      have h3 := gE.out.cell 2
      simp only [List.getElem?_toArray, List.getElem?_cons_succ, List.getElem?_cons_zero] at h0 h1 h2 h3
      go_wp2_with fail
      go_quiet (fail)
      clear cu0 cu1 cu2
      clear h0 h1 h2 h3
      go_wp2_with fail
      go_roundw
      case rel => exact ⟨3, by omega, by omega, rfl, isN_drewN gx.out, isN_drewN gy.out, gG.out.drewN, gE.out.drewN, below_drewN hb.out⟩
      case measure => simp [intOf]
    · obtain ⟨cx0, cx1, cx2⟩ := gx.out.all
      obtain ⟨cy0, cy1, cy2⟩ := gy.out.all
      dsimp only at cx0 cx1 cx2 cy0 cy1 cy2
      go_wp2_with fail
      refine (dD.out.on _).mono ?_
      rintro e w7 ⟨rfl, hb7⟩
      replace gx := Lib.hid (isN_of hb7 gx.out)
      replace gy := Lib.hid (isN_of hb7 gy.out)
      replace gG := Lib.hid (isC_of hb7 gG.out)
      replace gE := Lib.hid (isC_of hb7 gE.out)
      replace hb := Lib.hid (hb.out.trans (hb7.mono hs))
      clear hs hb7
      have hs := hb.out.size
      replace gx := Lib.hid (gx.out.alloc (oN ⟨Dn, Dh, Dl⟩))
      replace gy := Lib.hid (gy.out.alloc (oN ⟨Dn, Dh, Dl⟩))
      replace gG := Lib.hid (gG.out.alloc (oN ⟨Dn, Dh, Dl⟩))
      replace gE := Lib.hid (gE.out.alloc (oN ⟨Dn, Dh, Dl⟩))
      have gu := Lib.hid (IsN.new w7 ⟨Dn, Dh, Dl⟩)
      replace hb := Lib.hid (hb.out.alloc hs (oN ⟨Dn, Dh, Dl⟩))
      clear hs
      have hs := hb.out.size
      clear cx0 cx1 cx2 cy0 cy1 cy2
      obtain ⟨cu0, cu1, cu2⟩ := gu.out.all
      dsimp only at cu0 cu1 cu2
      have h0 := gG.out.cell 9
      have h1 := gG.out.cell 10
      have h2 := gG.out.cell 11
      have h3 := gE.out.cell 3
      simp only [List.getElem?_toArray, List.getElem?_cons_succ, List.getElem?_cons_zero] at h0 h1 h2 h3
      go_wp2_with fail
      go_quiet (fail)
      clear cu0 cu1 cu2
      clear h0 h1 h2 h3
      go_wp2_with fail
      go_roundw
      case rel => exact ⟨4, by omega, by omega, rfl, isN_drewN gx.out, isN_drewN gy.out, gG.out.drewN, gE.out.drewN, below_drewN hb.out⟩
      case measure => simp [intOf]
    · obtain ⟨cx0, cx1, cx2⟩ := gx.out.all
      obtain ⟨cy0, cy1, cy2⟩ := gy.out.all
      dsimp only at cx0 cx1 cx2 cy0 cy1 cy2
      go_wp2_with fail
      refine (dE.out.on _).mono ?_
      rintro e w7 ⟨rfl, hb7⟩
      replace gx := Lib.hid (isN_of hb7 gx.out)
      replace gy := Lib.hid (isN_of hb7 gy.out)
      replace gG := Lib.hid (isC_of hb7 gG.out)
      replace gE := Lib.hid (isC_of hb7 gE.out)
      replace hb := Lib.hid (hb.out.trans (hb7.mono hs))
      clear hs hb7
      have hs := hb.out.size
      replace gx := Lib.hid (gx.out.alloc (oN ⟨En, Eh, El⟩))
      replace gy := Lib.hid (gy.out.alloc (oN ⟨En, Eh, El⟩))
      replace gG := Lib.hid (gG.out.alloc (oN ⟨En, Eh, El⟩))
      replace gE := Lib.hid (gE.out.alloc (oN ⟨En, Eh, El⟩))
      have gu := Lib.hid (IsN.new w7 ⟨En, Eh, El⟩)
      replace hb := Lib.hid (hb.out.alloc hs (oN ⟨En, Eh, El⟩))
      clear hs
      have hs := hb.out.size
      clear cx0 cx1 cx2 cy0 cy1 cy2
      obtain ⟨cu0, cu1, cu2⟩ := gu.out.all
      dsimp only at cu0 cu1 cu2
      have h0 := gG.out.cell 12
      have h1 := gG.out.cell 13
      have h2 := gG.out.cell 14
      have h3 := gE.out.cell 4
      simp only [List.getElem?_toArray, List.getElem?_cons_succ, List.getElem?_cons_zero] at h0 h1 h2 h3
      go_wp2_with fail
      go_quiet (fail)
      clear cu0 cu1 cu2
      clear h0 h1 h2 h3
      go_wp2_with fail
      go_roundw
      case rel => exact ⟨5, by omega, by omega, rfl, isN_drewN gx.out, isN_drewN gy.out, gG.out.drewN, gE.out.drewN, below_drewN hb.out⟩
      case measure => simp [intOf]
    · clear gG gE
      obtain ⟨cx0, cx1, cx2⟩ := gx.out.all
      obtain ⟨cy0, cy1, cy2⟩ := gy.out.all
      dsimp only at cx0 cx1 cx2 cy0 cy1 cy2
      go_wp2_with fail
      refine (gX.out.on _).mono ?_
      rintro e w7 ⟨rfl, hb7⟩
      replace gx := Lib.hid (isN_of hb7 gx.out)
      replace gy := Lib.hid (isN_of hb7 gy.out)
      replace hb := Lib.hid (hb.out.trans (hb7.mono hs))
      clear hs hb7
      have hs := hb.out.size
      clear cx0 cx1 cx2 cy0 cy1 cy2
      obtain ⟨cx0, cx1, cx2⟩ := gx.out.all
      obtain ⟨cy0, cy1, cy2⟩ := gy.out.all
      dsimp only at cx0 cx1 cx2 cy0 cy1 cy2
      go_wp2_with fail
      refine (gY.out.on _).mono ?_
      rintro e w8 ⟨rfl, hb8⟩
      replace gx := Lib.hid (isN_of hb8 gx.out)
      replace gy := Lib.hid (isN_of hb8 gy.out)
      replace hb := Lib.hid (hb.out.trans (hb8.mono hs))
      clear hs hb8
      have hs := hb.out.size
      clear cx0 cx1 cx2 cy0 cy1 cy2
      obtain ⟨cx0, cx1, cx2⟩ := gx.out.all
      obtain ⟨cy0, cy1, cy2⟩ := gy.out.all
      dsimp only at cx0 cx1 cx2 cy0 cy1 cy2
      go_wp2_with fail
      refine (rC.out.on _).mono ?_
      rintro e w9 ⟨rfl, hb9⟩
      replace gx := Lib.hid (isN_of hb9 gx.out)
      replace gy := Lib.hid (isN_of hb9 gy.out)
      replace hb := Lib.hid (hb.out.trans (hb9.mono hs))
      clear hs hb9
      have hs := hb.out.size
      clear cx0 cx1 cx2 cy0 cy1 cy2
      obtain ⟨cx0, cx1, cx2⟩ := gx.out.all
      obtain ⟨cy0, cy1, cy2⟩ := gy.out.all
      dsimp only at cx0 cx1 cx2 cy0 cy1 cy2
      go_upto_region 21 with fail
      clear cx0 cx1 cx2 cy0 cy1 cy2
      have hsn := Lib.hid gy.out.lt
      replace gx := Lib.hid (gx.out.alloc (oN ⟨false, 0, 0⟩))
      replace gy := Lib.hid (gy.out.alloc (oN ⟨false, 0, 0⟩))
      have gn := Lib.hid (IsN.new w9 ⟨false, 0, 0⟩)
      replace hb := Lib.hid (hb.out.alloc hs (oN ⟨false, 0, 0⟩))
      clear hs
      have hs := hb.out.size
      obtain ⟨cx0, cx1, cx2⟩ := gx.out.all
      obtain ⟨cy0, cy1, cy2⟩ := gy.out.all
      dsimp only at cx0 cx1 cx2 cy0 cy1 cy2
      go_wp2_with fail
      refine (gX.out.on _).mono ?_
      rintro e w10 ⟨rfl, hb10⟩
      replace gx := Lib.hid (isN_of hb10 gx.out)
      replace gy := Lib.hid (isN_of hb10 gy.out)
      replace gn := Lib.hid (isN_of hb10 gn.out)
      replace hb := Lib.hid (hb.out.trans (hb10.mono hs))
      clear hs hb10
      have hs := hb.out.size
      clear cx0 cx1 cx2 cy0 cy1 cy2
      obtain ⟨cx0, cx1, cx2⟩ := gx.out.all
      obtain ⟨cy0, cy1, cy2⟩ := gy.out.all
      dsimp only at cx0 cx1 cx2 cy0 cy1 cy2
      go_wp2_with fail
      refine (rS.out.on _).mono ?_
      rintro e w11 ⟨rfl, hb11⟩
      replace gx := Lib.hid (isN_of hb11 gx.out)
      replace gy := Lib.hid (isN_of hb11 gy.out)
      replace gn := Lib.hid (isN_of hb11 gn.out)
      replace hb := Lib.hid (hb.out.trans (hb11.mono hs))
      clear hs hb11
      have hs := hb.out.size
      clear cx0 cx1 cx2 cy0 cy1 cy2
      obtain ⟨cx0, cx1, cx2⟩ := gx.out.all
      obtain ⟨cy0, cy1, cy2⟩ := gy.out.all
      dsimp only at cx0 cx1 cx2 cy0 cy1 cy2
      go_wp2_with fail
      refine (rN.out.on _).mono ?_
      rintro e w12 ⟨rfl, hb12⟩
      replace gx := Lib.hid (isN_of hb12 gx.out)
      replace gy := Lib.hid (isN_of hb12 gy.out)
      replace gn := Lib.hid (isN_of hb12 gn.out)
      replace hb := Lib.hid (hb.out.trans (hb12.mono hs))
      clear hs hb12
      have hs := hb.out.size
      clear cx0 cx1 cx2 cy0 cy1 cy2
      obtain ⟨cn0, cn1, cn2⟩ := gn.out.all
      dsimp only at cn0 cn1 cn2
      have fn := gn.out.f
      go_upto_region 24 with fail
      clear cn0 cn1 cn2
      clear fn
      replace gx := Lib.hid (gx.out.set3_other (c := w9.heap.size) (v0 := .bool Nn) (v1 := .int .u64 Nh) (v2 := .int .u64 Nl) (by have := hsn.out; omega))
      replace gy := Lib.hid (gy.out.set3_other (c := w9.heap.size) (v0 := .bool Nn) (v1 := .int .u64 Nh) (v2 := .int .u64 Nl) (by have := hsn.out; omega))
      replace gn := Lib.hid (gn.out.set Nn Nh Nl)
      replace hb := Lib.hid (below_set3 hb.out (show w.heap.size ≤ w9.heap.size by have := hsn.out; omega) (.bool Nn) (.int .u64 Nh) (.int .u64 Nl))
      clear hs
      generalize ((w12.setCell ⟨w9.heap.size, 0, none⟩ (.bool Nn)).setCell ⟨w9.heap.size, 1, none⟩ (.int .u64 Nh)).setCell ⟨w9.heap.size, 2, none⟩ (.int .u64 Nl) = v9 at *
      have hs := hb.out.size
      replace hb := Lib.hid (below_drewed hb.out)
      clear hs
      have hs := hb.out.size
      obtain ⟨cx0, cx1, cx2⟩ := gx.out.all
      obtain ⟨cy0, cy1, cy2⟩ := gy.out.all
      obtain ⟨cn0, cn1, cn2⟩ := gn.out.all
      dsimp only at cx0 cx1 cx2 cy0 cy1 cy2 cn0 cn1 cn2
      have mk0 := Lib.hid trivial
      have mk1 := Lib.hid trivial
      have mk2 := Lib.hid trivial
      have mk3 := Lib.hid trivial
      have mk4 := Lib.hid trivial
      go_wp2_with fail
      go_region_held3 (fun w1 => w1.cell? ⟨w.heap.size, 0, none⟩ = some (.bool xn) ∧ w1.cell? ⟨w.heap.size, 1, none⟩ = some (.int .u64 xh) ∧ w1.cell? ⟨w.heap.size, 2, none⟩ = some (.int .u64 xl) ∧ w1.cell? ⟨w.heap.size + 1, 0, none⟩ = some (.bool yn) ∧ w1.cell? ⟨w.heap.size + 1, 1, none⟩ = some (.int .u64 yh) ∧ w1.cell? ⟨w.heap.size + 1, 2, none⟩ = some (.int .u64 yl) ∧ w1.cell? ⟨w9.heap.size, 0, none⟩ = some (.bool Nn) ∧ w1.cell? ⟨w9.heap.size, 1, none⟩ = some (.int .u64 Nh) ∧ w1.cell? ⟨w9.heap.size, 2, none⟩ = some (.int .u64 Nl)) (go_keep)
        (first
          | (go_at_call 13
             clear mk0
             refine (kC.out.on _).mono ?_
             rintro e wr ⟨rfl, hbr⟩
             have hb2 := Lib.hid (hb.out.trans (hbr.mono hs))
             clear hb hs
             have hb := hb2
             clear hb2
             have hs := hb.out.size
             have gg := Lib.hid (isN_of hbr gx.out)
             clear gx
             have gx := gg
             clear gg
             have gg := Lib.hid (isN_of hbr gy.out)
             clear gy
             have gy := gg
             clear gg
             have gg := Lib.hid (isN_of hbr gn.out)
             clear gn
             have gn := gg
             clear gg
             clear hbr cx0 cx1 cx2 cy0 cy1 cy2 cn0 cn1 cn2
             obtain ⟨cx0, cx1, cx2⟩ := gx.out.all
             obtain ⟨cy0, cy1, cy2⟩ := gy.out.all
             obtain ⟨cn0, cn1, cn2⟩ := gn.out.all
             dsimp only at cx0 cx1 cx2 cy0 cy1 cy2 cn0 cn1 cn2)
          | (go_at_call 22
             clear mk1
             refine (kS.out.on _).mono ?_
             rintro e wr ⟨rfl, hbr⟩
             have hb2 := Lib.hid (hb.out.trans (hbr.mono hs))
             clear hb hs
             have hb := hb2
             clear hb2
             have hs := hb.out.size
             have gg := Lib.hid (isN_of hbr gx.out)
             clear gx
             have gx := gg
             clear gg
             have gg := Lib.hid (isN_of hbr gy.out)
             clear gy
             have gy := gg
             clear gg
             have gg := Lib.hid (isN_of hbr gn.out)
             clear gn
             have gn := gg
             clear gg
             clear hbr cx0 cx1 cx2 cy0 cy1 cy2 cn0 cn1 cn2
             obtain ⟨cx0, cx1, cx2⟩ := gx.out.all
             obtain ⟨cy0, cy1, cy2⟩ := gy.out.all
             obtain ⟨cn0, cn1, cn2⟩ := gn.out.all
             dsimp only at cx0 cx1 cx2 cy0 cy1 cy2 cn0 cn1 cn2)
          | (go_at_call 29
             clear mk2
             refine (kN.out.on _).mono ?_
             rintro e wr ⟨rfl, hbr⟩
             have hb2 := Lib.hid (hb.out.trans (hbr.mono hs))
             clear hb hs
             have hb := hb2
             clear hb2
             have hs := hb.out.size
             have gg := Lib.hid (isN_of hbr gx.out)
             clear gx
             have gx := gg
             clear gg
             have gg := Lib.hid (isN_of hbr gy.out)
             clear gy
             have gy := gg
             clear gg
             have gg := Lib.hid (isN_of hbr gn.out)
             clear gn
             have gn := gg
             clear gg
             clear hbr cx0 cx1 cx2 cy0 cy1 cy2 cn0 cn1 cn2
             obtain ⟨cx0, cx1, cx2⟩ := gx.out.all
             obtain ⟨cy0, cy1, cy2⟩ := gy.out.all
             obtain ⟨cn0, cn1, cn2⟩ := gn.out.all
             dsimp only at cx0 cx1 cx2 cy0 cy1 cy2 cn0 cn1 cn2)
          | (go_at_call 12
             clear mk3
             refine (fX.out.on _).mono ?_
             rintro e wr ⟨rfl, hbr⟩
             have hb2 := Lib.hid (hb.out.trans (hbr.mono hs))
             clear hb hs
             have hb := hb2
             clear hb2
             have hs := hb.out.size
             have gg := Lib.hid (isN_of hbr gx.out)
             clear gx
             have gx := gg
             clear gg
             have gg := Lib.hid (isN_of hbr gy.out)
             clear gy
             have gy := gg
             clear gg
             have gg := Lib.hid (isN_of hbr gn.out)
             clear gn
             have gn := gg
             clear gg
             clear hbr cx0 cx1 cx2 cy0 cy1 cy2 cn0 cn1 cn2
             obtain ⟨cx0, cx1, cx2⟩ := gx.out.all
             obtain ⟨cy0, cy1, cy2⟩ := gy.out.all
             obtain ⟨cn0, cn1, cn2⟩ := gn.out.all
             dsimp only at cx0 cx1 cx2 cy0 cy1 cy2 cn0 cn1 cn2)
          | (go_at_call 19
             clear mk4
             refine (gX.out.on _).mono ?_
             rintro e wr ⟨rfl, hbr⟩
             have hb2 := Lib.hid (hb.out.trans (hbr.mono hs))
             clear hb hs
             have hb := hb2
             clear hb2
             have hs := hb.out.size
             have gg := Lib.hid (isN_of hbr gx.out)
             clear gx
             have gx := gg
             clear gg
             have gg := Lib.hid (isN_of hbr gy.out)
             clear gy
             have gy := gg
             clear gg
             have gg := Lib.hid (isN_of hbr gn.out)
             clear gn
             have gn := gg
             clear gg
             clear hbr cx0 cx1 cx2 cy0 cy1 cy2 cn0 cn1 cn2
             obtain ⟨cx0, cx1, cx2⟩ := gx.out.all
             obtain ⟨cy0, cy1, cy2⟩ := gy.out.all
             obtain ⟨cn0, cn1, cn2⟩ := gn.out.all
             dsimp only at cx0 cx1 cx2 cy0 cy1 cy2 cn0 cn1 cn2))
      go_wp2_with fail
      go_ret
      exact ⟨rfl, hb.out⟩

set_option maxRecDepth 100000 in
set_option maxHeartbeats 32000000 in
theorem exact_TF (xn yn : Bool) (xh xl yh yl : Int) (cw : ∀ w : World, Calls Tryd.prog 9 #[] w fun e w' => e = .returned (.bool true) ∧ Below w.heap.size w w')
    (An : Bool) (Ah Al Ae : Int) (cA : Ret 10 #[wv ⟨xn, xh, xl⟩, wv ⟨yn, yh, yl⟩] (.tuple #[wv ⟨An, Ah, Al⟩, .int .i64 Ae])) (dA : Ret 27 #[.int .i64 1, wv ⟨xn, xh, xl⟩, wv ⟨yn, yh, yl⟩] (.tuple #[wv ⟨An, Ah, Al⟩, .int .i64 Ae]))
    (Bn : Bool) (Bh Bl Be : Int) (cB : Ret 24 #[wv ⟨xn, xh, xl⟩, wv ⟨yn, yh, yl⟩] (.tuple #[wv ⟨Bn, Bh, Bl⟩, .int .i64 Be])) (dB : Ret 27 #[.int .i64 2, wv ⟨xn, xh, xl⟩, wv ⟨yn, yh, yl⟩] (.tuple #[wv ⟨Bn, Bh, Bl⟩, .int .i64 Be]))
    (Cn : Bool) (Ch Cl Ce : Int) (cC : Ret 11 #[wv ⟨xn, xh, xl⟩, wv ⟨yn, yh, yl⟩] (.tuple #[wv ⟨Cn, Ch, Cl⟩, .int .i64 Ce])) (dC : Ret 27 #[.int .i64 3, wv ⟨xn, xh, xl⟩, wv ⟨yn, yh, yl⟩] (.tuple #[wv ⟨Cn, Ch, Cl⟩, .int .i64 Ce]))
    (Dn : Bool) (Dh Dl De : Int) (cD : Ret 25 #[wv ⟨xn, xh, xl⟩, wv ⟨yn, yh, yl⟩] (.tuple #[wv ⟨Dn, Dh, Dl⟩, .int .i64 De])) (dD : Ret 27 #[.int .i64 4, wv ⟨xn, xh, xl⟩, wv ⟨yn, yh, yl⟩] (.tuple #[wv ⟨Dn, Dh, Dl⟩, .int .i64 De]))
    (En : Bool) (Eh El Ee : Int) (cE : Ret 26 #[wv ⟨xn, xh, xl⟩, wv ⟨yn, yh, yl⟩] (.tuple #[wv ⟨En, Eh, El⟩, .int .i64 Ee])) (dE : Ret 27 #[.int .i64 5, wv ⟨xn, xh, xl⟩, wv ⟨yn, yh, yl⟩] (.tuple #[wv ⟨En, Eh, El⟩, .int .i64 Ee]))
    (gX : Ret 19 #[wv ⟨xn, xh, xl⟩] (.bool true)) (fX : Ret 12 #[wv ⟨xn, xh, xl⟩] (.bool true)) (gY : Ret 19 #[wv ⟨yn, yh, yl⟩] (.bool false))
    (s : Int) (Nn : Bool) (Nh Nl : Int) (kC : Ret 13 #[wv ⟨xn, xh, xl⟩, wv ⟨yn, yh, yl⟩] (.int .i64 0)) (kS : Ret 22 #[wv ⟨xn, xh, xl⟩] (.int .i64 s)) (kN : Ret 29 #[wv ⟨xn, xh, xl⟩] (wv ⟨Nn, Nh, Nl⟩)) (rS : Ret 28 #[wv ⟨xn, xh, xl⟩, wv zero] (.int .i64 s)) (rN : Ret 27 #[.int .i64 2, wv zero, wv ⟨xn, xh, xl⟩] (.tuple #[wv ⟨Nn, Nh, Nl⟩, .int .i64 0])) :
    Ret 6 #[wv ⟨xn, xh, xl⟩, wv ⟨yn, yh, yl⟩] (.bool true) := fun w => by
  unfold wv zero at *
  dsimp only at *
  replace cw := Lib.hid cw
  replace cA := Lib.hid cA
  replace cB := Lib.hid cB
  replace cC := Lib.hid cC
  replace cD := Lib.hid cD
  replace cE := Lib.hid cE
  replace dA := Lib.hid dA
  replace dB := Lib.hid dB
  replace dC := Lib.hid dC
  replace dD := Lib.hid dD
  replace dE := Lib.hid dE
  replace gX := Lib.hid gX
  replace fX := Lib.hid fX
  replace kC := Lib.hid kC
  replace kS := Lib.hid kS
  replace kN := Lib.hid kN
  replace gY := Lib.hid gY
  replace rS := Lib.hid rS
  replace rN := Lib.hid rN
  go_enter Tryd.func6, Tryd.ntmps6
  go_wp2_with fail
  refine (cw.out _).mono ?_
  rintro e w1 ⟨rfl, hb1⟩
  obtain ⟨gx, gy, hb⟩ := two_new (x := ⟨xn, xh, xl⟩) (y := ⟨yn, yh, yl⟩) hb1
  have hs := hb.size
  clear hb1
  replace gx := Lib.hid gx
  replace gy := Lib.hid gy
  replace hb := Lib.hid hb
  obtain ⟨cx0, cx1, cx2⟩ := gx.out.all
  obtain ⟨cy0, cy1, cy2⟩ := gy.out.all
  dsimp only at cx0 cx1 cx2 cy0 cy1 cy2
  go_wp2_with fail
  refine (cA.out.on _).mono ?_
  rintro e w2 ⟨rfl, hb2⟩
  replace gx := Lib.hid (isN_of hb2 gx.out)
  replace gy := Lib.hid (isN_of hb2 gy.out)
  replace hb := Lib.hid (hb.out.trans (hb2.mono hs))
  clear hs hb2
  have hs := hb.out.size
  replace gx := Lib.hid (gx.out.alloc (oN ⟨An, Ah, Al⟩))
  replace gy := Lib.hid (gy.out.alloc (oN ⟨An, Ah, Al⟩))
  have gA := Lib.hid (IsN.new w2 ⟨An, Ah, Al⟩)
  replace hb := Lib.hid (hb.out.alloc hs (oN ⟨An, Ah, Al⟩))
  clear hs
  have hs := hb.out.size
  clear cx0 cx1 cx2 cy0 cy1 cy2
  obtain ⟨cx0, cx1, cx2⟩ := gx.out.all
  obtain ⟨cy0, cy1, cy2⟩ := gy.out.all
  dsimp only at cx0 cx1 cx2 cy0 cy1 cy2
  go_wp2_with fail
  refine (cB.out.on _).mono ?_
  rintro e w3 ⟨rfl, hb3⟩
  replace gx := Lib.hid (isN_of hb3 gx.out)
  replace gy := Lib.hid (isN_of hb3 gy.out)
  replace gA := Lib.hid (isN_of hb3 gA.out)
  replace hb := Lib.hid (hb.out.trans (hb3.mono hs))
  clear hs hb3
  have hs := hb.out.size
  replace gx := Lib.hid (gx.out.alloc (oN ⟨Bn, Bh, Bl⟩))
  replace gy := Lib.hid (gy.out.alloc (oN ⟨Bn, Bh, Bl⟩))
  replace gA := Lib.hid (gA.out.alloc (oN ⟨Bn, Bh, Bl⟩))
  have gB := Lib.hid (IsN.new w3 ⟨Bn, Bh, Bl⟩)
  replace hb := Lib.hid (hb.out.alloc hs (oN ⟨Bn, Bh, Bl⟩))
  clear hs
  have hs := hb.out.size
  clear cx0 cx1 cx2 cy0 cy1 cy2
  obtain ⟨cx0, cx1, cx2⟩ := gx.out.all
  obtain ⟨cy0, cy1, cy2⟩ := gy.out.all
  dsimp only at cx0 cx1 cx2 cy0 cy1 cy2
  go_wp2_with fail
  refine (cC.out.on _).mono ?_
  rintro e w4 ⟨rfl, hb4⟩
  replace gx := Lib.hid (isN_of hb4 gx.out)
  replace gy := Lib.hid (isN_of hb4 gy.out)
  replace gA := Lib.hid (isN_of hb4 gA.out)
  replace gB := Lib.hid (isN_of hb4 gB.out)
  replace hb := Lib.hid (hb.out.trans (hb4.mono hs))
  clear hs hb4
  have hs := hb.out.size
  replace gx := Lib.hid (gx.out.alloc (oN ⟨Cn, Ch, Cl⟩))
  replace gy := Lib.hid (gy.out.alloc (oN ⟨Cn, Ch, Cl⟩))
  replace gA := Lib.hid (gA.out.alloc (oN ⟨Cn, Ch, Cl⟩))
  replace gB := Lib.hid (gB.out.alloc (oN ⟨Cn, Ch, Cl⟩))
  have gC := Lib.hid (IsN.new w4 ⟨Cn, Ch, Cl⟩)
  replace hb := Lib.hid (hb.out.alloc hs (oN ⟨Cn, Ch, Cl⟩))
  clear hs
  have hs := hb.out.size
  clear cx0 cx1 cx2 cy0 cy1 cy2
  obtain ⟨cx0, cx1, cx2⟩ := gx.out.all
  obtain ⟨cy0, cy1, cy2⟩ := gy.out.all
  dsimp only at cx0 cx1 cx2 cy0 cy1 cy2
  go_wp2_with fail
  refine (cD.out.on _).mono ?_
  rintro e w5 ⟨rfl, hb5⟩
  replace gx := Lib.hid (isN_of hb5 gx.out)
  replace gy := Lib.hid (isN_of hb5 gy.out)
  replace gA := Lib.hid (isN_of hb5 gA.out)
  replace gB := Lib.hid (isN_of hb5 gB.out)
  replace gC := Lib.hid (isN_of hb5 gC.out)
  replace hb := Lib.hid (hb.out.trans (hb5.mono hs))
  clear hs hb5
  have hs := hb.out.size
  replace gx := Lib.hid (gx.out.alloc (oN ⟨Dn, Dh, Dl⟩))
  replace gy := Lib.hid (gy.out.alloc (oN ⟨Dn, Dh, Dl⟩))
  replace gA := Lib.hid (gA.out.alloc (oN ⟨Dn, Dh, Dl⟩))
  replace gB := Lib.hid (gB.out.alloc (oN ⟨Dn, Dh, Dl⟩))
  replace gC := Lib.hid (gC.out.alloc (oN ⟨Dn, Dh, Dl⟩))
  have gD := Lib.hid (IsN.new w5 ⟨Dn, Dh, Dl⟩)
  replace hb := Lib.hid (hb.out.alloc hs (oN ⟨Dn, Dh, Dl⟩))
  clear hs
  have hs := hb.out.size
  clear cx0 cx1 cx2 cy0 cy1 cy2
  obtain ⟨cx0, cx1, cx2⟩ := gx.out.all
  obtain ⟨cy0, cy1, cy2⟩ := gy.out.all
  dsimp only at cx0 cx1 cx2 cy0 cy1 cy2
  go_wp2_with fail
  refine (cE.out.on _).mono ?_
  rintro e w6 ⟨rfl, hb6⟩
  replace gx := Lib.hid (isN_of hb6 gx.out)
  replace gy := Lib.hid (isN_of hb6 gy.out)
  replace gA := Lib.hid (isN_of hb6 gA.out)
  replace gB := Lib.hid (isN_of hb6 gB.out)
  replace gC := Lib.hid (isN_of hb6 gC.out)
  replace gD := Lib.hid (isN_of hb6 gD.out)
  replace hb := Lib.hid (hb.out.trans (hb6.mono hs))
  clear hs hb6
  have hs := hb.out.size
  replace gx := Lib.hid (gx.out.alloc (oN ⟨En, Eh, El⟩))
  replace gy := Lib.hid (gy.out.alloc (oN ⟨En, Eh, El⟩))
  replace gA := Lib.hid (gA.out.alloc (oN ⟨En, Eh, El⟩))
  replace gB := Lib.hid (gB.out.alloc (oN ⟨En, Eh, El⟩))
  replace gC := Lib.hid (gC.out.alloc (oN ⟨En, Eh, El⟩))
  replace gD := Lib.hid (gD.out.alloc (oN ⟨En, Eh, El⟩))
  have gE := Lib.hid (IsN.new w6 ⟨En, Eh, El⟩)
  replace hb := Lib.hid (hb.out.alloc hs (oN ⟨En, Eh, El⟩))
  clear hs
  have hs := hb.out.size
  clear cx0 cx1 cx2 cy0 cy1 cy2
  obtain ⟨cx0, cx1, cx2⟩ := gx.out.all
  obtain ⟨cy0, cy1, cy2⟩ := gy.out.all
  obtain ⟨cA0, cA1, cA2⟩ := gA.out.all
  obtain ⟨cB0, cB1, cB2⟩ := gB.out.all
  obtain ⟨cC0, cC1, cC2⟩ := gC.out.all
  obtain ⟨cD0, cD1, cD2⟩ := gD.out.all
  obtain ⟨cE0, cE1, cE2⟩ := gE.out.all
  dsimp only at cx0 cx1 cx2 cy0 cy1 cy2 cA0 cA1 cA2 cB0 cB1 cB2 cC0 cC1 cC2 cD0 cD1 cD2 cE0 cE1 cE2
  go_upto_region 10 with fail
  clear cx0 cx1 cx2 cy0 cy1 cy2 cA0 cA1 cA2 cB0 cB1 cB2 cC0 cC1 cC2 cD0 cD1 cD2 cE0 cE1 cE2
  obtain ⟨wg, hwg⟩ : ∃ wg, w6.alloc (oN ⟨En, Eh, El⟩) = wg := ⟨_, rfl⟩
  have hsz : wg.heap.size = w6.heap.size + 1 := by rw [← hwg, size_alloc]
  have gx1 := (gx.out.alloc (.cells #[.bool An, .int .u64 Ah, .int .u64 Al, .bool Bn, .int .u64 Bh, .int .u64 Bl, .bool Cn, .int .u64 Ch, .int .u64 Cl, .bool Dn, .int .u64 Dh, .int .u64 Dl, .bool En, .int .u64 Eh, .int .u64 El] 43)).alloc (.cells #[.int .i64 Ae, .int .i64 Be, .int .i64 Ce, .int .i64 De, .int .i64 Ee] 44)
  have gy1 := (gy.out.alloc (.cells #[.bool An, .int .u64 Ah, .int .u64 Al, .bool Bn, .int .u64 Bh, .int .u64 Bl, .bool Cn, .int .u64 Ch, .int .u64 Cl, .bool Dn, .int .u64 Dh, .int .u64 Dl, .bool En, .int .u64 Eh, .int .u64 El] 43)).alloc (.cells #[.int .i64 Ae, .int .i64 Be, .int .i64 Ce, .int .i64 De, .int .i64 Ee] 44)
  have gG1 := (IsC.new (w6.alloc (oN ⟨En, Eh, El⟩)) 43 #[.bool An, .int .u64 Ah, .int .u64 Al, .bool Bn, .int .u64 Bh, .int .u64 Bl, .bool Cn, .int .u64 Ch, .int .u64 Cl, .bool Dn, .int .u64 Dh, .int .u64 Dl, .bool En, .int .u64 Eh, .int .u64 El]).alloc (.cells #[.int .i64 Ae, .int .i64 Be, .int .i64 Ce, .int .i64 De, .int .i64 Ee] 44)
  have gE1 := IsC.new ((w6.alloc (oN ⟨En, Eh, El⟩)).alloc (.cells #[.bool An, .int .u64 Ah, .int .u64 Al, .bool Bn, .int .u64 Bh, .int .u64 Bl, .bool Cn, .int .u64 Ch, .int .u64 Cl, .bool Dn, .int .u64 Dh, .int .u64 Dl, .bool En, .int .u64 Eh, .int .u64 El] 43)) 44 #[.int .i64 Ae, .int .i64 Be, .int .i64 Ce, .int .i64 De, .int .i64 Ee]
  have hb1 := (hb.out.alloc hs (.cells #[.bool An, .int .u64 Ah, .int .u64 Al, .bool Bn, .int .u64 Bh, .int .u64 Bl, .bool Cn, .int .u64 Ch, .int .u64 Cl, .bool Dn, .int .u64 Dh, .int .u64 Dl, .bool En, .int .u64 Eh, .int .u64 El] 43)).alloc (by rw [size_alloc]; omega) (.cells #[.int .i64 Ae, .int .i64 Be, .int .i64 Ce, .int .i64 De, .int .i64 Ee] 44)
  rw [size_alloc, size_alloc] at gE1
  rw [size_alloc] at gG1
  have hs6 : w.heap.size + 1 < w6.heap.size + 1 := by have := gy.out.lt; rw [size_alloc] at this; exact this
  clear gx gy gA gB gC gD gE hb hs hwg hsz wg
  (try dsimp only at gx1 gy1 gG1 gE1 hb1)
  generalize ((w6.alloc (oN ⟨En, Eh, El⟩)).alloc (.cells #[.bool An, .int .u64 Ah, .int .u64 Al, .bool Bn, .int .u64 Bh, .int .u64 Bl, .bool Cn, .int .u64 Ch, .int .u64 Cl, .bool Dn, .int .u64 Dh, .int .u64 Dl, .bool En, .int .u64 Eh, .int .u64 El] 43)).alloc (.cells #[.int .i64 Ae, .int .i64 Be, .int .i64 Ce, .int .i64 De, .int .i64 Ee] 44) = v0 at *
  have gx := Lib.hid gx1
  have gy := Lib.hid gy1
  have gG := Lib.hid gG1
  have gE := Lib.hid gE1
  have hb := Lib.hid hb1
  clear gx1 gy1 gG1 gE1 hb1
  replace hs6 := Lib.hid hs6
  go_wp2_with fail
  go_loopw [17] (fun iv wr => ∃ j : Int, 0 ≤ j ∧ j ≤ 5 ∧ iv = .int .i64 j ∧ IsN wr w.heap.size ⟨xn, xh, xl⟩ ∧ IsN wr (w.heap.size + 1) ⟨yn, yh, yl⟩ ∧ IsC wr (w6.heap.size + 1) 43 #[.bool An, .int .u64 Ah, .int .u64 Al, .bool Bn, .int .u64 Bh, .int .u64 Bl, .bool Cn, .int .u64 Ch, .int .u64 Cl, .bool Dn, .int .u64 Dh, .int .u64 Dl, .bool En, .int .u64 Eh, .int .u64 El] ∧ IsC wr (w6.heap.size + 1 + 1) 44 #[.int .i64 Ae, .int .i64 Be, .int .i64 Ce, .int .i64 De, .int .i64 Ee] ∧ Below w.heap.size w wr) (fun i _ => (5 - intOf i).toNat)
  case atStart => exact ⟨0, by omega, by omega, rfl, gx.out, gy.out, gG.out, gE.out, hb.out⟩
  case round =>
    clear gx gy gG gE hb
    obtain ⟨j, hj0, hj5, rfl, gx, gy, gG, gE, hb⟩ := hrel
    replace gx := Lib.hid gx
    replace gy := Lib.hid gy
    replace gG := Lib.hid gG
    replace gE := Lib.hid gE
    replace hb := Lib.hid hb
    have hs := hb.out.size
    have hcase : j = 0 ∨ j = 1 ∨ j = 2 ∨ j = 3 ∨ j = 4 ∨ j = 5 := by omega
    clear hj0 hj5
    rcases hcase with rfl | rfl | rfl | rfl | rfl | rfl
    · obtain ⟨cx0, cx1, cx2⟩ := gx.out.all
      obtain ⟨cy0, cy1, cy2⟩ := gy.out.all
      dsimp only at cx0 cx1 cx2 cy0 cy1 cy2
      go_wp2_with fail
      refine (dA.out.on _).mono ?_
      rintro e w7 ⟨rfl, hb7⟩
      replace gx := Lib.hid (isN_of hb7 gx.out)
      replace gy := Lib.hid (isN_of hb7 gy.out)
      replace gG := Lib.hid (isC_of hb7 gG.out)
      replace gE := Lib.hid (isC_of hb7 gE.out)
      replace hb := Lib.hid (hb.out.trans (hb7.mono hs))
      clear hs hb7
      have hs := hb.out.size
      replace gx := Lib.hid (gx.out.alloc (oN ⟨An, Ah, Al⟩))
      replace gy := Lib.hid (gy.out.alloc (oN ⟨An, Ah, Al⟩))
      replace gG := Lib.hid (gG.out.alloc (oN ⟨An, Ah, Al⟩))
      replace gE := Lib.hid (gE.out.alloc (oN ⟨An, Ah, Al⟩))
      have gu := Lib.hid (IsN.new w7 ⟨An, Ah, Al⟩)
      replace hb := Lib.hid (hb.out.alloc hs (oN ⟨An, Ah, Al⟩))
      clear hs
      have hs := hb.out.size
      clear cx0 cx1 cx2 cy0 cy1 cy2
      obtain ⟨cu0, cu1, cu2⟩ := gu.out.all
      dsimp only at cu0 cu1 cu2
      have h0 := gG.out.cell 0
      have h1 := gG.out.cell 1
      have h2 := gG.out.cell 2
      have h3 := gE.out.cell 0
      simp only [List.getElem?_toArray, List.getElem?_cons_succ, List.getElem?_cons_zero] at h0 h1 h2 h3
      go_wp2_with fail
      go_quiet (fail)
      clear cu0 cu1 cu2
      clear h0 h1 h2 h3
      go_wp2_with fail
      go_roundw
      case rel => exact ⟨1, by omega, by omega, rfl, isN_drewN gx.out, isN_drewN gy.out, gG.out.drewN, gE.out.drewN, below_drewN hb.out⟩
      case measure => simp [intOf]
    · obtain ⟨cx0, cx1, cx2⟩ := gx.out.all
      obtain ⟨cy0, cy1, cy2⟩ := gy.out.all
      dsimp only at cx0 cx1 cx2 cy0 cy1 cy2
      go_wp2_with fail
      refine (dB.out.on _).mono ?_
      rintro e w7 ⟨rfl, hb7⟩
      replace gx := Lib.hid (isN_of hb7 gx.out)
      replace gy := Lib.hid (isN_of hb7 gy.out)
      replace gG := Lib.hid (isC_of hb7 gG.out)
      replace gE := Lib.hid (isC_of hb7 gE.out)
      replace hb := Lib.hid (hb.out.trans (hb7.mono hs))
      clear hs hb7
      have hs := hb.out.size
      replace gx := Lib.hid (gx.out.alloc (oN ⟨Bn, Bh, Bl⟩))
      replace gy := Lib.hid (gy.out.alloc (oN ⟨Bn, Bh, Bl⟩))
      replace gG := Lib.hid (gG.out.alloc (oN ⟨Bn, Bh, Bl⟩))
      replace gE := Lib.hid (gE.out.alloc (oN ⟨Bn, Bh, Bl⟩))
      have gu := Lib.hid (IsN.new w7 ⟨Bn, Bh, Bl⟩)
      replace hb := Lib.hid (hb.out.alloc hs (oN ⟨Bn, Bh, Bl⟩))
      clear hs
      have hs := hb.out.size
      clear cx0 cx1 cx2 cy0 cy1 cy2
      obtain ⟨cu0, cu1, cu2⟩ := gu.out.all
      dsimp only at cu0 cu1 cu2
      have h0 := gG.out.cell 3
      have h1 := gG.out.cell 4
      have h2 := gG.out.cell 5
      have h3 := gE.out.cell 1
      simp only [List.getElem?_toArray, List.getElem?_cons_succ, List.getElem?_cons_zero] at h0 h1 h2 h3
      go_wp2_with fail
      go_quiet (fail)
      clear cu0 cu1 cu2
      clear h0 h1 h2 h3
      go_wp2_with fail
      go_roundw
      case rel => exact ⟨2, by omega, by omega, rfl, isN_drewN gx.out, isN_drewN gy.out, gG.out.drewN, gE.out.drewN, below_drewN hb.out⟩
      case measure => simp [intOf]
    · obtain ⟨cx0, cx1, cx2⟩ := gx.out.all
      obtain ⟨cy0, cy1, cy2⟩ := gy.out.all
      dsimp only at cx0 cx1 cx2 cy0 cy1 cy2
      go_wp2_with fail
      refine (dC.out.on _).mono ?_
      rintro e w7 ⟨rfl, hb7⟩
      replace gx := Lib.hid (isN_of hb7 gx.out)
      replace gy := Lib.hid (isN_of hb7 gy.out)
      replace gG := Lib.hid (isC_of hb7 gG.out)
      replace gE := Lib.hid (isC_of hb7 gE.out)
      replace hb := Lib.hid (hb.out.trans (hb7.mono hs))
      clear hs hb7
      have hs := hb.out.size
      replace gx := Lib.hid (gx.out.alloc (oN ⟨Cn, Ch, Cl⟩))
      replace gy := Lib.hid (gy.out.alloc (oN ⟨Cn, Ch, Cl⟩))
      replace gG := Lib.hid (gG.out.alloc (oN ⟨Cn, Ch, Cl⟩))
      replace gE := Lib.hid (gE.out.alloc (oN ⟨Cn, Ch, Cl⟩))
      have gu := Lib.hid (IsN.new w7 ⟨Cn, Ch, Cl⟩)
      replace hb := Lib.hid (hb.out.alloc hs (oN ⟨Cn, Ch, Cl⟩))
      clear hs
      have hs := hb.out.size
      clear cx0 cx1 cx2 cy0 cy1 cy2
      obtain ⟨cu0, cu1, cu2⟩ := gu.out.all
      dsimp only at cu0 cu1 cu2
      have h0 := gG.out.cell 6
      have h1 := gG.out.cell 7
      have h2 := gG.out.cell 8
      have h3 := gE.out.cell 2
      simp only [List.getElem?_toArray, List.getElem?_cons_succ, List.getElem?_cons_zero] at h0 h1 h2 h3
      go_wp2_with fail
      go_quiet (fail)
      clear cu0 cu1 cu2
      clear h0 h1 h2 h3
      go_wp2_with fail
      go_roundw
      case rel => exact ⟨3, by omega, by omega, rfl, isN_drewN gx.out, isN_drewN gy.out, gG.out.drewN, gE.out.drewN, below_drewN hb.out⟩
      case measure => simp [intOf]
    · obtain ⟨cx0, cx1, cx2⟩ := gx.out.all
      obtain ⟨cy0, cy1, cy2⟩ := gy.out.all
      dsimp only at cx0 cx1 cx2 cy0 cy1 cy2
      go_wp2_with fail
      refine (dD.out.on _).mono ?_
      rintro e w7 ⟨rfl, hb7⟩
      replace gx := Lib.hid (isN_of hb7 gx.out)
      replace gy := Lib.hid (isN_of hb7 gy.out)
      replace gG := Lib.hid (isC_of hb7 gG.out)
      replace gE := Lib.hid (isC_of hb7 gE.out)
      replace hb := Lib.hid (hb.out.trans (hb7.mono hs))
      clear hs hb7
      have hs := hb.out.size
      replace gx := Lib.hid (gx.out.alloc (oN ⟨Dn, Dh, Dl⟩))
      replace gy := Lib.hid (gy.out.alloc (oN ⟨Dn, Dh, Dl⟩))
      replace gG := Lib.hid (gG.out.alloc (oN ⟨Dn, Dh, Dl⟩))
      replace gE := Lib.hid (gE.out.alloc (oN ⟨Dn, Dh, Dl⟩))
      have gu := Lib.hid (IsN.new w7 ⟨Dn, Dh, Dl⟩)
      replace hb := Lib.hid (hb.out.alloc hs (oN ⟨Dn, Dh, Dl⟩))
      clear hs
      have hs := hb.out.size
      clear cx0 cx1 cx2 cy0 cy1 cy2
      obtain ⟨cu0, cu1, cu2⟩ := gu.out.all
      dsimp only at cu0 cu1 cu2
      have h0 := gG.out.cell 9
      have h1 := gG.out.cell 10
      have h2 := gG.out.cell 11
      have h3 := gE.out.cell 3
      simp only [List.getElem?_toArray, List.getElem?_cons_succ, List.getElem?_cons_zero] at h0 h1 h2 h3
      go_wp2_with fail
      go_quiet (fail)
      clear cu0 cu1 cu2
      clear h0 h1 h2 h3
      go_wp2_with fail
      go_roundw
      case rel => exact ⟨4, by omega, by omega, rfl, isN_drewN gx.out, isN_drewN gy.out, gG.out.drewN, gE.out.drewN, below_drewN hb.out⟩
      case measure => simp [intOf]
    · obtain ⟨cx0, cx1, cx2⟩ := gx.out.all
      obtain ⟨cy0, cy1, cy2⟩ := gy.out.all
      dsimp only at cx0 cx1 cx2 cy0 cy1 cy2
      go_wp2_with fail
      refine (dE.out.on _).mono ?_
      rintro e w7 ⟨rfl, hb7⟩
      replace gx := Lib.hid (isN_of hb7 gx.out)
      replace gy := Lib.hid (isN_of hb7 gy.out)
      replace gG := Lib.hid (isC_of hb7 gG.out)
      replace gE := Lib.hid (isC_of hb7 gE.out)
      replace hb := Lib.hid (hb.out.trans (hb7.mono hs))
      clear hs hb7
      have hs := hb.out.size
      replace gx := Lib.hid (gx.out.alloc (oN ⟨En, Eh, El⟩))
      replace gy := Lib.hid (gy.out.alloc (oN ⟨En, Eh, El⟩))
      replace gG := Lib.hid (gG.out.alloc (oN ⟨En, Eh, El⟩))
      replace gE := Lib.hid (gE.out.alloc (oN ⟨En, Eh, El⟩))
      have gu := Lib.hid (IsN.new w7 ⟨En, Eh, El⟩)
      replace hb := Lib.hid (hb.out.alloc hs (oN ⟨En, Eh, El⟩))
      clear hs
      have hs := hb.out.size
      clear cx0 cx1 cx2 cy0 cy1 cy2
      obtain ⟨cu0, cu1, cu2⟩ := gu.out.all
      dsimp only at cu0 cu1 cu2
      have h0 := gG.out.cell 12
      have h1 := gG.out.cell 13
      have h2 := gG.out.cell 14
      have h3 := gE.out.cell 4
      simp only [List.getElem?_toArray, List.getElem?_cons_succ, List.getElem?_cons_zero] at h0 h1 h2 h3
      go_wp2_with fail
      go_quiet (fail)
      clear cu0 cu1 cu2
      clear h0 h1 h2 h3
      go_wp2_with fail
      go_roundw
      case rel => exact ⟨5, by omega, by omega, rfl, isN_drewN gx.out, isN_drewN gy.out, gG.out.drewN, gE.out.drewN, below_drewN hb.out⟩
      case measure => simp [intOf]
    · clear gG gE
      obtain ⟨cx0, cx1, cx2⟩ := gx.out.all
      obtain ⟨cy0, cy1, cy2⟩ := gy.out.all
      dsimp only at cx0 cx1 cx2 cy0 cy1 cy2
      go_wp2_with fail
      refine (gX.out.on _).mono ?_
      rintro e w7 ⟨rfl, hb7⟩
      replace gx := Lib.hid (isN_of hb7 gx.out)
      replace gy := Lib.hid (isN_of hb7 gy.out)
      replace hb := Lib.hid (hb.out.trans (hb7.mono hs))
      clear hs hb7
      have hs := hb.out.size
      clear cx0 cx1 cx2 cy0 cy1 cy2
      obtain ⟨cx0, cx1, cx2⟩ := gx.out.all
      obtain ⟨cy0, cy1, cy2⟩ := gy.out.all
      dsimp only at cx0 cx1 cx2 cy0 cy1 cy2
      go_wp2_with fail
      refine (gY.out.on _).mono ?_
      rintro e w8 ⟨rfl, hb8⟩
      replace gx := Lib.hid (isN_of hb8 gx.out)
      replace gy := Lib.hid (isN_of hb8 gy.out)
      replace hb := Lib.hid (hb.out.trans (hb8.mono hs))
      clear hs hb8
      have hs := hb.out.size
      clear cx0 cx1 cx2 cy0 cy1 cy2
      obtain ⟨cx0, cx1, cx2⟩ := gx.out.all
      obtain ⟨cy0, cy1, cy2⟩ := gy.out.all
      dsimp only at cx0 cx1 cx2 cy0 cy1 cy2
      go_upto_region 21 with fail
      clear cx0 cx1 cx2 cy0 cy1 cy2
      have hsn := Lib.hid gy.out.lt
      replace gx := Lib.hid (gx.out.alloc (oN ⟨false, 0, 0⟩))
      replace gy := Lib.hid (gy.out.alloc (oN ⟨false, 0, 0⟩))
      have gn := Lib.hid (IsN.new w8 ⟨false, 0, 0⟩)
      replace hb := Lib.hid (hb.out.alloc hs (oN ⟨false, 0, 0⟩))
      clear hs
      have hs := hb.out.size
      obtain ⟨cx0, cx1, cx2⟩ := gx.out.all
      obtain ⟨cy0, cy1, cy2⟩ := gy.out.all
      dsimp only at cx0 cx1 cx2 cy0 cy1 cy2
      go_wp2_with fail
      refine (gX.out.on _).mono ?_
      rintro e w9 ⟨rfl, hb9⟩
      replace gx := Lib.hid (isN_of hb9 gx.out)
      replace gy := Lib.hid (isN_of hb9 gy.out)
      replace gn := Lib.hid (isN_of hb9 gn.out)
      replace hb := Lib.hid (hb.out.trans (hb9.mono hs))
      clear hs hb9
      have hs := hb.out.size
      clear cx0 cx1 cx2 cy0 cy1 cy2
      obtain ⟨cx0, cx1, cx2⟩ := gx.out.all
      obtain ⟨cy0, cy1, cy2⟩ := gy.out.all
      dsimp only at cx0 cx1 cx2 cy0 cy1 cy2
      go_wp2_with fail
      refine (rS.out.on _).mono ?_
      rintro e w10 ⟨rfl, hb10⟩
      replace gx := Lib.hid (isN_of hb10 gx.out)
      replace gy := Lib.hid (isN_of hb10 gy.out)
      replace gn := Lib.hid (isN_of hb10 gn.out)
      replace hb := Lib.hid (hb.out.trans (hb10.mono hs))
      clear hs hb10
      have hs := hb.out.size
      clear cx0 cx1 cx2 cy0 cy1 cy2
      obtain ⟨cx0, cx1, cx2⟩ := gx.out.all
      obtain ⟨cy0, cy1, cy2⟩ := gy.out.all
      dsimp only at cx0 cx1 cx2 cy0 cy1 cy2
      go_wp2_with fail
      refine (rN.out.on _).mono ?_
      rintro e w11 ⟨rfl, hb11⟩
      replace gx := Lib.hid (isN_of hb11 gx.out)
      replace gy := Lib.hid (isN_of hb11 gy.out)
      replace gn := Lib.hid (isN_of hb11 gn.out)
      replace hb := Lib.hid (hb.out.trans (hb11.mono hs))
      clear hs hb11
      have hs := hb.out.size
      clear cx0 cx1 cx2 cy0 cy1 cy2
      obtain ⟨cn0, cn1, cn2⟩ := gn.out.all
      dsimp only at cn0 cn1 cn2
      have fn := gn.out.f
      go_upto_region 24 with fail
      clear cn0 cn1 cn2
      clear fn
      replace gx := Lib.hid (gx.out.set3_other (c := w8.heap.size) (v0 := .bool Nn) (v1 := .int .u64 Nh) (v2 := .int .u64 Nl) (by have := hsn.out; omega))
      replace gy := Lib.hid (gy.out.set3_other (c := w8.heap.size) (v0 := .bool Nn) (v1 := .int .u64 Nh) (v2 := .int .u64 Nl) (by have := hsn.out; omega))
      replace gn := Lib.hid (gn.out.set Nn Nh Nl)
      replace hb := Lib.hid (below_set3 hb.out (show w.heap.size ≤ w8.heap.size by have := hsn.out; omega) (.bool Nn) (.int .u64 Nh) (.int .u64 Nl))
      clear hs
      generalize ((w11.setCell ⟨w8.heap.size, 0, none⟩ (.bool Nn)).setCell ⟨w8.heap.size, 1, none⟩ (.int .u64 Nh)).setCell ⟨w8.heap.size, 2, none⟩ (.int .u64 Nl) = v9 at *
      have hs := hb.out.size
      replace hb := Lib.hid (below_drewed hb.out)
      clear hs
      have hs := hb.out.size
      obtain ⟨cx0, cx1, cx2⟩ := gx.out.all
      obtain ⟨cy0, cy1, cy2⟩ := gy.out.all
      obtain ⟨cn0, cn1, cn2⟩ := gn.out.all
      dsimp only at cx0 cx1 cx2 cy0 cy1 cy2 cn0 cn1 cn2
      have mk0 := Lib.hid trivial
      have mk1 := Lib.hid trivial
      have mk2 := Lib.hid trivial
      have mk3 := Lib.hid trivial
      have mk4 := Lib.hid trivial
      go_wp2_with fail
      go_region_held3 (fun w1 => w1.cell? ⟨w.heap.size, 0, none⟩ = some (.bool xn) ∧ w1.cell? ⟨w.heap.size, 1, none⟩ = some (.int .u64 xh) ∧ w1.cell? ⟨w.heap.size, 2, none⟩ = some (.int .u64 xl) ∧ w1.cell? ⟨w.heap.size + 1, 0, none⟩ = some (.bool yn) ∧ w1.cell? ⟨w.heap.size + 1, 1, none⟩ = some (.int .u64 yh) ∧ w1.cell? ⟨w.heap.size + 1, 2, none⟩ = some (.int .u64 yl) ∧ w1.cell? ⟨w8.heap.size, 0, none⟩ = some (.bool Nn) ∧ w1.cell? ⟨w8.heap.size, 1, none⟩ = some (.int .u64 Nh) ∧ w1.cell? ⟨w8.heap.size, 2, none⟩ = some (.int .u64 Nl)) (go_keep)
        (first
          | (go_at_call 13
             clear mk0
             refine (kC.out.on _).mono ?_
             rintro e wr ⟨rfl, hbr⟩
             have hb2 := Lib.hid (hb.out.trans (hbr.mono hs))
             clear hb hs
             have hb := hb2
             clear hb2
             have hs := hb.out.size
             have gg := Lib.hid (isN_of hbr gx.out)
             clear gx
             have gx := gg
             clear gg
             have gg := Lib.hid (isN_of hbr gy.out)
             clear gy
             have gy := gg
             clear gg
             have gg := Lib.hid (isN_of hbr gn.out)
             clear gn
             have gn := gg
             clear gg
             clear hbr cx0 cx1 cx2 cy0 cy1 cy2 cn0 cn1 cn2
             obtain ⟨cx0, cx1, cx2⟩ := gx.out.all
             obtain ⟨cy0, cy1, cy2⟩ := gy.out.all
             obtain ⟨cn0, cn1, cn2⟩ := gn.out.all
             dsimp only at cx0 cx1 cx2 cy0 cy1 cy2 cn0 cn1 cn2)
          | (go_at_call 22
             clear mk1
             refine (kS.out.on _).mono ?_
             rintro e wr ⟨rfl, hbr⟩
             have hb2 := Lib.hid (hb.out.trans (hbr.mono hs))
             clear hb hs
             have hb := hb2
             clear hb2
             have hs := hb.out.size
             have gg := Lib.hid (isN_of hbr gx.out)
             clear gx
             have gx := gg
             clear gg
             have gg := Lib.hid (isN_of hbr gy.out)
             clear gy
             have gy := gg
             clear gg
             have gg := Lib.hid (isN_of hbr gn.out)
             clear gn
             have gn := gg
             clear gg
             clear hbr cx0 cx1 cx2 cy0 cy1 cy2 cn0 cn1 cn2
             obtain ⟨cx0, cx1, cx2⟩ := gx.out.all
             obtain ⟨cy0, cy1, cy2⟩ := gy.out.all
             obtain ⟨cn0, cn1, cn2⟩ := gn.out.all
             dsimp only at cx0 cx1 cx2 cy0 cy1 cy2 cn0 cn1 cn2)
          | (go_at_call 29
             clear mk2
             refine (kN.out.on _).mono ?_
             rintro e wr ⟨rfl, hbr⟩
             have hb2 := Lib.hid (hb.out.trans (hbr.mono hs))
             clear hb hs
             have hb := hb2
             clear hb2
             have hs := hb.out.size
             have gg := Lib.hid (isN_of hbr gx.out)
             clear gx
             have gx := gg
             clear gg
             have gg := Lib.hid (isN_of hbr gy.out)
             clear gy
             have gy := gg
             clear gg
             have gg := Lib.hid (isN_of hbr gn.out)
             clear gn
             have gn := gg
             clear gg
             clear hbr cx0 cx1 cx2 cy0 cy1 cy2 cn0 cn1 cn2
             obtain ⟨cx0, cx1, cx2⟩ := gx.out.all
             obtain ⟨cy0, cy1, cy2⟩ := gy.out.all
             obtain ⟨cn0, cn1, cn2⟩ := gn.out.all
             dsimp only at cx0 cx1 cx2 cy0 cy1 cy2 cn0 cn1 cn2)
          | (go_at_call 12
             clear mk3
             refine (fX.out.on _).mono ?_
             rintro e wr ⟨rfl, hbr⟩
             have hb2 := Lib.hid (hb.out.trans (hbr.mono hs))
             clear hb hs
             have hb := hb2
             clear hb2
             have hs := hb.out.size
             have gg := Lib.hid (isN_of hbr gx.out)
             clear gx
             have gx := gg
             clear gg
             have gg := Lib.hid (isN_of hbr gy.out)
             clear gy
             have gy := gg
             clear gg
             have gg := Lib.hid (isN_of hbr gn.out)
             clear gn
             have gn := gg
             clear gg
             clear hbr cx0 cx1 cx2 cy0 cy1 cy2 cn0 cn1 cn2
             obtain ⟨cx0, cx1, cx2⟩ := gx.out.all
             obtain ⟨cy0, cy1, cy2⟩ := gy.out.all
             obtain ⟨cn0, cn1, cn2⟩ := gn.out.all
             dsimp only at cx0 cx1 cx2 cy0 cy1 cy2 cn0 cn1 cn2)
          | (go_at_call 19
             clear mk4
             refine (gX.out.on _).mono ?_
             rintro e wr ⟨rfl, hbr⟩
             have hb2 := Lib.hid (hb.out.trans (hbr.mono hs))
             clear hb hs
             have hb := hb2
             clear hb2
             have hs := hb.out.size
             have gg := Lib.hid (isN_of hbr gx.out)
             clear gx
             have gx := gg
             clear gg
             have gg := Lib.hid (isN_of hbr gy.out)
             clear gy
             have gy := gg
             clear gg
             have gg := Lib.hid (isN_of hbr gn.out)
             clear gn
             have gn := gg
             clear gg
             clear hbr cx0 cx1 cx2 cy0 cy1 cy2 cn0 cn1 cn2
             obtain ⟨cx0, cx1, cx2⟩ := gx.out.all
             obtain ⟨cy0, cy1, cy2⟩ := gy.out.all
             obtain ⟨cn0, cn1, cn2⟩ := gn.out.all
             dsimp only at cx0 cx1 cx2 cy0 cy1 cy2 cn0 cn1 cn2))
      go_wp2_with fail
      go_ret
      exact ⟨rfl, hb.out⟩

set_option maxRecDepth 100000 in
set_option maxHeartbeats 32000000 in
theorem exact_F (xn yn : Bool) (xh xl yh yl : Int) (cw : ∀ w : World, Calls Tryd.prog 9 #[] w fun e w' => e = .returned (.bool true) ∧ Below w.heap.size w w')
    (An : Bool) (Ah Al Ae : Int) (cA : Ret 10 #[wv ⟨xn, xh, xl⟩, wv ⟨yn, yh, yl⟩] (.tuple #[wv ⟨An, Ah, Al⟩, .int .i64 Ae])) (dA : Ret 27 #[.int .i64 1, wv ⟨xn, xh, xl⟩, wv ⟨yn, yh, yl⟩] (.tuple #[wv ⟨An, Ah, Al⟩, .int .i64 Ae]))
    (Bn : Bool) (Bh Bl Be : Int) (cB : Ret 24 #[wv ⟨xn, xh, xl⟩, wv ⟨yn, yh, yl⟩] (.tuple #[wv ⟨Bn, Bh, Bl⟩, .int .i64 Be])) (dB : Ret 27 #[.int .i64 2, wv ⟨xn, xh, xl⟩, wv ⟨yn, yh, yl⟩] (.tuple #[wv ⟨Bn, Bh, Bl⟩, .int .i64 Be]))
    (Cn : Bool) (Ch Cl Ce : Int) (cC : Ret 11 #[wv ⟨xn, xh, xl⟩, wv ⟨yn, yh, yl⟩] (.tuple #[wv ⟨Cn, Ch, Cl⟩, .int .i64 Ce])) (dC : Ret 27 #[.int .i64 3, wv ⟨xn, xh, xl⟩, wv ⟨yn, yh, yl⟩] (.tuple #[wv ⟨Cn, Ch, Cl⟩, .int .i64 Ce]))
    (Dn : Bool) (Dh Dl De : Int) (cD : Ret 25 #[wv ⟨xn, xh, xl⟩, wv ⟨yn, yh, yl⟩] (.tuple #[wv ⟨Dn, Dh, Dl⟩, .int .i64 De])) (dD : Ret 27 #[.int .i64 4, wv ⟨xn, xh, xl⟩, wv ⟨yn, yh, yl⟩] (.tuple #[wv ⟨Dn, Dh, Dl⟩, .int .i64 De]))
    (En : Bool) (Eh El Ee : Int) (cE : Ret 26 #[wv ⟨xn, xh, xl⟩, wv ⟨yn, yh, yl⟩] (.tuple #[wv ⟨En, Eh, El⟩, .int .i64 Ee])) (dE : Ret 27 #[.int .i64 5, wv ⟨xn, xh, xl⟩, wv ⟨yn, yh, yl⟩] (.tuple #[wv ⟨En, Eh, El⟩, .int .i64 Ee]))
    (gX : Ret 19 #[wv ⟨xn, xh, xl⟩] (.bool false)) (fX : Ret 12 #[wv ⟨xn, xh, xl⟩] (.bool false))
    (kC : Ret 13 #[wv ⟨xn, xh, xl⟩, wv ⟨yn, yh, yl⟩] (.int .i64 0)) (kS : Ret 22 #[wv ⟨xn, xh, xl⟩] (.int .i64 0)) (kN : Ret 29 #[wv ⟨xn, xh, xl⟩] (wv zero)) :
    Ret 6 #[wv ⟨xn, xh, xl⟩, wv ⟨yn, yh, yl⟩] (.bool true) := fun w => by
  unfold wv zero at *
  dsimp only at *
  replace cw := Lib.hid cw
  replace cA := Lib.hid cA
  replace cB := Lib.hid cB
  replace cC := Lib.hid cC
  replace cD := Lib.hid cD
  replace cE := Lib.hid cE
  replace dA := Lib.hid dA
  replace dB := Lib.hid dB
  replace dC := Lib.hid dC
  replace dD := Lib.hid dD
  replace dE := Lib.hid dE
  replace gX := Lib.hid gX
  replace fX := Lib.hid fX
  replace kC := Lib.hid kC
  replace kS := Lib.hid kS
  replace kN := Lib.hid kN
  go_enter Tryd.func6, Tryd.ntmps6
  go_wp2_with fail
  refine (cw.out _).mono ?_
  rintro e w1 ⟨rfl, hb1⟩
  obtain ⟨gx, gy, hb⟩ := two_new (x := ⟨xn, xh, xl⟩) (y := ⟨yn, yh, yl⟩) hb1
  have hs := hb.size
  clear hb1
  replace gx := Lib.hid gx
  replace gy := Lib.hid gy
  replace hb := Lib.hid hb
  obtain ⟨cx0, cx1, cx2⟩ := gx.out.all
  obtain ⟨cy0, cy1, cy2⟩ := gy.out.all
  dsimp only at cx0 cx1 cx2 cy0 cy1 cy2
  go_wp2_with fail
  refine (cA.out.on _).mono ?_
  rintro e w2 ⟨rfl, hb2⟩
  replace gx := Lib.hid (isN_of hb2 gx.out)
  replace gy := Lib.hid (isN_of hb2 gy.out)
  replace hb := Lib.hid (hb.out.trans (hb2.mono hs))
  clear hs hb2
  have hs := hb.out.size
  replace gx := Lib.hid (gx.out.alloc (oN ⟨An, Ah, Al⟩))
  replace gy := Lib.hid (gy.out.alloc (oN ⟨An, Ah, Al⟩))
  have gA := Lib.hid (IsN.new w2 ⟨An, Ah, Al⟩)
  replace hb := Lib.hid (hb.out.alloc hs (oN ⟨An, Ah, Al⟩))
  clear hs
  have hs := hb.out.size
  clear cx0 cx1 cx2 cy0 cy1 cy2
  obtain ⟨cx0, cx1, cx2⟩ := gx.out.all
  obtain ⟨cy0, cy1, cy2⟩ := gy.out.all
  dsimp only at cx0 cx1 cx2 cy0 cy1 cy2
  go_wp2_with fail
  refine (cB.out.on _).mono ?_
  rintro e w3 ⟨rfl, hb3⟩
  replace gx := Lib.hid (isN_of hb3 gx.out)
  replace gy := Lib.hid (isN_of hb3 gy.out)
  replace gA := Lib.hid (isN_of hb3 gA.out)
  replace hb := Lib.hid (hb.out.trans (hb3.mono hs))
  clear hs hb3
  have hs := hb.out.size
  replace gx := Lib.hid (gx.out.alloc (oN ⟨Bn, Bh, Bl⟩))
  replace gy := Lib.hid (gy.out.alloc (oN ⟨Bn, Bh, Bl⟩))
  replace gA := Lib.hid (gA.out.alloc (oN ⟨Bn, Bh, Bl⟩))
  have gB := Lib.hid (IsN.new w3 ⟨Bn, Bh, Bl⟩)
  replace hb := Lib.hid (hb.out.alloc hs (oN ⟨Bn, Bh, Bl⟩))
  clear hs
  have hs := hb.out.size
  clear cx0 cx1 cx2 cy0 cy1 cy2
  obtain ⟨cx0, cx1, cx2⟩ := gx.out.all
  obtain ⟨cy0, cy1, cy2⟩ := gy.out.all
  dsimp only at cx0 cx1 cx2 cy0 cy1 cy2
  go_wp2_with fail
  refine (cC.out.on _).mono ?_
  rintro e w4 ⟨rfl, hb4⟩
  replace gx := Lib.hid (isN_of hb4 gx.out)
  replace gy := Lib.hid (isN_of hb4 gy.out)
  replace gA := Lib.hid (isN_of hb4 gA.out)
  replace gB := Lib.hid (isN_of hb4 gB.out)
  replace hb := Lib.hid (hb.out.trans (hb4.mono hs))
  clear hs hb4
  have hs := hb.out.size
  replace gx := Lib.hid (gx.out.alloc (oN ⟨Cn, Ch, Cl⟩))
  replace gy := Lib.hid (gy.out.alloc (oN ⟨Cn, Ch, Cl⟩))
  replace gA := Lib.hid (gA.out.alloc (oN ⟨Cn, Ch, Cl⟩))
  replace gB := Lib.hid (gB.out.alloc (oN ⟨Cn, Ch, Cl⟩))
  have gC := Lib.hid (IsN.new w4 ⟨Cn, Ch, Cl⟩)
  replace hb := Lib.hid (hb.out.alloc hs (oN ⟨Cn, Ch, Cl⟩))
  clear hs
  have hs := hb.out.size
  clear cx0 cx1 cx2 cy0 cy1 cy2
  obtain ⟨cx0, cx1, cx2⟩ := gx.out.all
  obtain ⟨cy0, cy1, cy2⟩ := gy.out.all
  dsimp only at cx0 cx1 cx2 cy0 cy1 cy2
  go_wp2_with fail
  refine (cD.out.on _).mono ?_
  rintro e w5 ⟨rfl, hb5⟩
  replace gx := Lib.hid (isN_of hb5 gx.out)
  replace gy := Lib.hid (isN_of hb5 gy.out)
  replace gA := Lib.hid (isN_of hb5 gA.out)
  replace gB := Lib.hid (isN_of hb5 gB.out)
  replace gC := Lib.hid (isN_of hb5 gC.out)
  replace hb := Lib.hid (hb.out.trans (hb5.mono hs))
  clear hs hb5
  have hs := hb.out.size
  replace gx := Lib.hid (gx.out.alloc (oN ⟨Dn, Dh, Dl⟩))
  replace gy := Lib.hid (gy.out.alloc (oN ⟨Dn, Dh, Dl⟩))
  replace gA := Lib.hid (gA.out.alloc (oN ⟨Dn, Dh, Dl⟩))
  replace gB := Lib.hid (gB.out.alloc (oN ⟨Dn, Dh, Dl⟩))
  replace gC := Lib.hid (gC.out.alloc (oN ⟨Dn, Dh, Dl⟩))
  have gD := Lib.hid (IsN.new w5 ⟨Dn, Dh, Dl⟩)
  replace hb := Lib.hid (hb.out.alloc hs (oN ⟨Dn, Dh, Dl⟩))
  clear hs
  have hs := hb.out.size
  clear cx0 cx1 cx2 cy0 cy1 cy2
  obtain ⟨cx0, cx1, cx2⟩ := gx.out.all
  obtain ⟨cy0, cy1, cy2⟩ := gy.out.all
  dsimp only at cx0 cx1 cx2 cy0 cy1 cy2
  go_wp2_with fail
  refine (cE.out.on _).mono ?_
  rintro e w6 ⟨rfl, hb6⟩
  replace gx := Lib.hid (isN_of hb6 gx.out)
  replace gy := Lib.hid (isN_of hb6 gy.out)
  replace gA := Lib.hid (isN_of hb6 gA.out)
  replace gB := Lib.hid (isN_of hb6 gB.out)
  replace gC := Lib.hid (isN_of hb6 gC.out)
  replace gD := Lib.hid (isN_of hb6 gD.out)
  replace hb := Lib.hid (hb.out.trans (hb6.mono hs))
  clear hs hb6
  have hs := hb.out.size
  replace gx := Lib.hid (gx.out.alloc (oN ⟨En, Eh, El⟩))
  replace gy := Lib.hid (gy.out.alloc (oN ⟨En, Eh, El⟩))
  replace gA := Lib.hid (gA.out.alloc (oN ⟨En, Eh, El⟩))
  replace gB := Lib.hid (gB.out.alloc (oN ⟨En, Eh, El⟩))
  replace gC := Lib.hid (gC.out.alloc (oN ⟨En, Eh, El⟩))
  replace gD := Lib.hid (gD.out.alloc (oN ⟨En, Eh, El⟩))
  have gE := Lib.hid (IsN.new w6 ⟨En, Eh, El⟩)
  replace hb := Lib.hid (hb.out.alloc hs (oN ⟨En, Eh, El⟩))
  clear hs
  have hs := hb.out.size
  clear cx0 cx1 cx2 cy0 cy1 cy2
  obtain ⟨cx0, cx1, cx2⟩ := gx.out.all
  obtain ⟨cy0, cy1, cy2⟩ := gy.out.all
  obtain ⟨cA0, cA1, cA2⟩ := gA.out.all
  obtain ⟨cB0, cB1, cB2⟩ := gB.out.all
  obtain ⟨cC0, cC1, cC2⟩ := gC.out.all
  obtain ⟨cD0, cD1, cD2⟩ := gD.out.all
  obtain ⟨cE0, cE1, cE2⟩ := gE.out.all
  dsimp only at cx0 cx1 cx2 cy0 cy1 cy2 cA0 cA1 cA2 cB0 cB1 cB2 cC0 cC1 cC2 cD0 cD1 cD2 cE0 cE1 cE2
  go_upto_region 10 with fail
  clear cx0 cx1 cx2 cy0 cy1 cy2 cA0 cA1 cA2 cB0 cB1 cB2 cC0 cC1 cC2 cD0 cD1 cD2 cE0 cE1 cE2
  obtain ⟨wg, hwg⟩ : ∃ wg, w6.alloc (oN ⟨En, Eh, El⟩) = wg := ⟨_, rfl⟩
  have hsz : wg.heap.size = w6.heap.size + 1 := by rw [← hwg, size_alloc]
  have gx1 := (gx.out.alloc (.cells #[.bool An, .int .u64 Ah, .int .u64 Al, .bool Bn, .int .u64 Bh, .int .u64 Bl, .bool Cn, .int .u64 Ch, .int .u64 Cl, .bool Dn, .int .u64 Dh, .int .u64 Dl, .bool En, .int .u64 Eh, .int .u64 El] 43)).alloc (.cells #[.int .i64 Ae, .int .i64 Be, .int .i64 Ce, .int .i64 De, .int .i64 Ee] 44)
  have gy1 := (gy.out.alloc (.cells #[.bool An, .int .u64 Ah, .int .u64 Al, .bool Bn, .int .u64 Bh, .int .u64 Bl, .bool Cn, .int .u64 Ch, .int .u64 Cl, .bool Dn, .int .u64 Dh, .int .u64 Dl, .bool En, .int .u64 Eh, .int .u64 El] 43)).alloc (.cells #[.int .i64 Ae, .int .i64 Be, .int .i64 Ce, .int .i64 De, .int .i64 Ee] 44)
  have gG1 := (IsC.new (w6.alloc (oN ⟨En, Eh, El⟩)) 43 #[.bool An, .int .u64 Ah, .int .u64 Al, .bool Bn, .int .u64 Bh, .int .u64 Bl, .bool Cn, .int .u64 Ch, .int .u64 Cl, .bool Dn, .int .u64 Dh, .int .u64 Dl, .bool En, .int .u64 Eh, .int .u64 El]).alloc (.cells #[.int .i64 Ae, .int .i64 Be, .int .i64 Ce, .int .i64 De, .int .i64 Ee] 44)
  have gE1 := IsC.new ((w6.alloc (oN ⟨En, Eh, El⟩)).alloc (.cells #[.bool An, .int .u64 Ah, .int .u64 Al, .bool Bn, .int .u64 Bh, .int .u64 Bl, .bool Cn, .int .u64 Ch, .int .u64 Cl, .bool Dn, .int .u64 Dh, .int .u64 Dl, .bool En, .int .u64 Eh, .int .u64 El] 43)) 44 #[.int .i64 Ae, .int .i64 Be, .int .i64 Ce, .int .i64 De, .int .i64 Ee]
  have hb1 := (hb.out.alloc hs (.cells #[.bool An, .int .u64 Ah, .int .u64 Al, .bool Bn, .int .u64 Bh, .int .u64 Bl, .bool Cn, .int .u64 Ch, .int .u64 Cl, .bool Dn, .int .u64 Dh, .int .u64 Dl, .bool En, .int .u64 Eh, .int .u64 El] 43)).alloc (by rw [size_alloc]; omega) (.cells #[.int .i64 Ae, .int .i64 Be, .int .i64 Ce, .int .i64 De, .int .i64 Ee] 44)
  rw [size_alloc, size_alloc] at gE1
  rw [size_alloc] at gG1
  have hs6 : w.heap.size + 1 < w6.heap.size + 1 := by have := gy.out.lt; rw [size_alloc] at this; exact this
  clear gx gy gA gB gC gD gE hb hs hwg hsz wg
  (try dsimp only at gx1 gy1 gG1 gE1 hb1)
  generalize ((w6.alloc (oN ⟨En, Eh, El⟩)).alloc (.cells #[.bool An, .int .u64 Ah, .int .u64 Al, .bool Bn, .int .u64 Bh, .int .u64 Bl, .bool Cn, .int .u64 Ch, .int .u64 Cl, .bool Dn, .int .u64 Dh, .int .u64 Dl, .bool En, .int .u64 Eh, .int .u64 El] 43)).alloc (.cells #[.int .i64 Ae, .int .i64 Be, .int .i64 Ce, .int .i64 De, .int .i64 Ee] 44) = v0 at *
  have gx := Lib.hid gx1
  have gy := Lib.hid gy1
  have gG := Lib.hid gG1
  have gE := Lib.hid gE1
  have hb := Lib.hid hb1
  clear gx1 gy1 gG1 gE1 hb1
  replace hs6 := Lib.hid hs6
  go_wp2_with fail
  go_loopw [17] (fun iv wr => ∃ j : Int, 0 ≤ j ∧ j ≤ 5 ∧ iv = .int .i64 j ∧ IsN wr w.heap.size ⟨xn, xh, xl⟩ ∧ IsN wr (w.heap.size + 1) ⟨yn, yh, yl⟩ ∧ IsC wr (w6.heap.size + 1) 43 #[.bool An, .int .u64 Ah, .int .u64 Al, .bool Bn, .int .u64 Bh, .int .u64 Bl, .bool Cn, .int .u64 Ch, .int .u64 Cl, .bool Dn, .int .u64 Dh, .int .u64 Dl, .bool En, .int .u64 Eh, .int .u64 El] ∧ IsC wr (w6.heap.size + 1 + 1) 44 #[.int .i64 Ae, .int .i64 Be, .int .i64 Ce, .int .i64 De, .int .i64 Ee] ∧ Below w.heap.size w wr) (fun i _ => (5 - intOf i).toNat)
  case atStart => exact ⟨0, by omega, by omega, rfl, gx.out, gy.out, gG.out, gE.out, hb.out⟩
  case round =>
    clear gx gy gG gE hb
    obtain ⟨j, hj0, hj5, rfl, gx, gy, gG, gE, hb⟩ := hrel
    replace gx := Lib.hid gx
    replace gy := Lib.hid gy
    replace gG := Lib.hid gG
    replace gE := Lib.hid gE
    replace hb := Lib.hid hb
    have hs := hb.out.size
    have hcase : j = 0 ∨ j = 1 ∨ j = 2 ∨ j = 3 ∨ j = 4 ∨ j = 5 := by omega
    clear hj0 hj5
    rcases hcase with rfl | rfl | rfl | rfl | rfl | rfl
    · obtain ⟨cx0, cx1, cx2⟩ := gx.out.all
      obtain ⟨cy0, cy1, cy2⟩ := gy.out.all
      dsimp only at cx0 cx1 cx2 cy0 cy1 cy2
      go_wp2_with fail
      refine (dA.out.on _).mono ?_
      rintro e w7 ⟨rfl, hb7⟩
      replace gx := Lib.hid (isN_of hb7 gx.out)
      replace gy := Lib.hid (isN_of hb7 gy.out)
      replace gG := Lib.hid (isC_of hb7 gG.out)
      replace gE := Lib.hid (isC_of hb7 gE.out)
      replace hb := Lib.hid (hb.out.trans (hb7.mono hs))
      clear hs hb7
      have hs := hb.out.size
      replace gx := Lib.hid (gx.out.alloc (oN ⟨An, Ah, Al⟩))
      replace gy := Lib.hid (gy.out.alloc (oN ⟨An, Ah, Al⟩))
      replace gG := Lib.hid (gG.out.alloc (oN ⟨An, Ah, Al⟩))
      replace gE := Lib.hid (gE.out.alloc (oN ⟨An, Ah, Al⟩))
      have gu := Lib.hid (IsN.new w7 ⟨An, Ah, Al⟩)
      replace hb := Lib.hid (hb.out.alloc hs (oN ⟨An, Ah, Al⟩))
      clear hs
      have hs := hb.out.size
      clear cx0 cx1 cx2 cy0 cy1 cy2
      obtain ⟨cu0, cu1, cu2⟩ := gu.out.all
      dsimp only at cu0 cu1 cu2
      have h0 := gG.out.cell 0
      have h1 := gG.out.cell 1
      have h2 := gG.out.cell 2
      have h3 := gE.out.cell 0
      simp only [List.getElem?_toArray, List.getElem?_cons_succ, List.getElem?_cons_zero] at h0 h1 h2 h3
      go_wp2_with fail
      go_quiet (fail)
      clear cu0 cu1 cu2
      clear h0 h1 h2 h3
      go_wp2_with fail
      go_roundw
      case rel => exact ⟨1, by omega, by omega, rfl, isN_drewN gx.out, isN_drewN gy.out, gG.out.drewN, gE.out.drewN, below_drewN hb.out⟩
      case measure => simp [intOf]
    · obtain ⟨cx0, cx1, cx2⟩ := gx.out.all
      obtain ⟨cy0, cy1, cy2⟩ := gy.out.all
      dsimp only at cx0 cx1 cx2 cy0 cy1 cy2
      go_wp2_with fail
      refine (dB.out.on _).mono ?_
      rintro e w7 ⟨rfl, hb7⟩
      replace gx := Lib.hid (isN_of hb7 gx.out)
      replace gy := Lib.hid (isN_of hb7 gy.out)
      replace gG := Lib.hid (isC_of hb7 gG.out)
      replace gE := Lib.hid (isC_of hb7 gE.out)
      replace hb := Lib.hid (hb.out.trans (hb7.mono hs))
      clear hs hb7
      have hs := hb.out.size
      replace gx := Lib.hid (gx.out.alloc (oN ⟨Bn, Bh, Bl⟩))
      replace gy := Lib.hid (gy.out.alloc (oN ⟨Bn, Bh, Bl⟩))
      replace gG := Lib.hid (gG.out.alloc (oN ⟨Bn, Bh, Bl⟩))
      replace gE := Lib.hid (gE.out.alloc (oN ⟨Bn, Bh, Bl⟩))
      have gu := Lib.hid (IsN.new w7 ⟨Bn, Bh, Bl⟩)
      replace hb := Lib.hid (hb.out.alloc hs (oN ⟨Bn, Bh, Bl⟩))
      clear hs
      have hs := hb.out.size
      clear cx0 cx1 cx2 cy0 cy1 cy2
      obtain ⟨cu0, cu1, cu2⟩ := gu.out.all
      dsimp only at cu0 cu1 cu2
      have h0 := gG.out.cell 3
      have h1 := gG.out.cell 4
      have h2 := gG.out.cell 5
      have h3 := gE.out.cell 1
      simp only [List.getElem?_toArray, List.getElem?_cons_succ, List.getElem?_cons_zero] at h0 h1 h2 h3
      go_wp2_with fail
      go_quiet (fail)
      clear cu0 cu1 cu2
      clear h0 h1 h2 h3
      go_wp2_with fail
      go_roundw
      case rel => exact ⟨2, by omega, by omega, rfl, isN_drewN gx.out, isN_drewN gy.out, gG.out.drewN, gE.out.drewN, below_drewN hb.out⟩
      case measure => simp [intOf]
    · obtain ⟨cx0, cx1, cx2⟩ := gx.out.all
      obtain ⟨cy0, cy1, cy2⟩ := gy.out.all
      dsimp only at cx0 cx1 cx2 cy0 cy1 cy2
      go_wp2_with fail
      refine (dC.out.on _).mono ?_
      rintro e w7 ⟨rfl, hb7⟩
      replace gx := Lib.hid (isN_of hb7 gx.out)
      replace gy := Lib.hid (isN_of hb7 gy.out)
      replace gG := Lib.hid (isC_of hb7 gG.out)
      replace gE := Lib.hid (isC_of hb7 gE.out)
      replace hb := Lib.hid (hb.out.trans (hb7.mono hs))
      clear hs hb7
      have hs := hb.out.size
      replace gx := Lib.hid (gx.out.alloc (oN ⟨Cn, Ch, Cl⟩))
      replace gy := Lib.hid (gy.out.alloc (oN ⟨Cn, Ch, Cl⟩))
      replace gG := Lib.hid (gG.out.alloc (oN ⟨Cn, Ch, Cl⟩))
      replace gE := Lib.hid (gE.out.alloc (oN ⟨Cn, Ch, Cl⟩))
      have gu := Lib.hid (IsN.new w7 ⟨Cn, Ch, Cl⟩)
      replace hb := Lib.hid (hb.out.alloc hs (oN ⟨Cn, Ch, Cl⟩))
      clear hs
      have hs := hb.out.size
      clear cx0 cx1 cx2 cy0 cy1 cy2
      obtain ⟨cu0, cu1, cu2⟩ := gu.out.all
      dsimp only at cu0 cu1 cu2
      have h0 := gG.out.cell 6
      have h1 := gG.out.cell 7
      have h2 := gG.out.cell 8
      have h3 := gE.out.cell 2
      simp only [List.getElem?_toArray, List.getElem?_cons_succ, List.getElem?_cons_zero] at h0 h1 h2 h3
      go_wp2_with fail
      go_quiet (fail)
      clear cu0 cu1 cu2
      clear h0 h1 h2 h3
      go_wp2_with fail
      go_roundw
      case rel => exact ⟨3, by omega, by omega, rfl, isN_drewN gx.out, isN_drewN gy.out, gG.out.drewN, gE.out.drewN, below_drewN hb.out⟩
      case measure => simp [intOf]
    · obtain ⟨cx0, cx1, cx2⟩ := gx.out.all
      obtain ⟨cy0, cy1, cy2⟩ := gy.out.all
      dsimp only at cx0 cx1 cx2 cy0 cy1 cy2
      go_wp2_with fail
      refine (dD.out.on _).mono ?_
      rintro e w7 ⟨rfl, hb7⟩
      replace gx := Lib.hid (isN_of hb7 gx.out)
      replace gy := Lib.hid (isN_of hb7 gy.out)
      replace gG := Lib.hid (isC_of hb7 gG.out)
      replace gE := Lib.hid (isC_of hb7 gE.out)
      replace hb := Lib.hid (hb.out.trans (hb7.mono hs))
      clear hs hb7
      have hs := hb.out.size
      replace gx := Lib.hid (gx.out.alloc (oN ⟨Dn, Dh, Dl⟩))
      replace gy := Lib.hid (gy.out.alloc (oN ⟨Dn, Dh, Dl⟩))
      replace gG := Lib.hid (gG.out.alloc (oN ⟨Dn, Dh, Dl⟩))
      replace gE := Lib.hid (gE.out.alloc (oN ⟨Dn, Dh, Dl⟩))
      have gu := Lib.hid (IsN.new w7 ⟨Dn, Dh, Dl⟩)
      replace hb := Lib.hid (hb.out.alloc hs (oN ⟨Dn, Dh, Dl⟩))
      clear hs
      have hs := hb.out.size
      clear cx0 cx1 cx2 cy0 cy1 cy2
      obtain ⟨cu0, cu1, cu2⟩ := gu.out.all
      dsimp only at cu0 cu1 cu2
      have h0 := gG.out.cell 9
      have h1 := gG.out.cell 10
      have h2 := gG.out.cell 11
      have h3 := gE.out.cell 3
      simp only [List.getElem?_toArray, List.getElem?_cons_succ, List.getElem?_cons_zero] at h0 h1 h2 h3
      go_wp2_with fail
      go_quiet (fail)
      clear cu0 cu1 cu2
      clear h0 h1 h2 h3
      go_wp2_with fail
      go_roundw
      case rel => exact ⟨4, by omega, by omega, rfl, isN_drewN gx.out, isN_drewN gy.out, gG.out.drewN, gE.out.drewN, below_drewN hb.out⟩
      case measure => simp [intOf]
    · obtain ⟨cx0, cx1, cx2⟩ := gx.out.all
      obtain ⟨cy0, cy1, cy2⟩ := gy.out.all
      dsimp only at cx0 cx1 cx2 cy0 cy1 cy2
      go_wp2_with fail
      refine (dE.out.on _).mono ?_
      rintro e w7 ⟨rfl, hb7⟩
      replace gx := Lib.hid (isN_of hb7 gx.out)
      replace gy := Lib.hid (isN_of hb7 gy.out)
      replace gG := Lib.hid (isC_of hb7 gG.out)
      replace gE := Lib.hid (isC_of hb7 gE.out)
      replace hb := Lib.hid (hb.out.trans (hb7.mono hs))
      clear hs hb7
      have hs := hb.out.size
      replace gx := Lib.hid (gx.out.alloc (oN ⟨En, Eh, El⟩))
      replace gy := Lib.hid (gy.out.alloc (oN ⟨En, Eh, El⟩))
      replace gG := Lib.hid (gG.out.alloc (oN ⟨En, Eh, El⟩))
      replace gE := Lib.hid (gE.out.alloc (oN ⟨En, Eh, El⟩))
      have gu := Lib.hid (IsN.new w7 ⟨En, Eh, El⟩)
      replace hb := Lib.hid (hb.out.alloc hs (oN ⟨En, Eh, El⟩))
      clear hs
      have hs := hb.out.size
      clear cx0 cx1 cx2 cy0 cy1 cy2
      obtain ⟨cu0, cu1, cu2⟩ := gu.out.all
      dsimp only at cu0 cu1 cu2
      have h0 := gG.out.cell 12
      have h1 := gG.out.cell 13
      have h2 := gG.out.cell 14
      have h3 := gE.out.cell 4
      simp only [List.getElem?_toArray, List.getElem?_cons_succ, List.getElem?_cons_zero] at h0 h1 h2 h3
      go_wp2_with fail
      go_quiet (fail)
      clear cu0 cu1 cu2
      clear h0 h1 h2 h3
      go_wp2_with fail
      go_roundw
      case rel => exact ⟨5, by omega, by omega, rfl, isN_drewN gx.out, isN_drewN gy.out, gG.out.drewN, gE.out.drewN, below_drewN hb.out⟩
      case measure => simp [intOf]
    · clear gG gE
      obtain ⟨cx0, cx1, cx2⟩ := gx.out.all
      obtain ⟨cy0, cy1, cy2⟩ := gy.out.all
      dsimp only at cx0 cx1 cx2 cy0 cy1 cy2
      go_wp2_with fail
      refine (gX.out.on _).mono ?_
      rintro e w7 ⟨rfl, hb7⟩
      replace gx := Lib.hid (isN_of hb7 gx.out)
      replace gy := Lib.hid (isN_of hb7 gy.out)
      replace hb := Lib.hid (hb.out.trans (hb7.mono hs))
      clear hs hb7
      have hs := hb.out.size
      clear cx0 cx1 cx2 cy0 cy1 cy2
      obtain ⟨cx0, cx1, cx2⟩ := gx.out.all
      obtain ⟨cy0, cy1, cy2⟩ := gy.out.all
      dsimp only at cx0 cx1 cx2 cy0 cy1 cy2
      go_upto_region 21 with fail
      clear cx0 cx1 cx2 cy0 cy1 cy2
      have hsn := Lib.hid gy.out.lt
      replace gx := Lib.hid (gx.out.alloc (oN ⟨false, 0, 0⟩))
      replace gy := Lib.hid (gy.out.alloc (oN ⟨false, 0, 0⟩))
      have gn := Lib.hid (IsN.new w7 ⟨false, 0, 0⟩)
      replace hb := Lib.hid (hb.out.alloc hs (oN ⟨false, 0, 0⟩))
      clear hs
      have hs := hb.out.size
      obtain ⟨cx0, cx1, cx2⟩ := gx.out.all
      obtain ⟨cy0, cy1, cy2⟩ := gy.out.all
      dsimp only at cx0 cx1 cx2 cy0 cy1 cy2
      go_wp2_with fail
      refine (gX.out.on _).mono ?_
      rintro e w8 ⟨rfl, hb8⟩
      replace gx := Lib.hid (isN_of hb8 gx.out)
      replace gy := Lib.hid (isN_of hb8 gy.out)
      replace gn := Lib.hid (isN_of hb8 gn.out)
      replace hb := Lib.hid (hb.out.trans (hb8.mono hs))
      clear hs hb8
      have hs := hb.out.size
      replace hb := Lib.hid (below_drewed hb.out)
      clear hs
      have hs := hb.out.size
      clear cx0 cx1 cx2 cy0 cy1 cy2
      obtain ⟨cx0, cx1, cx2⟩ := gx.out.all
      obtain ⟨cy0, cy1, cy2⟩ := gy.out.all
      obtain ⟨cn0, cn1, cn2⟩ := gn.out.all
      dsimp only at cx0 cx1 cx2 cy0 cy1 cy2 cn0 cn1 cn2
      have mk0 := Lib.hid trivial
      have mk1 := Lib.hid trivial
      have mk2 := Lib.hid trivial
      have mk3 := Lib.hid trivial
      have mk4 := Lib.hid trivial
      go_wp2_with fail
      go_region_held3 (fun w1 => w1.cell? ⟨w.heap.size, 0, none⟩ = some (.bool xn) ∧ w1.cell? ⟨w.heap.size, 1, none⟩ = some (.int .u64 xh) ∧ w1.cell? ⟨w.heap.size, 2, none⟩ = some (.int .u64 xl) ∧ w1.cell? ⟨w.heap.size + 1, 0, none⟩ = some (.bool yn) ∧ w1.cell? ⟨w.heap.size + 1, 1, none⟩ = some (.int .u64 yh) ∧ w1.cell? ⟨w.heap.size + 1, 2, none⟩ = some (.int .u64 yl) ∧ w1.cell? ⟨w7.heap.size, 0, none⟩ = some (.bool false) ∧ w1.cell? ⟨w7.heap.size, 1, none⟩ = some (.int .u64 0) ∧ w1.cell? ⟨w7.heap.size, 2, none⟩ = some (.int .u64 0)) (go_keep)
        (first
          | (go_at_call 13
             clear mk0
             refine (kC.out.on _).mono ?_
             rintro e wr ⟨rfl, hbr⟩
             have hb2 := Lib.hid (hb.out.trans (hbr.mono hs))
             clear hb hs
             have hb := hb2
             clear hb2
             have hs := hb.out.size
             have gg := Lib.hid (isN_of hbr gx.out)
             clear gx
             have gx := gg
             clear gg
             have gg := Lib.hid (isN_of hbr gy.out)
             clear gy
             have gy := gg
             clear gg
             have gg := Lib.hid (isN_of hbr gn.out)
             clear gn
             have gn := gg
             clear gg
             clear hbr cx0 cx1 cx2 cy0 cy1 cy2 cn0 cn1 cn2
             obtain ⟨cx0, cx1, cx2⟩ := gx.out.all
             obtain ⟨cy0, cy1, cy2⟩ := gy.out.all
             obtain ⟨cn0, cn1, cn2⟩ := gn.out.all
             dsimp only at cx0 cx1 cx2 cy0 cy1 cy2 cn0 cn1 cn2)
          | (go_at_call 22
             clear mk1
             refine (kS.out.on _).mono ?_
             rintro e wr ⟨rfl, hbr⟩
             have hb2 := Lib.hid (hb.out.trans (hbr.mono hs))
             clear hb hs
             have hb := hb2
             clear hb2
             have hs := hb.out.size
             have gg := Lib.hid (isN_of hbr gx.out)
             clear gx
             have gx := gg
             clear gg
             have gg := Lib.hid (isN_of hbr gy.out)
             clear gy
             have gy := gg
             clear gg
             have gg := Lib.hid (isN_of hbr gn.out)
             clear gn
             have gn := gg
             clear gg
             clear hbr cx0 cx1 cx2 cy0 cy1 cy2 cn0 cn1 cn2
             obtain ⟨cx0, cx1, cx2⟩ := gx.out.all
             obtain ⟨cy0, cy1, cy2⟩ := gy.out.all
             obtain ⟨cn0, cn1, cn2⟩ := gn.out.all
             dsimp only at cx0 cx1 cx2 cy0 cy1 cy2 cn0 cn1 cn2)
          | (go_at_call 29
             clear mk2
             refine (kN.out.on _).mono ?_
             rintro e wr ⟨rfl, hbr⟩
             have hb2 := Lib.hid (hb.out.trans (hbr.mono hs))
             clear hb hs
             have hb := hb2
             clear hb2
             have hs := hb.out.size
             have gg := Lib.hid (isN_of hbr gx.out)
             clear gx
             have gx := gg
             clear gg
             have gg := Lib.hid (isN_of hbr gy.out)
             clear gy
             have gy := gg
             clear gg
             have gg := Lib.hid (isN_of hbr gn.out)
             clear gn
             have gn := gg
             clear gg
             clear hbr cx0 cx1 cx2 cy0 cy1 cy2 cn0 cn1 cn2
             obtain ⟨cx0, cx1, cx2⟩ := gx.out.all
             obtain ⟨cy0, cy1, cy2⟩ := gy.out.all
             obtain ⟨cn0, cn1, cn2⟩ := gn.out.all
             dsimp only at cx0 cx1 cx2 cy0 cy1 cy2 cn0 cn1 cn2)
          | (go_at_call 12
             clear mk3
             refine (fX.out.on _).mono ?_
             rintro e wr ⟨rfl, hbr⟩
             have hb2 := Lib.hid (hb.out.trans (hbr.mono hs))
             clear hb hs
             have hb := hb2
             clear hb2
             have hs := hb.out.size
             have gg := Lib.hid (isN_of hbr gx.out)
             clear gx
             have gx := gg
             clear gg
             have gg := Lib.hid (isN_of hbr gy.out)
             clear gy
             have gy := gg
             clear gg
             have gg := Lib.hid (isN_of hbr gn.out)
             clear gn
             have gn := gg
             clear gg
             clear hbr cx0 cx1 cx2 cy0 cy1 cy2 cn0 cn1 cn2
             obtain ⟨cx0, cx1, cx2⟩ := gx.out.all
             obtain ⟨cy0, cy1, cy2⟩ := gy.out.all
             obtain ⟨cn0, cn1, cn2⟩ := gn.out.all
             dsimp only at cx0 cx1 cx2 cy0 cy1 cy2 cn0 cn1 cn2)
          | (go_at_call 19
             clear mk4
             refine (gX.out.on _).mono ?_
             rintro e wr ⟨rfl, hbr⟩
             have hb2 := Lib.hid (hb.out.trans (hbr.mono hs))
             clear hb hs
             have hb := hb2
             clear hb2
             have hs := hb.out.size
             have gg := Lib.hid (isN_of hbr gx.out)
             clear gx
             have gx := gg
             clear gg
             have gg := Lib.hid (isN_of hbr gy.out)
             clear gy
             have gy := gg
             clear gg
             have gg := Lib.hid (isN_of hbr gn.out)
             clear gn
             have gn := gg
             clear gg
             clear hbr cx0 cx1 cx2 cy0 cy1 cy2 cn0 cn1 cn2
             obtain ⟨cx0, cx1, cx2⟩ := gx.out.all
             obtain ⟨cy0, cy1, cy2⟩ := gy.out.all
             obtain ⟨cn0, cn1, cn2⟩ := gn.out.all
             dsimp only at cx0 cx1 cx2 cy0 cy1 cy2 cn0 cn1 cn2))
      go_wp2_with fail
      go_ret
      exact ⟨rfl, hb.out⟩
end Go.Proofs.YtbfigpollacngaaDoor
