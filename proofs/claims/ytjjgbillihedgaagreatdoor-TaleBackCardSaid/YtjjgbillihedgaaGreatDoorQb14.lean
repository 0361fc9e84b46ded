/- parts of the proof, merged: TlK -/
import Derived.Test.YtjjgbillihedgaaGreatDoorQb13
set_option linter.unusedVariables false
set_option maxHeartbeats 32000000
set_option maxRecDepth 100000
namespace Go.Proofs.YtjjgbillihedgaaGreatDoor
open Go.RowKit
open Rf
open Sg
open Wide
open Tl
namespace Tl
/-- what a kind asks, a command's aside -/
def askF (o : OpD) : Bool :=
 if o.K = 1 then true else if o.K = 11 then true else if o.K = 2 then isEntF o.E else if o.K = 3 then isEntF o.E && decide (o.P.length = 1) else if o.K = 5 then isEntF o.E && decide (o.P.length = 1)
 else if o.K = 4 then isEntF o.E && decide (0 ≤ o.C) else if o.K = 6 then isEntF o.E && decide (0 ≤ o.C) else if o.K = 7 then Sg.isF o.A.toNat && Sg.isF o.N.toNat
 else if o.K = 9 then decide (0 ≤ o.U) else if o.K = 10 then decide (o.B.size ≤ 16384) else false
def is1F (o : OpD) : Bool := isNamedF o && isPartsF o.P && askF o
def isOpF (o : OpD) : Bool := if o.K = 8 then isNamedF o && isPartsF o.P && (isCmd o.cK && is1F (asOpF o.cK o.cE o.cC o.cP)) else is1F o
/-- an op's sizes -/
structure OpSmall (o : OpD) : Prop where
 ok : o.Ok
 P : Small o.P
 L : o.P.length ≤ 100000
 cP : Small o.cP
 cL : o.cP.length ≤ 100000
 B : o.B.size ≤ maxLen
theorem small_nil : Small [] := ⟨by simp, by simp⟩
theorem asOp_small {o : OpD} (h : OpSmall o) : OpSmall (asOpF o.cK o.cE o.cC o.cP) := by
 have hz : i64 0 ∧ u64 0 ∧ u32 0 := by unfold i64 u64 u32; omega
 have hm : sS.size ≤ maxLen := by unfold maxLen; show 0 ≤ _; omega
 unfold asOpF
 split
 ·refine ⟨⟨?_, h.ok.cE, h.ok.cC, h.ok.cP, hz.2.2, hz.2.2, hz.1, hz.2.1, hz.1, by simp, hz.1⟩, h.cP, h.cL, small_nil, by simp, hm⟩
  have := h.ok.cK
  unfold kindF
  dsimp only
  split
  ·unfold i64; omega
  split
  ·unfold i64; omega
  ·exact this
 ·unfold zeroO
  exact ⟨⟨hz.1, hz.2.1, hz.1, by simp, hz.2.2, hz.2.2, hz.1, hz.2.1, hz.1, by simp, hz.1⟩, small_nil, by simp, small_nil, by simp, hm⟩
theorem asOp_kind (K E C : Int) (l : List PartD) : (asOpF K E C l).K ≠ 8 := by
 unfold asOpF isCmd kindF zeroO
 split
 ·rename_i h
  simp at h
  dsimp only
  split
  ·omega
  split <;> omega
 ·decide
end Tl
theorem is1_n1 (o : OpD) (hs : OpSmall o) (hn1 : isNamedF o = false) (s t : Value) (w : World) (hin : OpIn w o s t) :
 Calls Tryz.prog 9 #[opv o s t] w fun e w' => e = .returned (.bool false) ∧ Below w.heap.size w w' := by
 obtain ⟨h1, h2⟩ := id hin
 have hb0 := below1 w (.cells (opc o s t) 32)
 have hbox := IsC.new w 32 (opc o s t)
 have cN := isNamed_c o hs.cP s t _ (hin.below hb0)
 have cP := fun w' (h : InS w' s o.P) => isPartsS_c o.P hs.P hs.L s w' h
 obtain ⟨a, c, rfl, _⟩ := id h1
 obtain ⟨b, d, rfl, _⟩ := id h2
 have hP1 := h1.below hb0
 clear hin hs h1
 obtain ⟨K, E, C, P, A, N, cK, cE', cC, cP', U, B⟩ := o
 dsimp only at *
 unfold opc at *
 unfold opv at *
 dsimp only at *
 generalize isNamedF _ = n1 at *
 generalize isPartsF _ = n2 at *
 subst hn1
 replace cN := Hd cN
 replace cP := Hd cP
 replace hb0 := Hd hb0
 replace hbox := Hd hbox
 replace hP1 := Hd hP1
 have hb0s := hb0.out.size
 go_enter Tryz.func9, Tryz.ntmps9
 go_wp2_with fail
 refine cN.out.mono ?_
 rintro e w1 ⟨rfl, hb1⟩
 have hb2 := Hd (below_up hb0.out hb0s hb1)
 clear hb1 hbox cN hb0 cP
 go_wp2_with fail
 go_ret
 exact ⟨rfl, hb2.out⟩
theorem is1_n2 (o : OpD) (hs : OpSmall o) (hn1 : isNamedF o = true) (hn2 : isPartsF o.P = false) (s t : Value) (w : World) (hin : OpIn w o s t) :
 Calls Tryz.prog 9 #[opv o s t] w fun e w' => e = .returned (.bool false) ∧ Below w.heap.size w w' := by
 obtain ⟨h1, h2⟩ := id hin
 have hb0 := below1 w (.cells (opc o s t) 32)
 have hbox := IsC.new w 32 (opc o s t)
 have cN := isNamed_c o hs.cP s t _ (hin.below hb0)
 have cP := fun w' (h : InS w' s o.P) => isPartsS_c o.P hs.P hs.L s w' h
 obtain ⟨a, c, rfl, _⟩ := id h1
 obtain ⟨b, d, rfl, _⟩ := id h2
 have hP1 := h1.below hb0
 clear hin hs h1
 obtain ⟨K, E, C, P, A, N, cK, cE', cC, cP', U, B⟩ := o
 dsimp only at *
 unfold opc at *
 unfold opv at *
 dsimp only at *
 generalize isNamedF _ = n1 at *
 generalize isPartsF _ = n2 at *
 subst hn1
 subst hn2
 replace cN := Hd cN
 replace cP := Hd cP
 replace hb0 := Hd hb0
 replace hbox := Hd hbox
 replace hP1 := Hd hP1
 have hb0s := hb0.out.size
 go_enter Tryz.func9, Tryz.ntmps9
 go_wp2_with fail
 refine cN.out.mono ?_
 rintro e w1 ⟨rfl, hb1⟩
 have hbx := isC_of hb1 hbox.out
 have := hbx.cell 3
 have hb2 := below_up hb0.out hb0s hb1
 have hb2s := hb2.size
 have cP1 := cP.out w1 (hP1.out.below hb1)
 clear hb1 hbox cN hb0 cP
 replace hb2 := Hd hb2
 replace hbx := Hd hbx
 replace cP1 := Hd cP1
 go_wp2_with fail
 refine cP1.out.mono ?_
 rintro e w2 ⟨rfl, hb3⟩
 have hby := isC_of hb3 hbx.out
 have hb4 := Hd (below_up hb2.out hb2s hb3)
 clear hb3 hbx cP1 hb2 hby
 go_wp2_with fail
 go_ret
 exact ⟨rfl, hb4.out⟩
theorem is1_k1 (o : OpD) (hs : OpSmall o) (hn1 : isNamedF o = true) (hn2 : isPartsF o.P = true) (hK : o.K = 1) (s t : Value) (w : World) (hin : OpIn w o s t) :
 Calls Tryz.prog 9 #[opv o s t] w fun e w' => e = .returned (.bool true) ∧ Below w.heap.size w w' := by
 obtain ⟨h1, h2⟩ := id hin
 have hb0 := below1 w (.cells (opc o s t) 32)
 have hbox := IsC.new w 32 (opc o s t)
 have cN := isNamed_c o hs.cP s t _ (hin.below hb0)
 have cP := fun w' (h : InS w' s o.P) => isPartsS_c o.P hs.P hs.L s w' h
 obtain ⟨a, c, rfl, _⟩ := id h1
 obtain ⟨b, d, rfl, _⟩ := id h2
 have hP1 := h1.below hb0
 clear hin hs h1
 obtain ⟨K, E, C, P, A, N, cK, cE', cC, cP', U, B⟩ := o
 dsimp only at *
 subst hK
 unfold opc at *
 unfold opv at *
 dsimp only at *
 generalize isNamedF _ = n1 at *
 generalize isPartsF _ = n2 at *
 subst hn1
 subst hn2
 replace cN := Hd cN
 replace cP := Hd cP
 replace hb0 := Hd hb0
 replace hbox := Hd hbox
 replace hP1 := Hd hP1
 have hb0s := hb0.out.size
 go_enter Tryz.func9, Tryz.ntmps9
 go_wp2_with fail
 refine cN.out.mono ?_
 rintro e w1 ⟨rfl, hb1⟩
 have hbx := isC_of hb1 hbox.out
 have k3 := hbx.cell 3
 have hb2 := below_up hb0.out hb0s hb1
 have hb2s := hb2.size
 have cP1 := cP.out w1 (hP1.out.below hb1)
 clear hb1 hbox cN hb0 cP
 replace hb2 := Hd hb2
 replace hbx := Hd hbx
 replace cP1 := Hd cP1
 go_wp2_with fail
 refine cP1.out.mono ?_
 rintro e w2 ⟨rfl, hb3⟩
 have hby := isC_of hb3 hbx.out
 have j0 := hby.cell 0
 have hb4 := Hd (below_up hb2.out hb2s hb3)
 clear hb3 hbx cP1 hb2 hby k3
 go_wp2_with fail
 go_ret
 exact ⟨rfl, hb4.out⟩
theorem is1_k11 (o : OpD) (hs : OpSmall o) (hn1 : isNamedF o = true) (hn2 : isPartsF o.P = true) (hK : o.K = 11) (s t : Value) (w : World) (hin : OpIn w o s t) :
 Calls Tryz.prog 9 #[opv o s t] w fun e w' => e = .returned (.bool true) ∧ Below w.heap.size w w' := by
 obtain ⟨h1, h2⟩ := id hin
 have hb0 := below1 w (.cells (opc o s t) 32)
 have hbox := IsC.new w 32 (opc o s t)
 have cN := isNamed_c o hs.cP s t _ (hin.below hb0)
 have cP := fun w' (h : InS w' s o.P) => isPartsS_c o.P hs.P hs.L s w' h
 obtain ⟨a, c, rfl, _⟩ := id h1
 obtain ⟨b, d, rfl, _⟩ := id h2
 have hP1 := h1.below hb0
 clear hin hs h1
 obtain ⟨K, E, C, P, A, N, cK, cE', cC, cP', U, B⟩ := o
 dsimp only at *
 subst hK
 unfold opc at *
 unfold opv at *
 dsimp only at *
 generalize isNamedF _ = n1 at *
 generalize isPartsF _ = n2 at *
 subst hn1
 subst hn2
 replace cN := Hd cN
 replace cP := Hd cP
 replace hb0 := Hd hb0
 replace hbox := Hd hbox
 replace hP1 := Hd hP1
 have hb0s := hb0.out.size
 go_enter Tryz.func9, Tryz.ntmps9
 go_wp2_with fail
 refine cN.out.mono ?_
 rintro e w1 ⟨rfl, hb1⟩
 have hbx := isC_of hb1 hbox.out
 have k3 := hbx.cell 3
 have hb2 := below_up hb0.out hb0s hb1
 have hb2s := hb2.size
 have cP1 := cP.out w1 (hP1.out.below hb1)
 clear hb1 hbox cN hb0 cP
 replace hb2 := Hd hb2
 replace hbx := Hd hbx
 replace cP1 := Hd cP1
 go_wp2_with fail
 refine cP1.out.mono ?_
 rintro e w2 ⟨rfl, hb3⟩
 have hby := isC_of hb3 hbx.out
 have j0 := hby.cell 0
 have hb4 := Hd (below_up hb2.out hb2s hb3)
 clear hb3 hbx cP1 hb2 hby k3
 go_wp2_with fail
 go_ret
 exact ⟨rfl, hb4.out⟩
theorem is1_k2 (o : OpD) (hs : OpSmall o) (hn1 : isNamedF o = true) (hn2 : isPartsF o.P = true) (hK : o.K = 2) (s t : Value) (w : World) (hin : OpIn w o s t) :
 Calls Tryz.prog 9 #[opv o s t] w fun e w' => e = .returned (.bool (isEntF o.E)) ∧ Below w.heap.size w w' := by
 obtain ⟨h1, h2⟩ := id hin
 have hb0 := below1 w (.cells (opc o s t) 32)
 have hbox := IsC.new w 32 (opc o s t)
 have cN := isNamed_c o hs.cP s t _ (hin.below hb0)
 have cP := fun w' (h : InS w' s o.P) => isPartsS_c o.P hs.P hs.L s w' h
 have cE := isEnt_c o.E hs.ok.E
 obtain ⟨a, c, rfl, _⟩ := id h1
 obtain ⟨b, d, rfl, _⟩ := id h2
 have hP1 := h1.below hb0
 generalize isEntF o.E = n3 at *
 replace cE := Hd cE
 clear hin hs h1
 obtain ⟨K, E, C, P, A, N, cK, cE', cC, cP', U, B⟩ := o
 dsimp only at *
 subst hK
 unfold opc at *
 unfold opv at *
 dsimp only at *
 generalize isNamedF _ = n1 at *
 generalize isPartsF _ = n2 at *
 subst hn1
 subst hn2
 replace cN := Hd cN
 replace cP := Hd cP
 replace hb0 := Hd hb0
 replace hbox := Hd hbox
 replace hP1 := Hd hP1
 have hb0s := hb0.out.size
 go_enter Tryz.func9, Tryz.ntmps9
 go_wp2_with fail
 refine cN.out.mono ?_
 rintro e w1 ⟨rfl, hb1⟩
 have hbx := isC_of hb1 hbox.out
 have k3 := hbx.cell 3
 have hb2 := below_up hb0.out hb0s hb1
 have hb2s := hb2.size
 have cP1 := cP.out w1 (hP1.out.below hb1)
 clear hb1 hbox cN hb0 cP
 replace hb2 := Hd hb2
 replace hbx := Hd hbx
 replace cP1 := Hd cP1
 go_wp2_with fail
 refine cP1.out.mono ?_
 rintro e w2 ⟨rfl, hb3⟩
 have hby := isC_of hb3 hbx.out
 have j0 := hby.cell 0
 have j1 := hby.cell 1
 have hb4 := Hd (below_up hb2.out hb2s hb3)
 clear hb3 hbx cP1 hb2 hby k3
 go_wp2_with fail
 refine (cE.out.on _).mono ?_
 rintro e w3 ⟨rfl, rfl⟩
 go_wp2_with fail
 go_ret
 exact ⟨rfl, hb4.out⟩
theorem is1_k3 (o : OpD) (hs : OpSmall o) (hn1 : isNamedF o = true) (hn2 : isPartsF o.P = true) (hK : o.K = 3) (s t : Value) (w : World) (hin : OpIn w o s t) :
 Calls Tryz.prog 9 #[opv o s t] w fun e w' => e = .returned (.bool (isEntF o.E && decide (o.P.length = 1))) ∧ Below w.heap.size w w' := by
 obtain ⟨h1, h2⟩ := id hin
 have hb0 := below1 w (.cells (opc o s t) 32)
 have hbox := IsC.new w 32 (opc o s t)
 have cN := isNamed_c o hs.cP s t _ (hin.below hb0)
 have cP := fun w' (h : InS w' s o.P) => isPartsS_c o.P hs.P hs.L s w' h
 have cE := isEnt_c o.E hs.ok.E
 have hPl := hs.P.1
 obtain ⟨a, c, rfl, _⟩ := id h1
 obtain ⟨b, d, rfl, _⟩ := id h2
 have hP1 := h1.below hb0
 generalize isEntF o.E = n3 at *
 replace cE := Hd cE
 clear hin hs h1
 obtain ⟨K, E, C, P, A, N, cK, cE', cC, cP', U, B⟩ := o
 dsimp only at *
 subst hK
 unfold opc at *
 unfold opv at *
 dsimp only at *
 generalize isNamedF _ = n1 at *
 generalize isPartsF _ = n2 at *
 subst hn1
 subst hn2
 replace cN := Hd cN
 replace cP := Hd cP
 replace hb0 := Hd hb0
 replace hbox := Hd hbox
 replace hP1 := Hd hP1
 have hb0s := hb0.out.size
 cases n3 with
 | false =>
   rw [Bool.false_and]
   go_enter Tryz.func9, Tryz.ntmps9
   go_wp2_with fail
   refine cN.out.mono ?_
   rintro e w1 ⟨rfl, hb1⟩
   have hbx := isC_of hb1 hbox.out
   have k3 := hbx.cell 3
   have hb2 := below_up hb0.out hb0s hb1
   have hb2s := hb2.size
   have cP1 := cP.out w1 (hP1.out.below hb1)
   clear hb1 hbox cN hb0 cP
   replace hb2 := Hd hb2
   replace hbx := Hd hbx
   replace cP1 := Hd cP1
   go_wp2_with fail
   refine cP1.out.mono ?_
   rintro e w2 ⟨rfl, hb3⟩
   have hby := isC_of hb3 hbx.out
   have j0 := hby.cell 0
   have j1 := hby.cell 1
   have hb4 := Hd (below_up hb2.out hb2s hb3)
   clear hb3 hbx cP1 hb2 hby k3
   go_wp2_with fail
   refine (cE.out.on _).mono ?_
   rintro e w3 ⟨rfl, rfl⟩
   go_wp2_with fail
   go_ret
   exact ⟨rfl, hb4.out⟩
 | true =>
   rw [Bool.true_and]
   by_cases hc : P.length = 1
   ·rw [decide_eq_true hc]
    have e1 : ((P.length : Int) == 1) = true := beq_iff_eq.2 (by omega)
    clear hc
    go_enter Tryz.func9, Tryz.ntmps9
    go_wp2_with fail
    refine cN.out.mono ?_
    rintro e w1 ⟨rfl, hb1⟩
    have hbx := isC_of hb1 hbox.out
    have k3 := hbx.cell 3
    have hb2 := below_up hb0.out hb0s hb1
    have hb2s := hb2.size
    have cP1 := cP.out w1 (hP1.out.below hb1)
    clear hb1 hbox cN hb0 cP
    replace hb2 := Hd hb2
    replace hbx := Hd hbx
    replace cP1 := Hd cP1
    go_wp2_with fail
    refine cP1.out.mono ?_
    rintro e w2 ⟨rfl, hb3⟩
    have hby := isC_of hb3 hbx.out
    have j0 := hby.cell 0
    have j1 := hby.cell 1
    have j3 := hby.cell 3
    have hb4 := Hd (below_up hb2.out hb2s hb3)
    clear hb3 hbx cP1 hb2 hby k3
    go_wp2_with fail
    refine (cE.out.on _).mono ?_
    rintro e w3 ⟨rfl, rfl⟩
    go_wp2_with fail
    go_ret
    exact ⟨rfl, hb4.out⟩
   ·rw [decide_eq_false hc]
    have e1 : ((P.length : Int) == 1) = false := beq_eq_false_iff_ne.2 (by omega)
    clear hc
    go_enter Tryz.func9, Tryz.ntmps9
    go_wp2_with fail
    refine cN.out.mono ?_
    rintro e w1 ⟨rfl, hb1⟩
    have hbx := isC_of hb1 hbox.out
    have k3 := hbx.cell 3
    have hb2 := below_up hb0.out hb0s hb1
    have hb2s := hb2.size
    have cP1 := cP.out w1 (hP1.out.below hb1)
    clear hb1 hbox cN hb0 cP
    replace hb2 := Hd hb2
    replace hbx := Hd hbx
    replace cP1 := Hd cP1
    go_wp2_with fail
    refine cP1.out.mono ?_
    rintro e w2 ⟨rfl, hb3⟩
    have hby := isC_of hb3 hbx.out
    have j0 := hby.cell 0
    have j1 := hby.cell 1
    have j3 := hby.cell 3
    have hb4 := Hd (below_up hb2.out hb2s hb3)
    clear hb3 hbx cP1 hb2 hby k3
    go_wp2_with fail
    refine (cE.out.on _).mono ?_
    rintro e w3 ⟨rfl, rfl⟩
    go_wp2_with fail
    go_ret
    exact ⟨rfl, hb4.out⟩
theorem is1_k5 (o : OpD) (hs : OpSmall o) (hn1 : isNamedF o = true) (hn2 : isPartsF o.P = true) (hK : o.K = 5) (s t : Value) (w : World) (hin : OpIn w o s t) :
 Calls Tryz.prog 9 #[opv o s t] w fun e w' => e = .returned (.bool (isEntF o.E && decide (o.P.length = 1))) ∧ Below w.heap.size w w' := by
 obtain ⟨h1, h2⟩ := id hin
 have hb0 := below1 w (.cells (opc o s t) 32)
 have hbox := IsC.new w 32 (opc o s t)
 have cN := isNamed_c o hs.cP s t _ (hin.below hb0)
 have cP := fun w' (h : InS w' s o.P) => isPartsS_c o.P hs.P hs.L s w' h
 have cE := isEnt_c o.E hs.ok.E
 have hPl := hs.P.1
 obtain ⟨a, c, rfl, _⟩ := id h1
 obtain ⟨b, d, rfl, _⟩ := id h2
 have hP1 := h1.below hb0
 generalize isEntF o.E = n3 at *
 replace cE := Hd cE
 clear hin hs h1
 obtain ⟨K, E, C, P, A, N, cK, cE', cC, cP', U, B⟩ := o
 dsimp only at *
 subst hK
 unfold opc at *
 unfold opv at *
 dsimp only at *
 generalize isNamedF _ = n1 at *
 generalize isPartsF _ = n2 at *
 subst hn1
 subst hn2
 replace cN := Hd cN
 replace cP := Hd cP
 replace hb0 := Hd hb0
 replace hbox := Hd hbox
 replace hP1 := Hd hP1
 have hb0s := hb0.out.size
 cases n3 with
 | false =>
   rw [Bool.false_and]
   go_enter Tryz.func9, Tryz.ntmps9
   go_wp2_with fail
   refine cN.out.mono ?_
   rintro e w1 ⟨rfl, hb1⟩
   have hbx := isC_of hb1 hbox.out
   have k3 := hbx.cell 3
   have hb2 := below_up hb0.out hb0s hb1
   have hb2s := hb2.size
   have cP1 := cP.out w1 (hP1.out.below hb1)
   clear hb1 hbox cN hb0 cP
   replace hb2 := Hd hb2
   replace hbx := Hd hbx
   replace cP1 := Hd cP1
   go_wp2_with fail
   refine cP1.out.mono ?_
   rintro e w2 ⟨rfl, hb3⟩
   have hby := isC_of hb3 hbx.out
   have j0 := hby.cell 0
   have j1 := hby.cell 1
   have hb4 := Hd (below_up hb2.out hb2s hb3)
   clear hb3 hbx cP1 hb2 hby k3
   go_wp2_with fail
   refine (cE.out.on _).mono ?_
   rintro e w3 ⟨rfl, rfl⟩
   go_wp2_with fail
   go_ret
   exact ⟨rfl, hb4.out⟩
 | true =>
   rw [Bool.true_and]
   by_cases hc : P.length = 1
   ·rw [decide_eq_true hc]
    have e1 : ((P.length : Int) == 1) = true := beq_iff_eq.2 (by omega)
    clear hc
    go_enter Tryz.func9, Tryz.ntmps9
    go_wp2_with fail
    refine cN.out.mono ?_
    rintro e w1 ⟨rfl, hb1⟩
    have hbx := isC_of hb1 hbox.out
    have k3 := hbx.cell 3
    have hb2 := below_up hb0.out hb0s hb1
    have hb2s := hb2.size
    have cP1 := cP.out w1 (hP1.out.below hb1)
    clear hb1 hbox cN hb0 cP
    replace hb2 := Hd hb2
    replace hbx := Hd hbx
    replace cP1 := Hd cP1
    go_wp2_with fail
    refine cP1.out.mono ?_
    rintro e w2 ⟨rfl, hb3⟩
    have hby := isC_of hb3 hbx.out
    have j0 := hby.cell 0
    have j1 := hby.cell 1
    have j3 := hby.cell 3
    have hb4 := Hd (below_up hb2.out hb2s hb3)
    clear hb3 hbx cP1 hb2 hby k3
    go_wp2_with fail
    refine (cE.out.on _).mono ?_
    rintro e w3 ⟨rfl, rfl⟩
    go_wp2_with fail
    go_ret
    exact ⟨rfl, hb4.out⟩
   ·rw [decide_eq_false hc]
    have e1 : ((P.length : Int) == 1) = false := beq_eq_false_iff_ne.2 (by omega)
    clear hc
    go_enter Tryz.func9, Tryz.ntmps9
    go_wp2_with fail
    refine cN.out.mono ?_
    rintro e w1 ⟨rfl, hb1⟩
    have hbx := isC_of hb1 hbox.out
    have k3 := hbx.cell 3
    have hb2 := below_up hb0.out hb0s hb1
    have hb2s := hb2.size
    have cP1 := cP.out w1 (hP1.out.below hb1)
    clear hb1 hbox cN hb0 cP
    replace hb2 := Hd hb2
    replace hbx := Hd hbx
    replace cP1 := Hd cP1
    go_wp2_with fail
    refine cP1.out.mono ?_
    rintro e w2 ⟨rfl, hb3⟩
    have hby := isC_of hb3 hbx.out
    have j0 := hby.cell 0
    have j1 := hby.cell 1
    have j3 := hby.cell 3
    have hb4 := Hd (below_up hb2.out hb2s hb3)
    clear hb3 hbx cP1 hb2 hby k3
    go_wp2_with fail
    refine (cE.out.on _).mono ?_
    rintro e w3 ⟨rfl, rfl⟩
    go_wp2_with fail
    go_ret
    exact ⟨rfl, hb4.out⟩
theorem is1_k4 (o : OpD) (hs : OpSmall o) (hn1 : isNamedF o = true) (hn2 : isPartsF o.P = true) (hK : o.K = 4) (s t : Value) (w : World) (hin : OpIn w o s t) :
 Calls Tryz.prog 9 #[opv o s t] w fun e w' => e = .returned (.bool (isEntF o.E && decide (0 ≤ o.C))) ∧ Below w.heap.size w w' := by
 obtain ⟨h1, h2⟩ := id hin
 have hb0 := below1 w (.cells (opc o s t) 32)
 have hbox := IsC.new w 32 (opc o s t)
 have cN := isNamed_c o hs.cP s t _ (hin.below hb0)
 have cP := fun w' (h : InS w' s o.P) => isPartsS_c o.P hs.P hs.L s w' h
 have cE := isEnt_c o.E hs.ok.E
 obtain ⟨a, c, rfl, _⟩ := id h1
 obtain ⟨b, d, rfl, _⟩ := id h2
 have hP1 := h1.below hb0
 generalize isEntF o.E = n3 at *
 replace cE := Hd cE
 clear hin hs h1
 obtain ⟨K, E, C, P, A, N, cK, cE', cC, cP', U, B⟩ := o
 dsimp only at *
 subst hK
 unfold opc at *
 unfold opv at *
 dsimp only at *
 generalize isNamedF _ = n1 at *
 generalize isPartsF _ = n2 at *
 subst hn1
 subst hn2
 replace cN := Hd cN
 replace cP := Hd cP
 replace hb0 := Hd hb0
 replace hbox := Hd hbox
 replace hP1 := Hd hP1
 have hb0s := hb0.out.size
 cases n3 with
 | false =>
   rw [Bool.false_and]
   go_enter Tryz.func9, Tryz.ntmps9
   go_wp2_with fail
   refine cN.out.mono ?_
   rintro e w1 ⟨rfl, hb1⟩
   have hbx := isC_of hb1 hbox.out
   have k3 := hbx.cell 3
   have hb2 := below_up hb0.out hb0s hb1
   have hb2s := hb2.size
   have cP1 := cP.out w1 (hP1.out.below hb1)
   clear hb1 hbox cN hb0 cP
   replace hb2 := Hd hb2
   replace hbx := Hd hbx
   replace cP1 := Hd cP1
   go_wp2_with fail
   refine cP1.out.mono ?_
   rintro e w2 ⟨rfl, hb3⟩
   have hby := isC_of hb3 hbx.out
   have j0 := hby.cell 0
   have j1 := hby.cell 1
   have hb4 := Hd (below_up hb2.out hb2s hb3)
   clear hb3 hbx cP1 hb2 hby k3
   go_wp2_with fail
   refine (cE.out.on _).mono ?_
   rintro e w3 ⟨rfl, rfl⟩
   go_wp2_with fail
   go_ret
   exact ⟨rfl, hb4.out⟩
 | true =>
   rw [Bool.true_and]
   by_cases hc : 0 ≤ C
   ·rw [decide_eq_true hc]
    have e1 : 0 ≤ C := hc
    go_enter Tryz.func9, Tryz.ntmps9
    go_wp2_with fail
    refine cN.out.mono ?_
    rintro e w1 ⟨rfl, hb1⟩
    have hbx := isC_of hb1 hbox.out
    have k3 := hbx.cell 3
    have hb2 := below_up hb0.out hb0s hb1
    have hb2s := hb2.size
    have cP1 := cP.out w1 (hP1.out.below hb1)
    clear hb1 hbox cN hb0 cP
    replace hb2 := Hd hb2
    replace hbx := Hd hbx
    replace cP1 := Hd cP1
    go_wp2_with fail
    refine cP1.out.mono ?_
    rintro e w2 ⟨rfl, hb3⟩
    have hby := isC_of hb3 hbx.out
    have j0 := hby.cell 0
    have j1 := hby.cell 1
    have j2 := hby.cell 2
    have hb4 := Hd (below_up hb2.out hb2s hb3)
    clear hb3 hbx cP1 hb2 hby k3
    go_wp2_with fail
    refine (cE.out.on _).mono ?_
    rintro e w3 ⟨rfl, rfl⟩
    go_wp2_with fail
    go_ret
    exact ⟨rfl, hb4.out⟩
   ·rw [decide_eq_false hc]
    have e1 : ¬ 0 ≤ C := hc
    go_enter Tryz.func9, Tryz.ntmps9
    go_wp2_with fail
    refine cN.out.mono ?_
    rintro e w1 ⟨rfl, hb1⟩
    have hbx := isC_of hb1 hbox.out
    have k3 := hbx.cell 3
    have hb2 := below_up hb0.out hb0s hb1
    have hb2s := hb2.size
    have cP1 := cP.out w1 (hP1.out.below hb1)
    clear hb1 hbox cN hb0 cP
    replace hb2 := Hd hb2
    replace hbx := Hd hbx
    replace cP1 := Hd cP1
    go_wp2_with fail
    refine cP1.out.mono ?_
    rintro e w2 ⟨rfl, hb3⟩
    have hby := isC_of hb3 hbx.out
    have j0 := hby.cell 0
    have j1 := hby.cell 1
    have j2 := hby.cell 2
    have hb4 := Hd (below_up hb2.out hb2s hb3)
    clear hb3 hbx cP1 hb2 hby k3
    go_wp2_with fail
    refine (cE.out.on _).mono ?_
    rintro e w3 ⟨rfl, rfl⟩
    go_wp2_with fail
    go_ret
    exact ⟨by simp; omega, hb4.out⟩
theorem is1_k6 (o : OpD) (hs : OpSmall o) (hn1 : isNamedF o = true) (hn2 : isPartsF o.P = true) (hK : o.K = 6) (s t : Value) (w : World) (hin : OpIn w o s t) :
 Calls Tryz.prog 9 #[opv o s t] w fun e w' => e = .returned (.bool (isEntF o.E && decide (0 ≤ o.C))) ∧ Below w.heap.size w w' := by
 obtain ⟨h1, h2⟩ := id hin
 have hb0 := below1 w (.cells (opc o s t) 32)
 have hbox := IsC.new w 32 (opc o s t)
 have cN := isNamed_c o hs.cP s t _ (hin.below hb0)
 have cP := fun w' (h : InS w' s o.P) => isPartsS_c o.P hs.P hs.L s w' h
 have cE := isEnt_c o.E hs.ok.E
 obtain ⟨a, c, rfl, _⟩ := id h1
 obtain ⟨b, d, rfl, _⟩ := id h2
 have hP1 := h1.below hb0
 generalize isEntF o.E = n3 at *
 replace cE := Hd cE
 clear hin hs h1
 obtain ⟨K, E, C, P, A, N, cK, cE', cC, cP', U, B⟩ := o
 dsimp only at *
 subst hK
 unfold opc at *
 unfold opv at *
 dsimp only at *
 generalize isNamedF _ = n1 at *
 generalize isPartsF _ = n2 at *
 subst hn1
 subst hn2
 replace cN := Hd cN
 replace cP := Hd cP
 replace hb0 := Hd hb0
 replace hbox := Hd hbox
 replace hP1 := Hd hP1
 have hb0s := hb0.out.size
 cases n3 with
 | false =>
   rw [Bool.false_and]
   go_enter Tryz.func9, Tryz.ntmps9
   go_wp2_with fail
   refine cN.out.mono ?_
   rintro e w1 ⟨rfl, hb1⟩
   have hbx := isC_of hb1 hbox.out
   have k3 := hbx.cell 3
   have hb2 := below_up hb0.out hb0s hb1
   have hb2s := hb2.size
   have cP1 := cP.out w1 (hP1.out.below hb1)
   clear hb1 hbox cN hb0 cP
   replace hb2 := Hd hb2
   replace hbx := Hd hbx
   replace cP1 := Hd cP1
   go_wp2_with fail
   refine cP1.out.mono ?_
   rintro e w2 ⟨rfl, hb3⟩
   have hby := isC_of hb3 hbx.out
   have j0 := hby.cell 0
   have j1 := hby.cell 1
   have hb4 := Hd (below_up hb2.out hb2s hb3)
   clear hb3 hbx cP1 hb2 hby k3
   go_wp2_with fail
   refine (cE.out.on _).mono ?_
   rintro e w3 ⟨rfl, rfl⟩
   go_wp2_with fail
   go_ret
   exact ⟨rfl, hb4.out⟩
 | true =>
   rw [Bool.true_and]
   by_cases hc : 0 ≤ C
   ·rw [decide_eq_true hc]
    have e1 : 0 ≤ C := hc
    go_enter Tryz.func9, Tryz.ntmps9
    go_wp2_with fail
    refine cN.out.mono ?_
    rintro e w1 ⟨rfl, hb1⟩
    have hbx := isC_of hb1 hbox.out
    have k3 := hbx.cell 3
    have hb2 := below_up hb0.out hb0s hb1
    have hb2s := hb2.size
    have cP1 := cP.out w1 (hP1.out.below hb1)
    clear hb1 hbox cN hb0 cP
    replace hb2 := Hd hb2
    replace hbx := Hd hbx
    replace cP1 := Hd cP1
    go_wp2_with fail
    refine cP1.out.mono ?_
    rintro e w2 ⟨rfl, hb3⟩
    have hby := isC_of hb3 hbx.out
    have j0 := hby.cell 0
    have j1 := hby.cell 1
    have j2 := hby.cell 2
    have hb4 := Hd (below_up hb2.out hb2s hb3)
    clear hb3 hbx cP1 hb2 hby k3
    go_wp2_with fail
    refine (cE.out.on _).mono ?_
    rintro e w3 ⟨rfl, rfl⟩
    go_wp2_with fail
    go_ret
    exact ⟨rfl, hb4.out⟩
   ·rw [decide_eq_false hc]
    have e1 : ¬ 0 ≤ C := hc
    go_enter Tryz.func9, Tryz.ntmps9
    go_wp2_with fail
    refine cN.out.mono ?_
    rintro e w1 ⟨rfl, hb1⟩
    have hbx := isC_of hb1 hbox.out
    have k3 := hbx.cell 3
    have hb2 := below_up hb0.out hb0s hb1
    have hb2s := hb2.size
    have cP1 := cP.out w1 (hP1.out.below hb1)
    clear hb1 hbox cN hb0 cP
    replace hb2 := Hd hb2
    replace hbx := Hd hbx
    replace cP1 := Hd cP1
    go_wp2_with fail
    refine cP1.out.mono ?_
    rintro e w2 ⟨rfl, hb3⟩
    have hby := isC_of hb3 hbx.out
    have j0 := hby.cell 0
    have j1 := hby.cell 1
    have j2 := hby.cell 2
    have hb4 := Hd (below_up hb2.out hb2s hb3)
    clear hb3 hbx cP1 hb2 hby k3
    go_wp2_with fail
    refine (cE.out.on _).mono ?_
    rintro e w3 ⟨rfl, rfl⟩
    go_wp2_with fail
    go_ret
    exact ⟨by simp; omega, hb4.out⟩
theorem is1_k7 (o : OpD) (hs : OpSmall o) (hn1 : isNamedF o = true) (hn2 : isPartsF o.P = true) (hK : o.K = 7) (s t : Value) (w : World) (hin : OpIn w o s t) :
 Calls Tryz.prog 9 #[opv o s t] w fun e w' => e = .returned (.bool (Sg.isF o.A.toNat && Sg.isF o.N.toNat)) ∧ Below w.heap.size w w' := by
 obtain ⟨h1, h2⟩ := id hin
 have hb0 := below1 w (.cells (opc o s t) 32)
 have hbox := IsC.new w 32 (opc o s t)
 have cN := isNamed_c o hs.cP s t _ (hin.below hb0)
 have cP := fun w' (h : InS w' s o.P) => isPartsS_c o.P hs.P hs.L s w' h
 have cA := is_c o.A.toNat (by have := hs.ok.A; unfold u32 at this; omega)
 have cB := is_c o.N.toNat (by have := hs.ok.N; unfold u32 at this; omega)
 rw [show ((o.A.toNat : Nat) : Int) = o.A by have := hs.ok.A; unfold u32 at this; omega] at cA
 rw [show ((o.N.toNat : Nat) : Int) = o.N by have := hs.ok.N; unfold u32 at this; omega] at cB
 obtain ⟨a, c, rfl, _⟩ := id h1
 obtain ⟨b, d, rfl, _⟩ := id h2
 have hP1 := h1.below hb0
 generalize Sg.isF o.A.toNat = n4 at *
 generalize Sg.isF o.N.toNat = n5 at *
 replace cA := Hd cA
 replace cB := Hd cB
 clear hin hs h1
 obtain ⟨K, E, C, P, A, N, cK, cE', cC, cP', U, B⟩ := o
 dsimp only at *
 subst hK
 unfold opc at *
 unfold opv at *
 dsimp only at *
 generalize isNamedF _ = n1 at *
 generalize isPartsF _ = n2 at *
 subst hn1
 subst hn2
 replace cN := Hd cN
 replace cP := Hd cP
 replace hb0 := Hd hb0
 replace hbox := Hd hbox
 replace hP1 := Hd hP1
 have hb0s := hb0.out.size
 cases n4 with
 | false =>
   go_enter Tryz.func9, Tryz.ntmps9
   go_wp2_with fail
   refine cN.out.mono ?_
   rintro e w1 ⟨rfl, hb1⟩
   have hbx := isC_of hb1 hbox.out
   have k3 := hbx.cell 3
   have hb2 := below_up hb0.out hb0s hb1
   have hb2s := hb2.size
   have cP1 := cP.out w1 (hP1.out.below hb1)
   clear hb1 hbox cN hb0 cP
   replace hb2 := Hd hb2
   replace hbx := Hd hbx
   replace cP1 := Hd cP1
   go_wp2_with fail
   refine cP1.out.mono ?_
   rintro e w2 ⟨rfl, hb3⟩
   have hby := isC_of hb3 hbx.out
   have j0 := hby.cell 0
   have j4 := hby.cell 4
   have j5 := hby.cell 5
   have hb4 := Hd (below_up hb2.out hb2s hb3)
   clear hb3 hbx cP1 hb2 hby k3
   go_wp2_with fail
   refine (cA.out.on _).mono ?_
   rintro e w3 ⟨rfl, rfl⟩
   go_wp2_with fail
   go_ret
   exact ⟨rfl, hb4.out⟩
 | true =>
   go_enter Tryz.func9, Tryz.ntmps9
   go_wp2_with fail
   refine cN.out.mono ?_
   rintro e w1 ⟨rfl, hb1⟩
   have hbx := isC_of hb1 hbox.out
   have k3 := hbx.cell 3
   have hb2 := below_up hb0.out hb0s hb1
   have hb2s := hb2.size
   have cP1 := cP.out w1 (hP1.out.below hb1)
   clear hb1 hbox cN hb0 cP
   replace hb2 := Hd hb2
   replace hbx := Hd hbx
   replace cP1 := Hd cP1
   go_wp2_with fail
   refine cP1.out.mono ?_
   rintro e w2 ⟨rfl, hb3⟩
   have hby := isC_of hb3 hbx.out
   have j0 := hby.cell 0
   have j4 := hby.cell 4
   have j5 := hby.cell 5
   have hb4 := Hd (below_up hb2.out hb2s hb3)
   clear hb3 hbx cP1 hb2 hby k3
   go_wp2_with fail
   refine (cA.out.on _).mono ?_
   rintro e w3 ⟨rfl, rfl⟩
   go_wp2_with fail
   refine (cB.out.on _).mono ?_
   rintro e w3 ⟨rfl, rfl⟩
   go_wp2_with fail
   go_ret
   exact ⟨rfl, hb4.out⟩
theorem is1_k9 (o : OpD) (hs : OpSmall o) (hn1 : isNamedF o = true) (hn2 : isPartsF o.P = true) (hK : o.K = 9) (s t : Value) (w : World) (hin : OpIn w o s t) :
 Calls Tryz.prog 9 #[opv o s t] w fun e w' => e = .returned (.bool (decide (0 ≤ o.U))) ∧ Below w.heap.size w w' := by
 obtain ⟨h1, h2⟩ := id hin
 have hb0 := below1 w (.cells (opc o s t) 32)
 have hbox := IsC.new w 32 (opc o s t)
 have cN := isNamed_c o hs.cP s t _ (hin.below hb0)
 have cP := fun w' (h : InS w' s o.P) => isPartsS_c o.P hs.P hs.L s w' h
 obtain ⟨a, c, rfl, _⟩ := id h1
 obtain ⟨b, d, rfl, _⟩ := id h2
 have hP1 := h1.below hb0
 clear hin hs h1
 obtain ⟨K, E, C, P, A, N, cK, cE', cC, cP', U, B⟩ := o
 dsimp only at *
 subst hK
 unfold opc at *
 unfold opv at *
 dsimp only at *
 generalize isNamedF _ = n1 at *
 generalize isPartsF _ = n2 at *
 subst hn1
 subst hn2
 replace cN := Hd cN
 replace cP := Hd cP
 replace hb0 := Hd hb0
 replace hbox := Hd hbox
 replace hP1 := Hd hP1
 have hb0s := hb0.out.size
 go_enter Tryz.func9, Tryz.ntmps9
 go_wp2_with fail
 refine cN.out.mono ?_
 rintro e w1 ⟨rfl, hb1⟩
 have hbx := isC_of hb1 hbox.out
 have k3 := hbx.cell 3
 have hb2 := below_up hb0.out hb0s hb1
 have hb2s := hb2.size
 have cP1 := cP.out w1 (hP1.out.below hb1)
 clear hb1 hbox cN hb0 cP
 replace hb2 := Hd hb2
 replace hbx := Hd hbx
 replace cP1 := Hd cP1
 go_wp2_with fail
 refine cP1.out.mono ?_
 rintro e w2 ⟨rfl, hb3⟩
 have hby := isC_of hb3 hbx.out
 have j0 := hby.cell 0
 have j10 := hby.cell 10
 have hb4 := Hd (below_up hb2.out hb2s hb3)
 clear hb3 hbx cP1 hb2 hby k3
 go_wp2_with fail
 go_ret
 exact ⟨by simp, hb4.out⟩
theorem is1_k10 (o : OpD) (hs : OpSmall o) (hn1 : isNamedF o = true) (hn2 : isPartsF o.P = true) (hK : o.K = 10) (s t : Value) (w : World) (hin : OpIn w o s t) :
 Calls Tryz.prog 9 #[opv o s t] w fun e w' => e = .returned (.bool (decide (o.B.size ≤ 16384))) ∧ Below w.heap.size w w' := by
 obtain ⟨h1, h2⟩ := id hin
 have hb0 := below1 w (.cells (opc o s t) 32)
 have hbox := IsC.new w 32 (opc o s t)
 have cN := isNamed_c o hs.cP s t _ (hin.below hb0)
 have cP := fun w' (h : InS w' s o.P) => isPartsS_c o.P hs.P hs.L s w' h
 have hBs := hs.B
 unfold maxLen at hBs
 obtain ⟨a, c, rfl, _⟩ := id h1
 obtain ⟨b, d, rfl, _⟩ := id h2
 have hP1 := h1.below hb0
 clear hin hs h1
 obtain ⟨K, E, C, P, A, N, cK, cE', cC, cP', U, B⟩ := o
 dsimp only at *
 subst hK
 unfold opc at *
 unfold opv at *
 dsimp only at *
 generalize isNamedF _ = n1 at *
 generalize isPartsF _ = n2 at *
 subst hn1
 subst hn2
 replace cN := Hd cN
 replace cP := Hd cP
 replace hb0 := Hd hb0
 replace hbox := Hd hbox
 replace hP1 := Hd hP1
 have hb0s := hb0.out.size
 go_enter Tryz.func9, Tryz.ntmps9
 go_wp2_with fail
 refine cN.out.mono ?_
 rintro e w1 ⟨rfl, hb1⟩
 have hbx := isC_of hb1 hbox.out
 have k3 := hbx.cell 3
 have hb2 := below_up hb0.out hb0s hb1
 have hb2s := hb2.size
 have cP1 := cP.out w1 (hP1.out.below hb1)
 clear hb1 hbox cN hb0 cP
 replace hb2 := Hd hb2
 replace hbx := Hd hbx
 replace cP1 := Hd cP1
 go_wp2_with fail
 refine cP1.out.mono ?_
 rintro e w2 ⟨rfl, hb3⟩
 have hby := isC_of hb3 hbx.out
 have j0 := hby.cell 0
 have j11 := hby.cell 11
 have hb4 := Hd (below_up hb2.out hb2s hb3)
 clear hb3 hbx cP1 hb2 hby k3
 go_wp2_with fail
 go_ret
 exact ⟨by simp; omega, hb4.out⟩
theorem is1_no (o : OpD) (hs : OpSmall o) (hn1 : isNamedF o = true) (hn2 : isPartsF o.P = true) (g1 : o.K ≠ 1) (g11 : o.K ≠ 11) (g2 : o.K ≠ 2) (g3 : o.K ≠ 3) (g5 : o.K ≠ 5) (g4 : o.K ≠ 4) (g6 : o.K ≠ 6) (g7 : o.K ≠ 7) (g8 : o.K ≠ 8) (g9 : o.K ≠ 9) (g10 : o.K ≠ 10) (s t : Value) (w : World) (hin : OpIn w o s t) :
 Calls Tryz.prog 9 #[opv o s t] w fun e w' => e = .returned (.bool false) ∧ Below w.heap.size w w' := by
 obtain ⟨h1, h2⟩ := id hin
 have hb0 := below1 w (.cells (opc o s t) 32)
 have hbox := IsC.new w 32 (opc o s t)
 have cN := isNamed_c o hs.cP s t _ (hin.below hb0)
 have cP := fun w' (h : InS w' s o.P) => isPartsS_c o.P hs.P hs.L s w' h
 obtain ⟨a, c, rfl, _⟩ := id h1
 obtain ⟨b, d, rfl, _⟩ := id h2
 have hP1 := h1.below hb0
 clear hin hs h1
 obtain ⟨K, E, C, P, A, N, cK, cE', cC, cP', U, B⟩ := o
 dsimp only at *
 unfold opc at *
 unfold opv at *
 dsimp only at *
 generalize isNamedF _ = n1 at *
 generalize isPartsF _ = n2 at *
 subst hn1
 subst hn2
 replace cN := Hd cN
 replace cP := Hd cP
 replace hb0 := Hd hb0
 replace hbox := Hd hbox
 replace hP1 := Hd hP1
 have hb0s := hb0.out.size
 have e1 : (K == 1) = false := beq_eq_false_iff_ne.2 g1
 have e11 : (K == 11) = false := beq_eq_false_iff_ne.2 g11
 have e2 : (K == 2) = false := beq_eq_false_iff_ne.2 g2
 have e3 : (K == 3) = false := beq_eq_false_iff_ne.2 g3
 have e5 : (K == 5) = false := beq_eq_false_iff_ne.2 g5
 have e4 : (K == 4) = false := beq_eq_false_iff_ne.2 g4
 have e6 : (K == 6) = false := beq_eq_false_iff_ne.2 g6
 have e7 : (K == 7) = false := beq_eq_false_iff_ne.2 g7
 have e8 : (K == 8) = false := beq_eq_false_iff_ne.2 g8
 have e9 : (K == 9) = false := beq_eq_false_iff_ne.2 g9
 have e10 : (K == 10) = false := beq_eq_false_iff_ne.2 g10
 clear g1 g11 g2 g3 g5 g4 g6 g7 g8 g9 g10
 go_enter Tryz.func9, Tryz.ntmps9
 go_wp2_with fail
 refine cN.out.mono ?_
 rintro e w1 ⟨rfl, hb1⟩
 have hbx := isC_of hb1 hbox.out
 have k3 := hbx.cell 3
 have hb2 := below_up hb0.out hb0s hb1
 have hb2s := hb2.size
 have cP1 := cP.out w1 (hP1.out.below hb1)
 clear hb1 hbox cN hb0 cP
 replace hb2 := Hd hb2
 replace hbx := Hd hbx
 replace cP1 := Hd cP1
 go_wp2_with fail
 refine cP1.out.mono ?_
 rintro e w2 ⟨rfl, hb3⟩
 have hby := isC_of hb3 hbx.out
 have j0 := hby.cell 0
 have hb4 := Hd (below_up hb2.out hb2s hb3)
 clear hb3 hbx cP1 hb2 hby k3
 go_wp2_with fail
 go_ret
 exact ⟨rfl, hb4.out⟩
theorem is1_c (o : OpD) (hs : OpSmall o) (h8 : o.K ≠ 8) (s t : Value) (w : World) (hin : OpIn w o s t) :
 Calls Tryz.prog 9 #[opv o s t] w fun e w' => e = .returned (.bool (is1F o)) ∧ Below w.heap.size w w' := by
 unfold is1F
 cases hn1 : isNamedF o with
 | false => exact is1_n1 o hs hn1 s t w hin
 | true =>
   cases hn2 : isPartsF o.P with
   | false => exact is1_n2 o hs hn1 hn2 s t w hin
   | true =>
     rw [Bool.true_and, Bool.true_and]
     unfold askF
     by_cases h1 : o.K = 1
     ·rw [if_pos h1]
      exact is1_k1 o hs hn1 hn2 h1 s t w hin
     rw [if_neg h1]
     by_cases h11 : o.K = 11
     ·rw [if_pos h11]
      exact is1_k11 o hs hn1 hn2 h11 s t w hin
     rw [if_neg h11]
     by_cases h2 : o.K = 2
     ·rw [if_pos h2]
      exact is1_k2 o hs hn1 hn2 h2 s t w hin
     rw [if_neg h2]
     by_cases h3 : o.K = 3
     ·rw [if_pos h3]
      exact is1_k3 o hs hn1 hn2 h3 s t w hin
     rw [if_neg h3]
     by_cases h5 : o.K = 5
     ·rw [if_pos h5]
      exact is1_k5 o hs hn1 hn2 h5 s t w hin
     rw [if_neg h5]
     by_cases h4 : o.K = 4
     ·rw [if_pos h4]
      exact is1_k4 o hs hn1 hn2 h4 s t w hin
     rw [if_neg h4]
     by_cases h6 : o.K = 6
     ·rw [if_pos h6]
      exact is1_k6 o hs hn1 hn2 h6 s t w hin
     rw [if_neg h6]
     by_cases h7 : o.K = 7
     ·rw [if_pos h7]
      exact is1_k7 o hs hn1 hn2 h7 s t w hin
     rw [if_neg h7]
     by_cases h9 : o.K = 9
     ·rw [if_pos h9]
      exact is1_k9 o hs hn1 hn2 h9 s t w hin
     rw [if_neg h9]
     by_cases h10 : o.K = 10
     ·rw [if_pos h10]
      exact is1_k10 o hs hn1 hn2 h10 s t w hin
     rw [if_neg h10]
     exact is1_no o hs hn1 hn2 h1 h11 h2 h3 h5 h4 h6 h7 h8 h9 h10 s t w hin
end Go.Proofs.YtjjgbillihedgaaGreatDoor
