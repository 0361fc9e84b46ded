/- parts of the proof, merged: TlI -/
import Derived.Test.YtjjgbillihedgaaGreatDoorQb11
set_option linter.unusedVariables false
set_option maxHeartbeats 16000000
set_option maxRecDepth 100000
namespace Go.Proofs.YtjjgbillihedgaaGreatDoor
open Go.RowKit
open Rf
open Sg
open Wide
open Tl
namespace Tl
def sameO (x o : OpD) : Prop := x.E = o.E ∧ x.C = o.C ∧ x.P.length = o.P.length ∧ x.A = o.A ∧ x.N = o.N ∧ (x.cK = o.cK ∧ x.cE = o.cE ∧ x.cC = o.cC ∧ x.cP = o.cP) ∧ x.U = o.U ∧ byts x.B = byts o.B
instance (x o : OpD) : Decidable (sameO x o) := by unfold sameO; infer_instance
def isNamedF (o : OpD) : Bool := decide (sameO (namedF o) o)
end Tl
theorem named_s {w : World} {o : OpD} {s : Value} (h : InS w s o.P) : InS w (namedS o s) (namedF o).P := by
 unfold namedS namedF nilV
 repeat' split
 all_goals first | exact h | exact InS.nil _ _ _ | (exfalso; omega)
theorem named_t {w : World} {o : OpD} {t : Value} (h : InS w t o.cP) : InS w (namedT o t) (namedF o).cP := by
 unfold namedT namedF nilV
 repeat' split
 all_goals first | exact h | exact InS.nil _ _ _ | (exfalso; omega)
theorem named_small {o : OpD} (h : Small o.cP) : Small (namedF o).cP := by
 have h0 : Small [] := ⟨by simp, by simp⟩
 unfold namedF
 repeat' split
 all_goals first | exact h | exact h0
theorem bytes_eq (a b : ByteArray) : (a.toList == b.toList) = decide (byts a = byts b) := by
 rw [toList_byts, toList_byts, Bool.eq_iff_iff, beq_iff_eq, decide_eq_true_iff]
theorem isNamed_c (o : OpD) (hs : Small o.cP) (s t : Value) (w : World) (hin : OpIn w o s t) :
 Calls Tryz.prog 23 #[opv o s t] w fun e w' => e = .returned (.bool (isNamedF o)) ∧ Below w.heap.size w w' := by
 obtain ⟨h1, h2⟩ := hin
 have g1 := named_s h1
 have g2 := named_t h2
 have gs := named_small hs
 obtain ⟨a, c, rfl, _⟩ := id h1
 obtain ⟨b, d, rfl, _⟩ := id h2
 have hb0 := below1 w (.cells (opc o (.slice a o.P.length c) (.slice b o.cP.length d)) 32)
 have hbox := IsC.new w 32 (opc o (.slice a o.P.length c) (.slice b o.cP.length d))
 have cn := named_c o a b o.P.length o.cP.length c d (w.alloc (.cells (opc o (.slice a o.P.length c) (.slice b o.cP.length d)) 32))
 unfold isNamedF
 generalize namedS o (.slice a o.P.length c) = xs at *
 generalize namedT o (.slice b o.cP.length d) = xt at *
 generalize namedF o = x at *
 obtain ⟨a1, c1, rfl, _⟩ := id g1
 obtain ⟨b1, d1, rfl, _⟩ := id g2
 obtain ⟨K, E, C, P, A, N, cK, cE, cC, cP, U, B⟩ := o
 obtain ⟨xK, xE, xC, xP, xA, xN, xcK, xcE, xcC, xcP, xU, xB⟩ := x
 obtain ⟨R, hR⟩ : ∃ R, decide (sameO ⟨xK, xE, xC, xP, xA, xN, xcK, xcE, xcC, xcP, xU, xB⟩ ⟨K, E, C, P, A, N, cK, cE, cC, cP, U, B⟩) = R := ⟨_, rfl⟩
 rw [hR]
 unfold opv opc at *
 unfold sameO at hR
 dsimp only at *
 have hsz := size_alloc w (.cells #[.int .i64 K, .int .u64 E, .int .i64 C, .slice a P.length c, .int .u32 A, .int .u32 N, .int .i64 cK, .int .u64 cE, .int .i64 cC, .slice b cP.length d, .int .i64 U, .string B] 32)
 replace cn := Hd cn
 replace hR := Hd hR
 replace hb0 := Hd hb0
 replace hbox := Hd hbox
 replace h2 := Hd h2
 replace g2 := Hd g2
 replace hsz := Hd hsz
 clear h1 g1 hs
 go_enter Tryz.func23, Tryz.ntmps23
 go_wp2_with fail
 refine cn.out.mono ?_
 rintro e w1 ⟨rfl, hb1⟩
 have hbx := isC_of hb1 hbox.out
 have hlt := hbx.lt
 have k1 := hbx.cell 1
 have k2 := hbx.cell 2
 have k3 := hbx.cell 3
 have k4 := hbx.cell 4
 have k5 := hbx.cell 5
 have k6 := hbx.cell 6
 have k7 := hbx.cell 7
 have k8 := hbx.cell 8
 have k9 := hbx.cell 9
 have k10 := hbx.cell 10
 have k11 := hbx.cell 11
 have hb2 := below_up hb0.out hb0.out.size hb1
 have hb3 := hb2.alloc hb2.size (.cells #[.int .i64 xK, .int .u64 xE, .int .i64 xC, .slice a1 xP.length c1, .int .u32 xA, .int .u32 xN, .int .i64 xcK, .int .u64 xcE, .int .i64 xcC, .slice b1 xcP.length d1, .int .i64 xU, .string xB] 32)
 have hb3s := hb3.size
 have cs := same_c xcK xcE xcC cK cE cC xcP cP gs (.slice b1 xcP.length d1) (.slice b cP.length d) _ (g2.out.below hb3) (h2.out.below hb3)
 unfold cmdv at cs
 clear cn hb1 hbx hbox hb2 hb0 g2 h2
 replace hb3 := Hd hb3
 obtain ⟨S, hS⟩ : ∃ S, decide (xcK = cK ∧ xcE = cE ∧ xcC = cC ∧ xcP = cP) = S := ⟨_, rfl⟩
 rw [hS] at cs
 replace cs := Hd cs
 replace hS := Hd hS
 have hX := IsC.new w1 32 #[.int .i64 xK, .int .u64 xE, .int .i64 xC, .slice a1 xP.length c1, .int .u32 xA, .int .u32 xN, .int .i64 xcK, .int .u64 xcE, .int .i64 xcC, .slice b1 xcP.length d1, .int .i64 xU, .string xB]
 have i10' := hX.cell 10
 have i11' := hX.cell 11
 have hbn := below1 w1 (.cells #[.int .i64 xK, .int .u64 xE, .int .i64 xC, .slice a1 xP.length c1, .int .u32 xA, .int .u32 xN, .int .i64 xcK, .int .u64 xcE, .int .i64 xcC, .slice b1 xcP.length d1, .int .i64 xU, .string xB] 32)
 have k10' := cell_up k10 hbn
 have k11' := cell_up k11 hbn
 clear hX hbn
 by_cases m0 : xE = E
 ·have e0 : (xE == E) = true := beq_iff_eq.2 m0
  replace m0 := Hd m0
  by_cases m1 : xC = C
  ·have e1 : (xC == C) = true := beq_iff_eq.2 m1
   replace m1 := Hd m1
   by_cases m2 : xP.length = P.length
   ·have e2 : ((xP.length : Int) == (P.length : Int)) = true := by rw [m2]; exact beq_self_eq_true _
    replace m2 := Hd m2
    by_cases m3 : xA = A
    ·subst m3
     by_cases m4 : xN = N
     ·subst m4
      cases S with
      | false =>
        have hr : false = R := by rw [← hR.out]; symm; exact decide_eq_false (fun h => by have h5 := hS.out; rw [decide_eq_true h.2.2.2.2.2.1] at h5; cases h5)
        subst hr
        clear hR
        clear hS
        go_wp2_with fail
        refine cs.out.mono ?_
        rintro e w3 ⟨rfl, hb4⟩
        have hb5 := Hd (below_up hb3.out hb3s hb4)
        clear hb4 hb3 cs
        go_wp2_with fail
        go_ret
        exact ⟨rfl, hb5.out⟩
      | true =>
        go_wp2_with fail
        refine cs.out.mono ?_
        rintro e w3 ⟨rfl, hb4⟩
        have hb5 := Hd (below_up hb3.out hb3s hb4)
        have j10 := cell_up k10' hb4
        have j11 := cell_up k11' hb4
        have i10 := cell_up i10' hb4
        have i11 := cell_up i11' hb4
        clear hb4 hb3 cs
        by_cases m6 : xU = U
        ·have e6 : (xU == U) = true := beq_iff_eq.2 m6
         replace m6 := Hd m6
         by_cases m7 : byts xB = byts B
         ·have e7 : (xB.toList == B.toList) = true := by rw [bytes_eq]; exact decide_eq_true m7
          have hr : true = R := by rw [← hR.out]; symm; exact decide_eq_true ⟨m0.out, m1.out, m2.out, trivial, trivial, of_decide_eq_true hS.out, m6.out, m7⟩
          subst hr
          clear hR hS
          go_wp2_with fail
          go_ret
          exact ⟨rfl, hb5.out⟩
         ·have n7 := m7
          clear m7
          have e7 : (xB.toList == B.toList) = false := by rw [bytes_eq]; exact decide_eq_false n7
          have hr : false = R := by rw [← hR.out]; symm; exact decide_eq_false (fun h => n7 h.2.2.2.2.2.2.2)
          subst hr
          clear hR
          go_wp2_with fail
          go_ret
          exact ⟨rfl, hb5.out⟩
        ·have n6 := m6
         clear m6
         have e6 : (xU == U) = false := beq_eq_false_iff_ne.2 n6
         have hr : false = R := by rw [← hR.out]; symm; exact decide_eq_false (fun h => n6 h.2.2.2.2.2.2.1)
         subst hr
         clear hR
         go_wp2_with fail
         go_ret
         exact ⟨rfl, hb5.out⟩
     ·have n4 := m4
      clear m4
      have hr : false = R := by rw [← hR.out]; symm; exact decide_eq_false (fun h => n4 h.2.2.2.2.1)
      subst hr
      clear hR
      clear cs hS
      go_wp2_with fail
      go_ret
      exact ⟨rfl, hb3.out⟩
    ·have n3 := m3
     clear m3
     have hr : false = R := by rw [← hR.out]; symm; exact decide_eq_false (fun h => n3 h.2.2.2.1)
     subst hr
     clear hR
     clear cs hS
     go_wp2_with fail
     go_ret
     exact ⟨rfl, hb3.out⟩
   ·have n2 := m2
    clear m2
    have e2 : ((xP.length : Int) == (P.length : Int)) = false := beq_eq_false_iff_ne.2 (by omega)
    have hr : false = R := by rw [← hR.out]; symm; exact decide_eq_false (fun h => n2 h.2.2.1)
    subst hr
    clear hR
    clear cs hS
    go_wp2_with fail
    go_ret
    exact ⟨rfl, hb3.out⟩
  ·have n1 := m1
   clear m1
   have e1 : (xC == C) = false := beq_eq_false_iff_ne.2 n1
   have hr : false = R := by rw [← hR.out]; symm; exact decide_eq_false (fun h => n1 h.2.1)
   subst hr
   clear hR
   clear cs hS
   go_wp2_with fail
   go_ret
   exact ⟨rfl, hb3.out⟩
 ·have n0 := m0
  clear m0
  have e0 : (xE == E) = false := beq_eq_false_iff_ne.2 n0
  have hr : false = R := by rw [← hR.out]; symm; exact decide_eq_false (fun h => n0 h.1)
  subst hr
  clear hR
  clear cs hS
  go_wp2_with fail
  go_ret
  exact ⟨rfl, hb3.out⟩
end Go.Proofs.YtjjgbillihedgaaGreatDoor
