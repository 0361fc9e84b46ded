/- parts of the proof, merged: TlZ5 -/
import Derived.Test.YtjjgbillihedgaaGreatDoorQb21
set_option linter.unusedSimpArgs false
set_option linter.unusedVariables false
set_option maxHeartbeats 32000000
set_option maxRecDepth 100000
namespace Go.Proofs.YtjjgbillihedgaaGreatDoor
open Go.RowKit
open Rf
open Sg
open Wide
open Tl
namespace Tl
/-- two ops, all in all -/
def sameD (x y : OpD) : Bool := decide (x.K = y.K ∧ x.E = y.E ∧ x.C = y.C ∧ x.P = y.P ∧ x.A = y.A ∧ x.N = y.N ∧ x.U = y.U ∧ byts x.B = byts y.B ∧ x.cK = y.cK ∧ x.cE = y.cE ∧ x.cC = y.cC ∧ x.cP = y.cP)
end Tl
theorem sameL_c (x y : OpD) (hPN : x.P.length ≤ 1000000) (hQN : x.cP.length ≤ 1000000) (hP : ∀ p ∈ x.P, p.V.length ≤ 1000000) (hQ : ∀ p ∈ x.cP, p.V.length ≤ 1000000) (s t s1 t1 : Value) (w : World) (hin : OpIn w x s t) (hjn : OpIn w y s1 t1) :
 Calls Tryz.prog 15 #[opv x s t, opv y s1 t1] w fun e w' => e = .returned (.bool (sameD x y)) ∧ Below w.heap.size w w' := by
 obtain ⟨hi1, hi2⟩ := hin
 obtain ⟨hj1, hj2⟩ := hjn
 obtain ⟨xa, xc, rfl, _⟩ := id hi1
 obtain ⟨xb, xd, rfl, _⟩ := id hi2
 obtain ⟨ya, yc, rfl, _⟩ := id hj1
 obtain ⟨yb, yd, rfl, _⟩ := id hj2
 obtain ⟨xK, xE, xC, xP, xA, xN, xcK, xcE, xcC, xcP, xU, xB⟩ := x
 obtain ⟨yK, yE, yC, yP, yA, yN, ycK, ycE, ycC, ycP, yU, yB⟩ := y
 unfold opv sameD
 dsimp only at *
 have hcmp := bytes_eq xB yB
 have hR : decide (xK = yK ∧ xE = yE ∧ xC = yC ∧ xP = yP ∧ xA = yA ∧ xN = yN ∧ xU = yU ∧ byts xB = byts yB ∧ xcK = ycK ∧ xcE = ycE ∧ xcC = ycC ∧ xcP = ycP) = ((xK == yK) && ((xE == yE) && ((xC == yC) && (decide (xP = yP) && ((xA == yA) && ((xN == yN) && ((xU == yU) && ((xB.toList == yB.toList) && ((xcK == ycK) && ((xcE == ycE) && ((xcC == ycC) && (decide (xcP = ycP))))))))))))) := by
  rw [hcmp, Bool.eq_iff_iff]
  simp [Bool.and_eq_true]
 rw [hR]
 clear hR hcmp
 have hb1 := (below1 w (.cells #[.int .i64 xK, .int .u64 xE, .int .i64 xC, .slice xa xP.length xc, .int .u32 xA, .int .u32 xN, .int .i64 xcK, .int .u64 xcE, .int .i64 xcC, .slice xb xcP.length xd, .int .i64 xU, .string xB] 38)).alloc (by rw [size_alloc]; omega) (.cells #[.int .i64 yK, .int .u64 yE, .int .i64 yC, .slice ya yP.length yc, .int .u32 yA, .int .u32 yN, .int .i64 ycK, .int .u64 ycE, .int .i64 ycC, .slice yb ycP.length yd, .int .i64 yU, .string yB] 38)
 have hX := (IsC.new w 38 #[.int .i64 xK, .int .u64 xE, .int .i64 xC, .slice xa xP.length xc, .int .u32 xA, .int .u32 xN, .int .i64 xcK, .int .u64 xcE, .int .i64 xcC, .slice xb xcP.length xd, .int .i64 xU, .string xB]).alloc (.cells #[.int .i64 yK, .int .u64 yE, .int .i64 yC, .slice ya yP.length yc, .int .u32 yA, .int .u32 yN, .int .i64 ycK, .int .u64 ycE, .int .i64 ycC, .slice yb ycP.length yd, .int .i64 yU, .string yB] 38)
 have hY := IsC.new (w.alloc (.cells #[.int .i64 xK, .int .u64 xE, .int .i64 xC, .slice xa xP.length xc, .int .u32 xA, .int .u32 xN, .int .i64 xcK, .int .u64 xcE, .int .i64 xcC, .slice xb xcP.length xd, .int .i64 xU, .string xB] 38)) 38 #[.int .i64 yK, .int .u64 yE, .int .i64 yC, .slice ya yP.length yc, .int .u32 yA, .int .u32 yN, .int .i64 ycK, .int .u64 ycE, .int .i64 ycC, .slice yb ycP.length yd, .int .i64 yU, .string yB]
 rw [size_alloc] at hY
 have c1 := partsL_c xP yP hPN hP _ _ _ (hi1.below hb1) (hj1.below hb1)
 have c2 := fun w' (hb : Below w.heap.size w w') => partsL_c xcP ycP hQN hQ _ _ w' (hi2.below hb) (hj2.below hb)
 generalize decide (xP = yP) = fP at *
 generalize decide (xcP = ycP) = fQ at *
 clear hi1 hi2 hj1 hj2 hP hQ hPN hQN
 generalize hK : (xK == yK) = bK at *
 generalize hE : (xE == yE) = bE at *
 generalize hC : (xC == yC) = bC at *
 generalize hA : (xA == yA) = bA at *
 generalize hN : (xN == yN) = bN at *
 generalize hU : (xU == yU) = bU at *
 generalize hB : (xB.toList == yB.toList) = bB at *
 generalize hcK : (xcK == ycK) = bcK at *
 generalize hcE : (xcE == ycE) = bcE at *
 generalize hcC : (xcC == ycC) = bcC at *
 replace c1 := Hd c1
 replace c2 := Hd c2
 replace hb1 := Hd hb1
 have hs1 := hb1.out.size
 cases bK with
 | false =>
   clear c1 c2
   have p0 := hX.cell 0
   have p1 := hX.cell 1
   have p2 := hX.cell 2
   have q0 := hY.cell 0
   have q1 := hY.cell 1
   have q2 := hY.cell 2
   clear hX hY
   go_enter Tryz.func15, Tryz.ntmps15
   go_wp2_with fail
   go_ret
   exact ⟨rfl, hb1.out⟩
 | true =>
   cases bE with
   | false =>
     clear c1 c2
     have p0 := hX.cell 0
     have p1 := hX.cell 1
     have p2 := hX.cell 2
     have q0 := hY.cell 0
     have q1 := hY.cell 1
     have q2 := hY.cell 2
     clear hX hY
     go_enter Tryz.func15, Tryz.ntmps15
     go_wp2_with fail
     go_ret
     exact ⟨rfl, hb1.out⟩
   | true =>
     cases bC with
     | false =>
       clear c1 c2
       have p0 := hX.cell 0
       have p1 := hX.cell 1
       have p2 := hX.cell 2
       have q0 := hY.cell 0
       have q1 := hY.cell 1
       have q2 := hY.cell 2
       clear hX hY
       go_enter Tryz.func15, Tryz.ntmps15
       go_wp2_with fail
       go_ret
       exact ⟨rfl, hb1.out⟩
     | true =>
       have p0 := hX.cell 0
       have p1 := hX.cell 1
       have p2 := hX.cell 2
       have p3 := hX.cell 3
       have q0 := hY.cell 0
       have q1 := hY.cell 1
       have q2 := hY.cell 2
       have q3 := hY.cell 3
       replace hX := Hd hX
       replace hY := Hd hY
       go_enter Tryz.func15, Tryz.ntmps15
       go_wp2_with fail
       refine c1.out.mono ?_
       rintro e w1 ⟨rfl, hb2⟩
       have hX1 := isC_of hb2 hX.out
       have hY1 := isC_of hb2 hY.out
       have hb := below_up hb1.out hs1 hb2
       have c3 := Hd (c2.out _ hb)
       replace hb := Hd hb
       clear p0 q0 p1 q1 p2 q2 p3 q3 c1 c2 hX hY hb1 hb2 hs1
       have hs2 := hb.out.size
       cases fP with
       | false =>
         clear c3 hX1 hY1
         go_wp2_with fail
         go_ret
         exact ⟨rfl, hb.out⟩
       | true =>
         cases bA with
         | false =>
           have p4 := hX1.cell 4
           have q4 := hY1.cell 4
           clear c3 hX1 hY1
           go_wp2_with fail
           go_ret
           exact ⟨rfl, hb.out⟩
         | true =>
           cases bN with
           | false =>
             have p4 := hX1.cell 4
             have p5 := hX1.cell 5
             have q4 := hY1.cell 4
             have q5 := hY1.cell 5
             clear c3 hX1 hY1
             go_wp2_with fail
             go_ret
             exact ⟨rfl, hb.out⟩
           | true =>
             cases bU with
             | false =>
               have p4 := hX1.cell 4
               have p5 := hX1.cell 5
               have p10 := hX1.cell 10
               have q4 := hY1.cell 4
               have q5 := hY1.cell 5
               have q10 := hY1.cell 10
               clear c3 hX1 hY1
               go_wp2_with fail
               go_ret
               exact ⟨rfl, hb.out⟩
             | true =>
               cases bB with
               | false =>
                 have p4 := hX1.cell 4
                 have p5 := hX1.cell 5
                 have p10 := hX1.cell 10
                 have p11 := hX1.cell 11
                 have q4 := hY1.cell 4
                 have q5 := hY1.cell 5
                 have q10 := hY1.cell 10
                 have q11 := hY1.cell 11
                 clear c3 hX1 hY1
                 go_wp2_with fail
                 go_ret
                 exact ⟨rfl, hb.out⟩
               | true =>
                 cases bcK with
                 | false =>
                   have p4 := hX1.cell 4
                   have p5 := hX1.cell 5
                   have p6 := hX1.cell 6
                   have p10 := hX1.cell 10
                   have p11 := hX1.cell 11
                   have q4 := hY1.cell 4
                   have q5 := hY1.cell 5
                   have q6 := hY1.cell 6
                   have q10 := hY1.cell 10
                   have q11 := hY1.cell 11
                   clear c3 hX1 hY1
                   go_wp2_with fail
                   go_ret
                   exact ⟨rfl, hb.out⟩
                 | true =>
                   cases bcE with
                   | false =>
                     have p4 := hX1.cell 4
                     have p5 := hX1.cell 5
                     have p6 := hX1.cell 6
                     have p7 := hX1.cell 7
                     have p10 := hX1.cell 10
                     have p11 := hX1.cell 11
                     have q4 := hY1.cell 4
                     have q5 := hY1.cell 5
                     have q6 := hY1.cell 6
                     have q7 := hY1.cell 7
                     have q10 := hY1.cell 10
                     have q11 := hY1.cell 11
                     clear c3 hX1 hY1
                     go_wp2_with fail
                     go_ret
                     exact ⟨rfl, hb.out⟩
                   | true =>
                     cases bcC with
                     | false =>
                       have p4 := hX1.cell 4
                       have p5 := hX1.cell 5
                       have p6 := hX1.cell 6
                       have p7 := hX1.cell 7
                       have p8 := hX1.cell 8
                       have p10 := hX1.cell 10
                       have p11 := hX1.cell 11
                       have q4 := hY1.cell 4
                       have q5 := hY1.cell 5
                       have q6 := hY1.cell 6
                       have q7 := hY1.cell 7
                       have q8 := hY1.cell 8
                       have q10 := hY1.cell 10
                       have q11 := hY1.cell 11
                       clear c3 hX1 hY1
                       go_wp2_with fail
                       go_ret
                       exact ⟨rfl, hb.out⟩
                     | true =>
                       have p4 := hX1.cell 4
                       have p5 := hX1.cell 5
                       have p6 := hX1.cell 6
                       have p7 := hX1.cell 7
                       have p8 := hX1.cell 8
                       have p9 := hX1.cell 9
                       have p10 := hX1.cell 10
                       have p11 := hX1.cell 11
                       have q4 := hY1.cell 4
                       have q5 := hY1.cell 5
                       have q6 := hY1.cell 6
                       have q7 := hY1.cell 7
                       have q8 := hY1.cell 8
                       have q9 := hY1.cell 9
                       have q10 := hY1.cell 10
                       have q11 := hY1.cell 11
                       clear hX1 hY1
                       go_wp2_with fail
                       refine c3.out.mono ?_
                       rintro e w2 ⟨rfl, hb3⟩
                       have hbf := Hd (below_up hb.out hs2 hb3)
                       clear hb3 hb c3 p4 q4 p5 q5 p6 q6 p7 q7 p8 q8 p9 q9 p10 q10 p11 q11
                       go_wp2_with fail
                       go_ret
                       exact ⟨rfl, hbf.out⟩
end Go.Proofs.YtjjgbillihedgaaGreatDoor
