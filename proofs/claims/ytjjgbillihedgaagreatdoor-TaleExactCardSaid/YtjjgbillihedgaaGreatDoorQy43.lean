/- parts of the proof, merged: TlQ1 -/
import Derived.Test.YtjjgbillihedgaaGreatDoorQy33
import Derived.Test.YtjjgbillihedgaaGreatDoorQy42
set_option linter.unusedSimpArgs false
set_option linter.unusedVariables false
set_option maxHeartbeats 64000000
set_option maxRecDepth 100000
namespace Go.Proofs.YtjjgbillihedgaaGreatDoor
open Go.RowKit
open Rf
open Sg
open Wide
open Tl
namespace Tl
theorem below_dd {w w' : World} {k : Nat} (h : Below (w.drewN k).heap.size (w.drewN k) w') : Below w.heap.size w w' := (below_drewN (Below.refl _ _)).trans h
end Tl
theorem taleExact_c (x : OpD) (hok : x.Ok) (hB : x.B.size ≤ maxLen) (s t : Value) (ln : ByteArray) (w : World) (hop : OpIn w x s t) (hg : GlobT w) :
 Calls Tryz.prog 3 #[opv x s t, .string ln] w fun e w' => e = .returned (.bool true) ∧ Below w.heap.size w w' := by
 obtain ⟨xa, xc, rfl, _⟩ := id hop.1
 obtain ⟨xb, xd, rfl, _⟩ := id hop.2
 have hb1 := below1 w (.cells #[.int .i64 x.K, .int .u64 x.E, .int .i64 x.C, .slice xa x.P.length xc, .int .u32 x.A, .int .u32 x.N, .int .i64 x.cK, .int .u64 x.cE, .int .i64 x.cC, .slice xb x.cP.length xd, .int .i64 x.U, .string x.B] 32)
 have hbox := IsC.new w 32 #[.int .i64 x.K, .int .u64 x.E, .int .i64 x.C, .slice xa x.P.length xc, .int .u32 x.A, .int .u32 x.N, .int .i64 x.cK, .int .u64 x.cE, .int .i64 x.cC, .slice xb x.cP.length xd, .int .i64 x.U, .string x.B]
 have cA := awakeT_c _ (hg.on hb1)
 unfold opv
 obtain ⟨W, hW⟩ : ∃ W, w.alloc (.cells #[.int .i64 x.K, .int .u64 x.E, .int .i64 x.C, .slice xa x.P.length xc, .int .u32 x.A, .int .u32 x.N, .int .i64 x.cK, .int .u64 x.cE, .int .i64 x.cC, .slice xb x.cP.length xd, .int .i64 x.U, .string x.B] 32) = W := ⟨_, rfl⟩
 rw [hW] at hb1 hbox cA
 have hgr := @great_small x hok hB
 replace hb1 := Hd hb1
 replace hbox := Hd hbox
 replace cA := Hd cA
 replace hgr := Hd hgr
 replace hop := Hd hop
 replace hg := Hd hg
 replace hok := Hd hok
 have hb1s := hb1.out.size
 go_enter Tryz.func3, Tryz.ntmps3
 go_wp2_with fail
 (try rw [hW])
 replace hW := Hd hW
 refine cA.out.mono ?_
 rintro e w1 ⟨rfl, hb2⟩
 have hbA := Hd (below_up hb1.out hb1s hb2)
 have hbX := Hd (isC_of hb2 hbox.out)
 have hbAs := hbA.out.size
 clear hb1 hbox cA hb2 hb1s
 have cG := great_c x _ _ w1 (hop.out.below hbA.out)
 unfold opv at cG
 replace cG := Hd cG
 obtain ⟨i0, i1, i2, i3, i4, i5, i6, i7, i8, i9, i10, i11⟩ := cells12 hbX.out
 go_wp2_with fail
 refine cG.out.mono ?_
 rintro e w2 ⟨rfl, hb2⟩
 have hbB := Hd (below_up hbA.out hbAs hb2)
 replace hbX := Hd (isC_of hb2 hbX.out)
 have hbBs := hbB.out.size
 clear cG hb2 hbAs i0 i1 i2 i3 i4 i5 i6 i7 i8 i9 i10 i11
 cases hgx : greatF x with
 | true =>
   go_wp2_with fail
   go_ret
   exact ⟨rfl, hbB.out⟩
 | false =>
   obtain ⟨hsx, hx1, hx2, hx3, hx4⟩ := hgr.out hgx
   clear hgr hgx
   by_cases hl : 4096 < ln.size
   ·have pl : decide ((4096 : Int) < (ln.size : Int)) = true := decide_eq_true (by omega)
    have pI : (4096 : Int) < (ln.size : Int) := by omega
    go_wp2_with fail
    go_ret
    exact ⟨rfl, hbB.out⟩
   ·have pl : decide ((4096 : Int) < (ln.size : Int)) = false := decide_eq_false (by omega)
    have pI : ¬ (4096 : Int) < (ln.size : Int) := by omega
    have cF := formL_c x _ _ w2 (hop.out.below hbB.out)
    unfold opv at cF
    replace cF := Hd cF
    obtain ⟨i0, i1, i2, i3, i4, i5, i6, i7, i8, i9, i10, i11⟩ := cells12 hbX.out
    go_wp2_with fail
    refine cF.out.mono ?_
    rintro e w3 ⟨rfl, hb2⟩
    have hbC0 := below_up hbB.out hbBs hb2
    have hbC := Hd (hbC0.alloc hbC0.size (.cells #[.int .i64 x.K, .int .u64 x.E, .int .i64 x.C, .slice xa x.P.length xc, .int .u32 x.A, .int .u32 x.N, .int .i64 x.cK, .int .u64 x.cE, .int .i64 x.cC, .slice xb x.cP.length xd, .int .i64 x.U, .string x.B] 38))
    have hbU := Hd (IsC.new w3 38 #[.int .i64 x.K, .int .u64 x.E, .int .i64 x.C, .slice xa x.P.length xc, .int .u32 x.A, .int .u32 x.N, .int .i64 x.cK, .int .u64 x.cE, .int .i64 x.cC, .slice xb x.cP.length xd, .int .i64 x.U, .string x.B])
    replace hbX := Hd ((isC_of hb2 hbX.out).alloc (.cells #[.int .i64 x.K, .int .u64 x.E, .int .i64 x.C, .slice xa x.P.length xc, .int .u32 x.A, .int .u32 x.N, .int .i64 x.cK, .int .u64 x.cE, .int .i64 x.cC, .slice xb x.cP.length xd, .int .i64 x.U, .string x.B] 38))
    clear cF hb2 hbC0 i0 i1 i2 i3 i4 i5 i6 i7 i8 i9 i10 i11 hbA hbB hbBs
    obtain ⟨W3, hW3⟩ : ∃ W3, w3.alloc (.cells #[.int .i64 x.K, .int .u64 x.E, .int .i64 x.C, .slice xa x.P.length xc, .int .u32 x.A, .int .u32 x.N, .int .i64 x.cK, .int .u64 x.cE, .int .i64 x.cC, .slice xb x.cP.length xd, .int .i64 x.U, .string x.B] 38) = W3 := ⟨_, rfl⟩
    rw [hW3] at hbC hbU hbX
    have hopW := hop.out.below hbC.out
    have hgW := hg.out.on hbC.out
    have cIx := fun w' (h : Below W3.heap.size W3 w') => isOp_c x hsx _ _ w' (hopW.below h)
    have cIy := fun w' (h : Below W3.heap.size W3 w') => ris_c x hsx _ _ w' (hopW.below h)
    have cLx := fun w' (h : Below W3.heap.size W3 w') => line_c x hsx _ _ w' (hopW.below h) (hgW.on h)
    have cLy := fun w' (h : Below W3.heap.size W3 w') => rline_c x hsx _ _ w' (hopW.below h)
    unfold opv at cIx cIy cLx cLy
    generalize isOpF x = bI at *
    generalize text (lineF x) = TX at *
    obtain ⟨i0, i1, i2, i3, i4, i5, i6, i7, i8, i9, i10, i11⟩ := cells12 hbX.out
    obtain ⟨k0, k1, k2, k3, k4, k5, k6, k7, k8, k9, k10, k11⟩ := cells12 hbU.out
    have hbR := Hd (Below.refl W3.heap.size W3)
    have hbRs := hbR.out.size
    replace cIx := Hd cIx
    replace cIy := Hd cIy
    replace cLx := Hd cLx
    replace cLy := Hd cLy
    replace hW3 := Hd hW3
    clear hopW hgW hsx hx1 hx2 hx3 hx4
    have hbCs := hbC.out.size
    go_upto_region 6 with fail
    rw [hW3.out]
    go_cut [36] (fun s36 wx => s36 = .bool false ∧ Below w.heap.size w wx)
    case first =>
     go_region_held3 (fun w1 => w1.cell? ⟨w.heap.size, 0, none⟩ = some (.int .i64 x.K) ∧ w1.cell? ⟨w.heap.size, 1, none⟩ = some (.int .u64 x.E) ∧ w1.cell? ⟨w.heap.size, 2, none⟩ = some (.int .i64 x.C) ∧ w1.cell? ⟨w.heap.size, 3, none⟩ = some (.slice xa x.P.length xc) ∧ w1.cell? ⟨w.heap.size, 4, none⟩ = some (.int .u32 x.A) ∧ w1.cell? ⟨w.heap.size, 5, none⟩ = some (.int .u32 x.N) ∧ w1.cell? ⟨w.heap.size, 6, none⟩ = some (.int .i64 x.cK) ∧ w1.cell? ⟨w.heap.size, 7, none⟩ = some (.int .u64 x.cE) ∧ w1.cell? ⟨w.heap.size, 8, none⟩ = some (.int .i64 x.cC) ∧ w1.cell? ⟨w.heap.size, 9, none⟩ = some (.slice xb x.cP.length xd) ∧ w1.cell? ⟨w.heap.size, 10, none⟩ = some (.int .i64 x.U) ∧ w1.cell? ⟨w.heap.size, 11, none⟩ = some (.string x.B) ∧ w1.cell? ⟨w3.heap.size, 0, none⟩ = some (.int .i64 x.K) ∧ w1.cell? ⟨w3.heap.size, 1, none⟩ = some (.int .u64 x.E) ∧ w1.cell? ⟨w3.heap.size, 2, none⟩ = some (.int .i64 x.C) ∧ w1.cell? ⟨w3.heap.size, 3, none⟩ = some (.slice xa x.P.length xc) ∧ w1.cell? ⟨w3.heap.size, 4, none⟩ = some (.int .u32 x.A) ∧ w1.cell? ⟨w3.heap.size, 5, none⟩ = some (.int .u32 x.N) ∧ w1.cell? ⟨w3.heap.size, 6, none⟩ = some (.int .i64 x.cK) ∧ w1.cell? ⟨w3.heap.size, 7, none⟩ = some (.int .u64 x.cE) ∧ w1.cell? ⟨w3.heap.size, 8, none⟩ = some (.int .i64 x.cC) ∧ w1.cell? ⟨w3.heap.size, 9, none⟩ = some (.slice xb x.cP.length xd) ∧ w1.cell? ⟨w3.heap.size, 10, none⟩ = some (.int .i64 x.U) ∧ w1.cell? ⟨w3.heap.size, 11, none⟩ = some (.string x.B)) (go_keep)
      (first
        |(go_at_call 9
          refine Calls.mono (cIx.out _ (by first | exact hbR.out | exact below_drewed hbR.out | exact below_drewN hbR.out)) ?_
          rintro e w5 ⟨rfl, hb9⟩
          replace hbR := Hd (below_up hbR.out hbRs (by first | exact hb9 | exact below_dd hb9))
          clear hb9 hbRs i0 i1 i2 i3 i4 i5 i6 i7 i8 i9 i10 i11 k0 k1 k2 k3 k4 k5 k6 k7 k8 k9 k10 k11
          have hbRs := hbR.out.size
          obtain ⟨i0, i1, i2, i3, i4, i5, i6, i7, i8, i9, i10, i11⟩ := cells12 (isC_of hbR.out hbX.out)
          obtain ⟨k0, k1, k2, k3, k4, k5, k6, k7, k8, k9, k10, k11⟩ := cells12 (isC_of hbR.out hbU.out))
        |(go_at_call 10
          refine Calls.mono (cIy.out _ (by first | exact hbR.out | exact below_drewed hbR.out | exact below_drewN hbR.out)) ?_
          rintro e w5 ⟨rfl, hb9⟩
          replace hbR := Hd (below_up hbR.out hbRs (by first | exact hb9 | exact below_dd hb9))
          clear hb9 hbRs i0 i1 i2 i3 i4 i5 i6 i7 i8 i9 i10 i11 k0 k1 k2 k3 k4 k5 k6 k7 k8 k9 k10 k11
          have hbRs := hbR.out.size
          obtain ⟨i0, i1, i2, i3, i4, i5, i6, i7, i8, i9, i10, i11⟩ := cells12 (isC_of hbR.out hbX.out)
          obtain ⟨k0, k1, k2, k3, k4, k5, k6, k7, k8, k9, k10, k11⟩ := cells12 (isC_of hbR.out hbU.out))
        |(go_at_call 11
          refine Calls.mono (cLx.out _ (by first | exact hbR.out | exact below_drewed hbR.out | exact below_drewN hbR.out)) ?_
          rintro e w5 ⟨rfl, hb9⟩
          replace hbR := Hd (below_up hbR.out hbRs (by first | exact hb9 | exact below_dd hb9))
          clear hb9 hbRs i0 i1 i2 i3 i4 i5 i6 i7 i8 i9 i10 i11 k0 k1 k2 k3 k4 k5 k6 k7 k8 k9 k10 k11
          have hbRs := hbR.out.size
          obtain ⟨i0, i1, i2, i3, i4, i5, i6, i7, i8, i9, i10, i11⟩ := cells12 (isC_of hbR.out hbX.out)
          obtain ⟨k0, k1, k2, k3, k4, k5, k6, k7, k8, k9, k10, k11⟩ := cells12 (isC_of hbR.out hbU.out))
        |(go_at_call 12
          refine Calls.mono (cLy.out _ (by first | exact hbR.out | exact below_drewed hbR.out | exact below_drewN hbR.out)) ?_
          rintro e w5 ⟨rfl, hb9⟩
          replace hbR := Hd (below_up hbR.out hbRs (by first | exact hb9 | exact below_dd hb9))
          clear hb9 hbRs i0 i1 i2 i3 i4 i5 i6 i7 i8 i9 i10 i11 k0 k1 k2 k3 k4 k5 k6 k7 k8 k9 k10 k11
          have hbRs := hbR.out.size
          obtain ⟨i0, i1, i2, i3, i4, i5, i6, i7, i8, i9, i10, i11⟩ := cells12 (isC_of hbR.out hbX.out)
          obtain ⟨k0, k1, k2, k3, k4, k5, k6, k7, k8, k9, k10, k11⟩ := cells12 (isC_of hbR.out hbU.out)))
     all_goals
      have hfin := Hd (below_up hbC.out hbCs hbR.out)
      clear i0 i1 i2 i3 i4 i5 i6 i7 i8 i9 i10 i11 k0 k1 k2 k3 k4 k5 k6 k7 k8 k9 k10 k11 hbR hbRs
      go_wp2_with fail
      go_meet
      exact ⟨rfl, hfin.out⟩
    case rest =>
     obtain ⟨rfl, hbD⟩ := hcut
     replace hbD := Hd hbD
     clear hbC hbX hbU cIx cIy cLx cLy i0 i1 i2 i3 i4 i5 i6 i7 i8 i9 i10 i11 k0 k1 k2 k3 k4 k5 k6 k7 k8 k9 k10 k11 hbR hbRs hbCs
     have cP := parseO_c ln (by omega) wc (hg.out.on hbD.out)
     have cR := fun w' => rparse_c ln (by omega) w'
     rw [parses (byts ln) (by rw [byts_length]; omega)] at cR
     have hsm := parse_small (byts ln) (by rw [byts_length]; omega)
     have her := parse_err (byts ln)
     obtain ⟨Q, hQ⟩ : ∃ Q, parseOF (byts ln) = Q := ⟨_, rfl⟩
     rw [hQ] at cP cR hsm her
     clear hQ
     obtain ⟨y, er⟩ := Q
     dsimp only at *
     obtain ⟨bi, hbi⟩ : ∃ b, decide (er = 0) = b := ⟨_, rfl⟩
     rw [hbi] at cR
     unfold opv at cP cR
     replace cP := Hd cP
     replace cR := Hd cR
     replace hbi := Hd hbi
     replace her := Hd her
     have hbDs := hbD.out.size
     go_wp2_with fail
     refine cP.out.mono ?_
     rintro e w4 ⟨⟨ya, yc, yb, yd, rfl, hQ1, hQ2⟩, hb2⟩
     have hn := below1 w4 (.cells #[.int .i64 y.K, .int .u64 y.E, .int .i64 y.C, .slice ya y.P.length yc, .int .u32 y.A, .int .u32 y.N, .int .i64 y.cK, .int .u64 y.cE, .int .i64 y.cC, .slice yb y.cP.length yd, .int .i64 y.U, .string y.B] 32)
     have hoy := Hd (show OpIn _ y _ _ from ⟨(OwnQ.in hQ1).below hn, (OwnQ.in hQ2).below hn⟩)
     have hbE0 := below_up hbD.out hbDs hb2
     have hbE := Hd (hbE0.alloc hbE0.size (.cells #[.int .i64 y.K, .int .u64 y.E, .int .i64 y.C, .slice ya y.P.length yc, .int .u32 y.A, .int .u32 y.N, .int .i64 y.cK, .int .u64 y.cE, .int .i64 y.cC, .slice yb y.cP.length yd, .int .i64 y.U, .string y.B] 32))
     have hbX := Hd (IsC.new w4 32 #[.int .i64 y.K, .int .u64 y.E, .int .i64 y.C, .slice ya y.P.length yc, .int .u32 y.A, .int .u32 y.N, .int .i64 y.cK, .int .u64 y.cE, .int .i64 y.cC, .slice yb y.cP.length yd, .int .i64 y.U, .string y.B])
     obtain ⟨W4, hW4⟩ : ∃ W4, w4.alloc (.cells #[.int .i64 y.K, .int .u64 y.E, .int .i64 y.C, .slice ya y.P.length yc, .int .u32 y.A, .int .u32 y.N, .int .i64 y.cK, .int .u64 y.cE, .int .i64 y.cC, .slice yb y.cP.length yd, .int .i64 y.U, .string y.B] 32) = W4 := ⟨_, rfl⟩
     rw [hW4] at hbE hbX hoy
     replace hW4 := Hd hW4
     have hbEs := hbE.out.size
     clear cP hb2 hn hbE0 hbD hbDs hQ1 hQ2
     go_upto_region 9 with fail
     rw [hW4.out]
     go_wp2_with fail
     refine (cR.out _).mono ?_
     rintro e w5 ⟨⟨za, zc, zb, zd, rfl, hQ1, hQ2⟩, hb2⟩
     have hn := below1 w5 (.cells #[.int .i64 y.K, .int .u64 y.E, .int .i64 y.C, .slice za y.P.length zc, .int .u32 y.A, .int .u32 y.N, .int .i64 y.cK, .int .u64 y.cE, .int .i64 y.cC, .slice zb y.cP.length zd, .int .i64 y.U, .string y.B] 38)
     have hoz := Hd (show OpIn _ y _ _ from ⟨(OwnQ.in hQ1).below hn, (OwnQ.in hQ2).below hn⟩)
     replace hoy := Hd ((hoy.out.below hb2).below hn)
     have hbF0 := below_up hbE.out hbEs hb2
     have hbF := Hd (hbF0.alloc hbF0.size (.cells #[.int .i64 y.K, .int .u64 y.E, .int .i64 y.C, .slice za y.P.length zc, .int .u32 y.A, .int .u32 y.N, .int .i64 y.cK, .int .u64 y.cE, .int .i64 y.cC, .slice zb y.cP.length zd, .int .i64 y.U, .string y.B] 38))
     replace hbX := Hd ((isC_of hb2 hbX.out).alloc (.cells #[.int .i64 y.K, .int .u64 y.E, .int .i64 y.C, .slice za y.P.length zc, .int .u32 y.A, .int .u32 y.N, .int .i64 y.cK, .int .u64 y.cE, .int .i64 y.cC, .slice zb y.cP.length zd, .int .i64 y.U, .string y.B] 38))
     have hbU := Hd (IsC.new w5 38 #[.int .i64 y.K, .int .u64 y.E, .int .i64 y.C, .slice za y.P.length zc, .int .u32 y.A, .int .u32 y.N, .int .i64 y.cK, .int .u64 y.cE, .int .i64 y.cC, .slice zb y.cP.length zd, .int .i64 y.U, .string y.B])
     obtain ⟨W5, hW5⟩ : ∃ W5, w5.alloc (.cells #[.int .i64 y.K, .int .u64 y.E, .int .i64 y.C, .slice za y.P.length zc, .int .u32 y.A, .int .u32 y.N, .int .i64 y.cK, .int .u64 y.cE, .int .i64 y.cC, .slice zb y.cP.length zd, .int .i64 y.U, .string y.B] 38) = W5 := ⟨_, rfl⟩
     rw [hW5] at hbF hbX hbU hoy hoz
     replace hW5 := Hd hW5
     have hbFs := hbF.out.size
     clear cR hb2 hn hbF0 hbE hbEs hQ1 hQ2
     have cF := fun w' (h : Below W5.heap.size W5 w') => formL_c y _ _ w' (hoy.out.below h)
     have cS := fun w' (h : Below W5.heap.size W5 w') => sameL_c y y hsm.P.1 hsm.cP.1 (fun p hp => (hsm.P.2 p hp).2) (fun p hp => (hsm.cP.2 p hp).2) _ _ _ _ w' (hoy.out.below h) (hoz.out.below h)
     rw [(sameD_iff y y).2 rfl] at cS
     unfold opv at cF cS
     replace cF := Hd cF
     replace cS := Hd cS
     clear hoy hoz hsm
     obtain ⟨i0, i1, i2, i3, i4, i5, i6, i7, i8, i9, i10, i11⟩ := cells12 hbX.out
     obtain ⟨k0, k1, k2, k3, k4, k5, k6, k7, k8, k9, k10, k11⟩ := cells12 hbU.out
     have hbR := Hd (Below.refl W5.heap.size W5)
     have hbRs := hbR.out.size
     go_upto_region 10 with fail
     rw [hW5.out]
     go_cut [65] (fun s65 wx => s65 = .bool false ∧ Below w.heap.size w wx)
     case first =>
      rcases her.out with rfl | rfl
      ·obtain rfl : true = bi := hbi.out
       refine wp_region_held_at (S := fun w1 => w1.cell? ⟨w4.heap.size, 0, none⟩ = some (.int .i64 y.K) ∧ w1.cell? ⟨w4.heap.size, 1, none⟩ = some (.int .u64 y.E) ∧ w1.cell? ⟨w4.heap.size, 2, none⟩ = some (.int .i64 y.C) ∧ w1.cell? ⟨w4.heap.size, 3, none⟩ = some (.slice ya y.P.length yc) ∧ w1.cell? ⟨w4.heap.size, 4, none⟩ = some (.int .u32 y.A) ∧ w1.cell? ⟨w4.heap.size, 5, none⟩ = some (.int .u32 y.N) ∧ w1.cell? ⟨w4.heap.size, 6, none⟩ = some (.int .i64 y.cK) ∧ w1.cell? ⟨w4.heap.size, 7, none⟩ = some (.int .u64 y.cE) ∧ w1.cell? ⟨w4.heap.size, 8, none⟩ = some (.int .i64 y.cC) ∧ w1.cell? ⟨w4.heap.size, 9, none⟩ = some (.slice yb y.cP.length yd) ∧ w1.cell? ⟨w4.heap.size, 10, none⟩ = some (.int .i64 y.U) ∧ w1.cell? ⟨w4.heap.size, 11, none⟩ = some (.string y.B) ∧ w1.cell? ⟨w5.heap.size, 0, none⟩ = some (.int .i64 y.K) ∧ w1.cell? ⟨w5.heap.size, 1, none⟩ = some (.int .u64 y.E) ∧ w1.cell? ⟨w5.heap.size, 2, none⟩ = some (.int .i64 y.C) ∧ w1.cell? ⟨w5.heap.size, 3, none⟩ = some (.slice za y.P.length zc) ∧ w1.cell? ⟨w5.heap.size, 4, none⟩ = some (.int .u32 y.A) ∧ w1.cell? ⟨w5.heap.size, 5, none⟩ = some (.int .u32 y.N) ∧ w1.cell? ⟨w5.heap.size, 6, none⟩ = some (.int .i64 y.cK) ∧ w1.cell? ⟨w5.heap.size, 7, none⟩ = some (.int .u64 y.cE) ∧ w1.cell? ⟨w5.heap.size, 8, none⟩ = some (.int .i64 y.cC) ∧ w1.cell? ⟨w5.heap.size, 9, none⟩ = some (.slice zb y.cP.length zd) ∧ w1.cell? ⟨w5.heap.size, 10, none⟩ = some (.int .i64 y.U) ∧ w1.cell? ⟨w5.heap.size, 11, none⟩ = some (.string y.B)) 19 rfl (by kernel_rfl) (by go_keep) (fun hH => ?_)
       refine wpU 0 ?_ rfl ?_ ?_
       rotate_left
       ·intro u h; (try simp only [ls3]); go_simp; try with_reducible rfl
       try simp only [ls7, Act.put]
       refine wpU 1 ?_ rfl ?_ ?_
       rotate_left
       ·intro u h; (try simp only [ls3]); go_simp; try with_reducible rfl
       try simp only [ls7, Act.put]
       refine wpU 2 ?_ rfl ?_ ?_
       rotate_left
       ·intro u h; (try simp only [ls3]); go_simp; try with_reducible rfl
       try simp only [ls7, Act.put]
       refine wpU 3 ?_ rfl ?_ ?_
       rotate_left
       ·intro u h; (try simp only [ls3]); go_simp; try with_reducible rfl
       try simp only [ls7, Act.put]
       refine wpU 4 ?_ rfl ?_ ?_
       rotate_left
       ·intro u h; (try simp only [ls3]); go_simp; try with_reducible rfl
       try simp only [ls7, Act.put]
       refine wpU 5 ?_ rfl ?_ ?_
       rotate_left
       ·intro u h; (try simp only [ls3]); go_simp; try with_reducible rfl
       try simp only [ls7, Act.put]
       refine wpU 6 ?_ rfl ?_ ?_
       rotate_left
       ·intro u h; (try simp only [ls3]); go_simp; try with_reducible rfl
       try simp only [ls7, Act.put]
       refine wpU 7 ?_ rfl ?_ ?_
       rotate_left
       ·intro u h; (try simp only [ls3]); go_simp; try with_reducible rfl
       try simp only [ls7, Act.put]
       refine wpAnyH_take (i := 8) (v := undef) rfl (by decide +kernel) (by decide +kernel) (by decide +kernel) (fun _ _ _ h => h) (Or.inr ⟨by rfl, rfl⟩) (by assumption) ?_
       try simp only [ls7, Act.put]
       refine wpAnyH_take (i := 9) (v := undef) rfl (by decide +kernel) (by decide +kernel) (by decide +kernel) (fun _ _ _ h => h) (Or.inr ⟨by rfl, rfl⟩) (by assumption) ?_
       try simp only [ls7, Act.put]
       refine wpU 10 ?_ rfl ?_ ?_
       rotate_left
       ·intro u h; (try simp only [ls3]); go_simp; try with_reducible rfl
       try simp only [ls7, Act.put]
       refine wpU 11 ?_ rfl ?_ ?_
       rotate_left
       ·intro u h; (try simp only [ls3]); go_simp; try with_reducible rfl
       try simp only [ls7, Act.put]
       refine wpU 12 ?_ rfl ?_ ?_
       rotate_left
       ·intro u h; (try simp only [ls3]); go_simp; try with_reducible rfl
       try simp only [ls7, Act.put]
       refine wpU 13 ?_ rfl ?_ ?_
       rotate_left
       ·intro u h; (try simp only [ls3]); go_simp; try with_reducible rfl
       try simp only [ls7, Act.put]
       refine wpU 15 ?_ rfl ?_ ?_
       rotate_left
       ·intro u h; (try simp only [ls3]); go_simp; try with_reducible rfl
       try simp only [ls7, Act.put]
       refine wpAnyH_ready (rs := [14]) (by decide +kernel) (by simp) ?_
       refine AllReadyH.cons rfl (fun K hK => ?_) AllReadyH.nil
       (try simp only [ls3])
       go_simp
       refine Calls.mono (cF.out _ (by first | exact hbR.out | exact below_drewed hbR.out | exact below_drewN hbR.out)) ?_
       rintro e w5 ⟨rfl, hb9⟩
       replace hbR := Hd (below_up hbR.out hbRs (by first | exact hb9 | exact below_dd hb9 | exact below_d hb9))
       clear hb9 hbRs i0 i1 i2 i3 i4 i5 i6 i7 i8 i9 i10 i11 k0 k1 k2 k3 k4 k5 k6 k7 k8 k9 k10 k11
       have hbRs := hbR.out.size
       obtain ⟨i0, i1, i2, i3, i4, i5, i6, i7, i8, i9, i10, i11⟩ := cells12 (isC_of hbR.out hbX.out)
       obtain ⟨k0, k1, k2, k3, k4, k5, k6, k7, k8, k9, k10, k11⟩ := cells12 (isC_of hbR.out hbU.out)
       (try go_simp)
       refine hK.out _ _ (by go_keep) (fun hH => ?_)
       clear hK K
       try simp only [ls7, Act.put]
       refine wpAnyH_ready (rs := [16]) (by decide +kernel) (by simp) ?_
       refine AllReadyH.cons rfl (fun K hK => ?_) AllReadyH.nil
       (try simp only [ls3])
       go_simp
       refine Calls.mono (cS.out _ (by first | exact hbR.out | exact below_drewed hbR.out | exact below_drewN hbR.out)) ?_
       rintro e w5 ⟨rfl, hb9⟩
       replace hbR := Hd (below_up hbR.out hbRs (by first | exact hb9 | exact below_dd hb9 | exact below_d hb9))
       clear hb9 hbRs i0 i1 i2 i3 i4 i5 i6 i7 i8 i9 i10 i11 k0 k1 k2 k3 k4 k5 k6 k7 k8 k9 k10 k11
       have hbRs := hbR.out.size
       obtain ⟨i0, i1, i2, i3, i4, i5, i6, i7, i8, i9, i10, i11⟩ := cells12 (isC_of hbR.out hbX.out)
       obtain ⟨k0, k1, k2, k3, k4, k5, k6, k7, k8, k9, k10, k11⟩ := cells12 (isC_of hbR.out hbU.out)
       (try go_simp)
       refine hK.out _ _ (by go_keep) (fun hH => ?_)
       clear hK K
       try simp only [ls7, Act.put]
       refine wpU 17 ?_ rfl ?_ ?_
       rotate_left
       ·intro u h; (try simp only [ls3]); go_simp; try with_reducible rfl
       try simp only [ls7, Act.put]
       refine wpU 18 ?_ rfl ?_ ?_
       rotate_left
       ·intro u h; (try simp only [ls3]); go_simp; try with_reducible rfl
       try simp only [ls7, Act.put]
       refine wpAnyH_done (by decide +kernel) ?_ _
       have hfin := Hd (below_up hbF.out hbFs hbR.out)
       clear i0 i1 i2 i3 i4 i5 i6 i7 i8 i9 i10 i11 k0 k1 k2 k3 k4 k5 k6 k7 k8 k9 k10 k11 hbR hbRs
       go_wp2_with fail
       go_meet
       exact ⟨rfl, hfin.out⟩
      ·obtain rfl : false = bi := hbi.out
       have g1 : (!false) = true := rfl
       have g2 : (false != ((4 : Int) == 0)) = false := rfl
       have g3 : ((4 : Int) != 4) = false := rfl
       go_region_held3 (fun w1 => w1.cell? ⟨w4.heap.size, 0, none⟩ = some (.int .i64 y.K) ∧ w1.cell? ⟨w4.heap.size, 1, none⟩ = some (.int .u64 y.E) ∧ w1.cell? ⟨w4.heap.size, 2, none⟩ = some (.int .i64 y.C) ∧ w1.cell? ⟨w4.heap.size, 3, none⟩ = some (.slice ya y.P.length yc) ∧ w1.cell? ⟨w4.heap.size, 4, none⟩ = some (.int .u32 y.A) ∧ w1.cell? ⟨w4.heap.size, 5, none⟩ = some (.int .u32 y.N) ∧ w1.cell? ⟨w4.heap.size, 6, none⟩ = some (.int .i64 y.cK) ∧ w1.cell? ⟨w4.heap.size, 7, none⟩ = some (.int .u64 y.cE) ∧ w1.cell? ⟨w4.heap.size, 8, none⟩ = some (.int .i64 y.cC) ∧ w1.cell? ⟨w4.heap.size, 9, none⟩ = some (.slice yb y.cP.length yd) ∧ w1.cell? ⟨w4.heap.size, 10, none⟩ = some (.int .i64 y.U) ∧ w1.cell? ⟨w4.heap.size, 11, none⟩ = some (.string y.B) ∧ w1.cell? ⟨w5.heap.size, 0, none⟩ = some (.int .i64 y.K) ∧ w1.cell? ⟨w5.heap.size, 1, none⟩ = some (.int .u64 y.E) ∧ w1.cell? ⟨w5.heap.size, 2, none⟩ = some (.int .i64 y.C) ∧ w1.cell? ⟨w5.heap.size, 3, none⟩ = some (.slice za y.P.length zc) ∧ w1.cell? ⟨w5.heap.size, 4, none⟩ = some (.int .u32 y.A) ∧ w1.cell? ⟨w5.heap.size, 5, none⟩ = some (.int .u32 y.N) ∧ w1.cell? ⟨w5.heap.size, 6, none⟩ = some (.int .i64 y.cK) ∧ w1.cell? ⟨w5.heap.size, 7, none⟩ = some (.int .u64 y.cE) ∧ w1.cell? ⟨w5.heap.size, 8, none⟩ = some (.int .i64 y.cC) ∧ w1.cell? ⟨w5.heap.size, 9, none⟩ = some (.slice zb y.cP.length zd) ∧ w1.cell? ⟨w5.heap.size, 10, none⟩ = some (.int .i64 y.U) ∧ w1.cell? ⟨w5.heap.size, 11, none⟩ = some (.string y.B)) (go_keep)
        (first
          |(go_at_call 8
            refine Calls.mono (cF.out _ (by first | exact hbR.out | exact below_drewed hbR.out | exact below_drewN hbR.out)) ?_
            rintro e w5 ⟨rfl, hb9⟩
            replace hbR := Hd (below_up hbR.out hbRs (by first | exact hb9 | exact below_dd hb9))
            clear hb9 hbRs i0 i1 i2 i3 i4 i5 i6 i7 i8 i9 i10 i11 k0 k1 k2 k3 k4 k5 k6 k7 k8 k9 k10 k11
            have hbRs := hbR.out.size
            obtain ⟨i0, i1, i2, i3, i4, i5, i6, i7, i8, i9, i10, i11⟩ := cells12 (isC_of hbR.out hbX.out)
            obtain ⟨k0, k1, k2, k3, k4, k5, k6, k7, k8, k9, k10, k11⟩ := cells12 (isC_of hbR.out hbU.out))
          |(go_at_call 15
            refine Calls.mono (cS.out _ (by first | exact hbR.out | exact below_drewed hbR.out | exact below_drewN hbR.out)) ?_
            rintro e w5 ⟨rfl, hb9⟩
            replace hbR := Hd (below_up hbR.out hbRs (by first | exact hb9 | exact below_dd hb9))
            clear hb9 hbRs i0 i1 i2 i3 i4 i5 i6 i7 i8 i9 i10 i11 k0 k1 k2 k3 k4 k5 k6 k7 k8 k9 k10 k11
            have hbRs := hbR.out.size
            obtain ⟨i0, i1, i2, i3, i4, i5, i6, i7, i8, i9, i10, i11⟩ := cells12 (isC_of hbR.out hbX.out)
            obtain ⟨k0, k1, k2, k3, k4, k5, k6, k7, k8, k9, k10, k11⟩ := cells12 (isC_of hbR.out hbU.out)))
       all_goals
        have hfin := Hd (below_up hbF.out hbFs hbR.out)
        clear i0 i1 i2 i3 i4 i5 i6 i7 i8 i9 i10 i11 k0 k1 k2 k3 k4 k5 k6 k7 k8 k9 k10 k11 hbR hbRs
        go_wp2_with fail
        go_meet
        exact ⟨rfl, hfin.out⟩
     case rest =>
      obtain ⟨rfl, hbG⟩ := hcut
      replace hbG := Hd hbG
      have hbGs := hbG.out.size
      have cB := bytes_c ln (by omega) wc
      have cC := fun w' => refBytes_c ln (by omega) w'
      have cH := fun w' => hex_c ln (by omega) w'
      have cJ := fun w' => refHex_c ln (by omega) w'
      have hbe := bytes_err (byts ln)
      generalize bytesF (byts ln) = Q at *
      obtain ⟨tb, be⟩ := Q
      dsimp only at *
      generalize text tb = TB at *
      generalize text (hexF (byts ln)) = TH at *
      obtain ⟨bj, hbj⟩ : ∃ b, decide (be = 0) = b := ⟨_, rfl⟩
      rw [hbj] at cC
      replace cB := Hd cB
      replace cC := Hd cC
      replace cH := Hd cH
      replace cJ := Hd cJ
      replace hbj := Hd hbj
      replace hbe := Hd hbe
      clear i0 i1 i2 i3 i4 i5 i6 i7 i8 i9 i10 i11 k0 k1 k2 k3 k4 k5 k6 k7 k8 k9 k10 k11 hbF hbX hbU cF cS hbR hbRs hbFs her hbi
      go_wp2_with fail
      refine cB.out.mono ?_
      rintro e w6 ⟨rfl, hb2⟩
      have hbH := Hd (below_up hbG.out hbGs hb2)
      have hbHs := hbH.out.size
      clear cB hb2 hbG hbGs
      go_wp2_with fail
      refine (cC.out _).mono ?_
      rintro e w7 ⟨rfl, hb2⟩
      have hbI := Hd (below_up hbH.out hbHs hb2)
      have hbIs := hbI.out.size
      clear cC hb2 hbH hbHs
      go_wp2_with fail
      refine (cH.out _).mono ?_
      rintro e w8 ⟨rfl, hb2⟩
      have hbJ := Hd (below_up hbI.out hbIs hb2)
      have hbJs := hbJ.out.size
      clear cH hb2 hbI hbIs
      go_wp2_with fail
      refine (cJ.out _).mono ?_
      rintro e w9 ⟨rfl, hb2⟩
      have hbK := Hd (below_up hbJ.out hbJs hb2)
      clear cJ hb2 hbJ hbJs
      rcases hbe.out with rfl | rfl
      ·obtain rfl : true = bj := hbj.out
       go_wp2_with fail
       go_ret
       exact ⟨rfl, hbK.out⟩
      ·obtain rfl : false = bj := hbj.out
       go_wp2_with fail
       go_ret
       exact ⟨rfl, hbK.out⟩
end Go.Proofs.YtjjgbillihedgaaGreatDoor
