/- parts of the proof, merged: TlB2 -/
import Derived.Test.YtjjgbillihedgaaGreatDoorQb24
set_option linter.unusedSimpArgs false
set_option linter.unusedVariables false
set_option maxHeartbeats 64000000
set_option maxRecDepth 100000
namespace Go.Proofs.YtjjgbillihedgaaGreatDoor
open Go.RowKit
open Rf
open Sg
open Wide
open Tl
theorem taleBackB (os : List OpD) (hos0 : ∀ o ∈ os, o.Ok ∧ o.B.size ≤ maxLen) (v : Value) (ln : ByteArray) (w : World) (hinA : InOps w v os) (hg : GlobT w) (hcase : (parseOF (byts ln)).2 = 0 ∧ isOpF (parseOF (byts ln)).1 = true ∧ lineF (parseOF (byts ln)).1 = byts ln ∧ (ln.size ≤ 4096 → OpSmall (parseOF (byts ln)).1)) :
 Calls Tryz.prog 5 #[v, .string ln] w fun e w' => e = .returned (.bool true) ∧ Below w.heap.size w w' := by
 obtain ⟨n, hn0⟩ : ∃ n, os.length = n := ⟨_, rfl⟩
 obtain ⟨a0, c0, rfl, _⟩ := id hinA
 rw [hn0] at hinA ⊢
 have hn := Hd hn0
 have hin0 := Hd hinA
 have hos := Hd hos0
 have cA := Hd (awakeT_c w hg)
 clear hn0 hinA hos0
 go_enter Tryz.func5, Tryz.ntmps5
 go_wp2_with fail
 refine cA.out.mono ?_
 rintro e w1 ⟨rfl, hb1⟩
 clear cA
 by_cases g1 : 40 < n
 ·have g1I : (40 : Int) < (n : Int) := by omega
  replace hb1 := Hd hb1
  go_wp2_with fail
  go_ret
  exact ⟨rfl, hb1.out⟩
 have g1I : ¬ (40 : Int) < (n : Int) := by omega
 by_cases g2 : 4096 < ln.size
 ·have g2I : (4096 : Int) < (ln.size : Int) := by omega
  replace hb1 := Hd hb1
  go_wp2_with fail
  go_ret
  exact ⟨rfl, hb1.out⟩
 have g2I : ¬ (4096 : Int) < (ln.size : Int) := by omega
 have cP := parseO_c ln (by omega) w1 (hg.on hb1)
 have hb1s := hb1.size
 generalize parseOF (byts ln) = po at *
 obtain ⟨⟨yK, yE, yC, yP, yA, yN, ycK, ycE, ycC, ycP, yU, yB⟩, er⟩ := po
 unfold opv at cP
 dsimp only at cP hcase
 replace cP := Hd cP
 replace hb1 := Hd hb1
 go_wp2_with fail
 refine cP.out.mono ?_
 rintro e w2 ⟨⟨qa, qc, qb, qd, rfl, hq1, hq2⟩, hb2⟩
 have hb3 := below_up hb1.out hb1s hb2
 have hb4 := hb3.alloc hb3.size (.cells #[.int .i64 yK, .int .u64 yE, .int .i64 yC, .slice qa yP.length qc, .int .u32 yA, .int .u32 yN, .int .i64 ycK, .int .u64 ycE, .int .i64 ycC, .slice qb ycP.length qd, .int .i64 yU, .string yB] 32)
 obtain ⟨rfl, hc1, hc2, hc3⟩ := hcase
 replace hc3 := hc3 (by omega)
 have hbq := below1 w2 (.cells #[.int .i64 yK, .int .u64 yE, .int .i64 yC, .slice qa yP.length qc, .int .u32 yA, .int .u32 yN, .int .i64 ycK, .int .u64 ycE, .int .i64 ycC, .slice qb ycP.length qd, .int .i64 yU, .string yB] 32)
 have hpr := IsC.new w2 32 #[.int .i64 yK, .int .u64 yE, .int .i64 yC, .slice qa yP.length qc, .int .u32 yA, .int .u32 yN, .int .i64 ycK, .int .u64 ycE, .int .i64 ycC, .slice qb ycP.length qd, .int .i64 yU, .string yB]
 have hoi : OpIn (w2.alloc (.cells #[.int .i64 yK, .int .u64 yE, .int .i64 yC, .slice qa yP.length qc, .int .u32 yA, .int .u32 yN, .int .i64 ycK, .int .u64 ycE, .int .i64 ycC, .slice qb ycP.length qd, .int .i64 yU, .string yB] 32)) ⟨yK, yE, yC, yP, yA, yN, ycK, ycE, ycC, ycP, yU, yB⟩ (.slice qa yP.length qc) (.slice qb ycP.length qd) := ⟨OwnQ.in (hq1.below hbq), OwnQ.in (hq2.below hbq)⟩
 have cI := isOp_c _ hc3 _ _ _ hoi
 have cL := fun w' (h : Below (w2.alloc (.cells #[.int .i64 yK, .int .u64 yE, .int .i64 yC, .slice qa yP.length qc, .int .u32 yA, .int .u32 yN, .int .i64 ycK, .int .u64 ycE, .int .i64 ycC, .slice qb ycP.length qd, .int .i64 yU, .string yB] 32)).heap.size (w2.alloc (.cells #[.int .i64 yK, .int .u64 yE, .int .i64 yC, .slice qa yP.length qc, .int .u32 yA, .int .u32 yN, .int .i64 ycK, .int .u64 ycE, .int .i64 ycC, .slice qb ycP.length qd, .int .i64 yU, .string yB] 32)) w') (hg : GlobT w') => line_c _ hc3 _ _ w' (hoi.below h) hg
 rw [hc1] at cI
 rw [hc2] at cL
 unfold opv at cI cL
 dsimp only at cI cL
 have hcmp := bytes_eq (text (byts ln)) ln
 rw [byts_text, decide_eq_true rfl] at hcmp
 obtain ⟨j0, j1, j2, j3, j4, j5, j6, j7, j8, j9, j10, j11⟩ := cells12 hpr
 have hb4s := hb4.size
 replace cI := Hd cI
 replace cL := Hd cL
 replace hb4 := Hd hb4
 replace hpr := Hd hpr
 clear hb2 hb3 hb1 cP hq1 hq2 hb1s hbq hc1 hc2 hc3 hoi
 go_wp2_with fail
 refine cI.out.mono ?_
 rintro e w3 ⟨rfl, hb5⟩
 have hpr3 := isC_of hb5 hpr.out
 replace j0 := hpr3.cell 0
 replace j1 := hpr3.cell 1
 replace j2 := hpr3.cell 2
 replace j3 := hpr3.cell 3
 replace j4 := hpr3.cell 4
 replace j5 := hpr3.cell 5
 replace j6 := hpr3.cell 6
 replace j7 := hpr3.cell 7
 replace j8 := hpr3.cell 8
 replace j9 := hpr3.cell 9
 replace j10 := hpr3.cell 10
 replace j11 := hpr3.cell 11
 have hb6 := Hd (below_up hb4.out hb4s hb5)
 have hb6s := hb6.out.size
 have cL3 := Hd (cL.out w3 hb5 (hg.on hb6.out))
 clear hb5 hpr hpr3 cI cL hb4 hb4s
 go_wp2_with fail
 refine cL3.out.mono ?_
 rintro e w4 ⟨rfl, hb7⟩
 have hbs := Hd (below_up hb6.out hb6s hb7)
 clear hb7 hb6 hb6s cL3 j0 j1 j2 j3 j4 j5 j6 j7 j8 j9 j10 j11
 go_wp2_with fail
 go_loopw [7] (fun t wr => ∃ i : Nat, i ≤ n ∧ t = .int .i64 i ∧ (∀ o ∈ os.take i, greatF o = false) ∧ Below w.heap.size w wr) (fun t _ => n - (intOf t).toNat)
 case atStart => exact ⟨0, Nat.zero_le _, rfl, by simp, hbs.out⟩
 case round =>
  clear hbs
  obtain ⟨i, hi, rfl, hgr, hb⟩ := hrel
  have hbz := hb.size
  by_cases hlt : i < n
  ·have hio : i < os.length := by rw [hn.out]; exact hlt
   obtain ⟨g, o, s, t, rfl, hgz, hop, i0, i1, i2, i3, i4, i5, i6, i7, i8, i9, i10, i11⟩ := (hin0.out.below hb).at i hio
   obtain ⟨xa, xc, rfl, _⟩ := id hop.1
   obtain ⟨xb, xd, rfl, _⟩ := id hop.2
   have hltI : (i : Int) < (n : Int) := by omega
   have hst : os.take (i + 1) = os.take i ++ [os[i]] := List.take_succ_eq_append_getElem hio
   have hok := hos.out os[i] (List.getElem_mem hio)
   generalize os[i] = x at *
   have cG := great_c x _ _ wr hop
   unfold opv at cG
   have hbr := Hd hb
   replace cG := Hd cG
   replace hop := Hd hop
   replace hgr := Hd hgr
   replace hst := Hd hst
   clear hb
   go_wp2_with fail
   refine cG.out.mono ?_
   rintro e w4 ⟨rfl, hb4⟩
   have hb := Hd (below_up hbr.out hbz hb4)
   replace hop := Hd (hop.out.below hb4)
   have hgz4 := Nat.lt_of_lt_of_le hgz hb4.size
   replace i0 := cell_up i0 hb4
   replace i1 := cell_up i1 hb4
   replace i2 := cell_up i2 hb4
   replace i3 := cell_up i3 hb4
   replace i4 := cell_up i4 hb4
   replace i5 := cell_up i5 hb4
   replace i6 := cell_up i6 hb4
   replace i7 := cell_up i7 hb4
   replace i8 := cell_up i8 hb4
   replace i9 := cell_up i9 hb4
   replace i10 := cell_up i10 hb4
   replace i11 := cell_up i11 hb4
   clear hb4 hbr cG hgz
   have hb4s := hb.out.size
   cases hgx : greatF x with
   | true =>
     clear i0 i1 i2 i3 i4 i5 i6 i7 i8 i9 i10 i11
     go_wp2_with fail
     go_ret
     exact ⟨rfl, hb.out⟩
   | false =>
     obtain ⟨hsx, hx1, hx2, hx3, hx4⟩ := great_small hok.1 hok.2 hgx
     replace hgx := Hd hgx
     go_wp2_with fail
     go_loopw [8] (fun t wr2 => ∃ kk : Nat, kk ≤ i ∧ t = .int .i64 kk ∧ Below w4.heap.size w4 wr2) (fun t _ => i - (intOf t).toNat)
     case atStart => exact ⟨0, Nat.zero_le _, rfl, Below.refl _ _⟩
     case round =>
      obtain ⟨kk, hk, rfl, hb2⟩ := hrel
      by_cases hlk : kk < i
      ·have hko : kk < os.length := by omega
       have hb2s := hb2.size
       have hball := below_up hb.out hb4s hb2
       obtain ⟨g', o', s, t, e', hgz', hoq, k0, k1, k2, k3, k4, k5, k6, k7, k8, k9, k10, k11⟩ := (hin0.out.below hball).at kk hko
       cases e'
       obtain ⟨ya, yc, rfl, _⟩ := id hoq.1
       obtain ⟨yb, yd, rfl, _⟩ := id hoq.2
       have hltK : (kk : Int) < (i : Int) := by omega
       have hltN : (kk : Int) < (n : Int) := by omega
       have hoky := hos.out os[kk] (List.getElem_mem hko)
       have hgy := hgr.out os[kk] (List.mem_take_iff_getElem.2 ⟨kk, by omega, rfl⟩)
       generalize os[kk] = y at *
       obtain ⟨hsy, hy1, hy2, hy3, hy4⟩ := great_small hoky.1 hoky.2 hgy
       have hopx := hop.out.below hb2
       have hgg := hg.on hball
       have cIx := fun w' (h : Below wr.heap.size wr w') => isOp_c x hsx _ _ w' (hopx.below h)
       have cIy := fun w' (h : Below wr.heap.size wr w') => isOp_c y hsy _ _ w' (hoq.below h)
       have cLx := fun w' (h : Below wr.heap.size wr w') => line_c x hsx _ _ w' (hopx.below h) (hgg.on h)
       have cLy := fun w' (h : Below wr.heap.size wr w') => line_c y hsy _ _ w' (hoq.below h) (hgg.on h)
       have cFx := fun w' (h : Below wr.heap.size wr w') => formL_c x _ _ w' (hopx.below h)
       have cFy := fun w' (h : Below wr.heap.size wr w') => formL_c y _ _ w' (hoq.below h)
       have cS := fun w' (h : Below wr.heap.size wr w') => sameL_c x y (by omega) (by omega) (fun p hp => by have := hx3 p hp; omega) (fun p hp => by have := hx4 p hp; omega) _ _ _ _ w' (hopx.below h) (hoq.below h)
       have hls := line_same x y hok.1 hoky.1
       have hcmp := bytes_eq (text (lineF x)) (text (lineF y))
       rw [byts_text, byts_text] at hcmp
       unfold opv at cIx cIy cLx cLy cFx cFy cS
       generalize decide (lineF x = lineF y) = eL at *
       generalize lineF x = TX at *
       generalize lineF y = TY at *
       generalize sameD x y = eS at *
       replace cIx := Hd cIx
       replace cIy := Hd cIy
       replace cLx := Hd cLx
       replace cLy := Hd cLy
       replace cFx := Hd cFx
       replace cFy := Hd cFy
       replace cS := Hd cS
       replace i0 := cell_up i0 hb2
       replace i1 := cell_up i1 hb2
       replace i2 := cell_up i2 hb2
       replace i3 := cell_up i3 hb2
       replace i4 := cell_up i4 hb2
       replace i5 := cell_up i5 hb2
       replace i6 := cell_up i6 hb2
       replace i7 := cell_up i7 hb2
       replace i8 := cell_up i8 hb2
       replace i9 := cell_up i9 hb2
       replace i10 := cell_up i10 hb2
       replace i11 := cell_up i11 hb2
       replace hb2 := Hd hb2
       have hbX := Hd (below_drewed (Below.refl wr.heap.size wr))
       have hbXs := hbX.out.size
       clear hoq hopx hgg hball hgz' hoky hgy
       cases hIx : isOpF x with
       | false =>
         rw [hIx] at cIx
         clear cIy cLx cLy cFx cFy cS hls hcmp hIx
         go_wp2_with fail
         refine wp_region_held_at (S := fun w1 => w1.cell? ⟨g, o + i * 12, none⟩ = some (.int .i64 x.K) ∧ w1.cell? ⟨g, o + i * 12 + 1, none⟩ = some (.int .u64 x.E) ∧ w1.cell? ⟨g, o + i * 12 + 2, none⟩ = some (.int .i64 x.C) ∧ w1.cell? ⟨g, o + i * 12 + 3, none⟩ = some (.slice xa x.P.length xc) ∧ w1.cell? ⟨g, o + i * 12 + 4, none⟩ = some (.int .u32 x.A) ∧ w1.cell? ⟨g, o + i * 12 + 5, none⟩ = some (.int .u32 x.N) ∧ w1.cell? ⟨g, o + i * 12 + 6, none⟩ = some (.int .i64 x.cK) ∧ w1.cell? ⟨g, o + i * 12 + 7, none⟩ = some (.int .u64 x.cE) ∧ w1.cell? ⟨g, o + i * 12 + 8, none⟩ = some (.int .i64 x.cC) ∧ w1.cell? ⟨g, o + i * 12 + 9, none⟩ = some (.slice xb x.cP.length xd) ∧ w1.cell? ⟨g, o + i * 12 + 10, none⟩ = some (.int .i64 x.U) ∧ w1.cell? ⟨g, o + i * 12 + 11, none⟩ = some (.string x.B) ∧ w1.cell? ⟨g, o + kk * 12, none⟩ = some (.int .i64 y.K) ∧ w1.cell? ⟨g, o + kk * 12 + 1, none⟩ = some (.int .u64 y.E) ∧ w1.cell? ⟨g, o + kk * 12 + 2, none⟩ = some (.int .i64 y.C) ∧ w1.cell? ⟨g, o + kk * 12 + 3, none⟩ = some (.slice ya y.P.length yc) ∧ w1.cell? ⟨g, o + kk * 12 + 4, none⟩ = some (.int .u32 y.A) ∧ w1.cell? ⟨g, o + kk * 12 + 5, none⟩ = some (.int .u32 y.N) ∧ w1.cell? ⟨g, o + kk * 12 + 6, none⟩ = some (.int .i64 y.cK) ∧ w1.cell? ⟨g, o + kk * 12 + 7, none⟩ = some (.int .u64 y.cE) ∧ w1.cell? ⟨g, o + kk * 12 + 8, none⟩ = some (.int .i64 y.cC) ∧ w1.cell? ⟨g, o + kk * 12 + 9, none⟩ = some (.slice yb y.cP.length yd) ∧ w1.cell? ⟨g, o + kk * 12 + 10, none⟩ = some (.int .i64 y.U) ∧ w1.cell? ⟨g, o + kk * 12 + 11, none⟩ = some (.string y.B)) 37 rfl (by kernel_rfl) (by go_keep) (fun hH => ?_)
         refine wpU 0 ?_ rfl ?_ ?_
         rotate_left
         ·intro u h; (try simp only [ls3]); go_simp; try with_reducible rfl
         try simp only [ls7, Act.put]
         refine wpU 1 ?_ rfl ?_ ?_
         rotate_left
         ·intro u h; (try simp only [ls3]); go_simp; try with_reducible rfl
         try simp only [ls7, Act.put]
         refine wpU 2 ?_ rfl ?_ ?_
         rotate_left
         ·intro u h; (try simp only [ls3]); go_simp; try with_reducible rfl
         try simp only [ls7, Act.put]
         refine wpU 3 ?_ rfl ?_ ?_
         rotate_left
         ·intro u h; (try simp only [ls3]); go_simp; try with_reducible rfl
         try simp only [ls7, Act.put]
         refine wpAnyH_ready (rs := [4]) (by decide +kernel) (by simp) ?_
         refine AllReadyH.cons rfl (fun K hK => ?_) AllReadyH.nil
         (try simp only [ls3])
         go_simp
         refine Calls.mono (cIx.out _ (below_drewed (Below.refl _ _))) ?_
         rintro e w5 ⟨rfl, hb4⟩
         replace i0 := cell_up i0 (below_d (w := wr) hb4)
         replace i1 := cell_up i1 (below_d (w := wr) hb4)
         replace i2 := cell_up i2 (below_d (w := wr) hb4)
         replace i3 := cell_up i3 (below_d (w := wr) hb4)
         replace i4 := cell_up i4 (below_d (w := wr) hb4)
         replace i5 := cell_up i5 (below_d (w := wr) hb4)
         replace i6 := cell_up i6 (below_d (w := wr) hb4)
         replace i7 := cell_up i7 (below_d (w := wr) hb4)
         replace i8 := cell_up i8 (below_d (w := wr) hb4)
         replace i9 := cell_up i9 (below_d (w := wr) hb4)
         replace i10 := cell_up i10 (below_d (w := wr) hb4)
         replace i11 := cell_up i11 (below_d (w := wr) hb4)
         replace k0 := cell_up k0 (below_d (w := wr) hb4)
         replace k1 := cell_up k1 (below_d (w := wr) hb4)
         replace k2 := cell_up k2 (below_d (w := wr) hb4)
         replace k3 := cell_up k3 (below_d (w := wr) hb4)
         replace k4 := cell_up k4 (below_d (w := wr) hb4)
         replace k5 := cell_up k5 (below_d (w := wr) hb4)
         replace k6 := cell_up k6 (below_d (w := wr) hb4)
         replace k7 := cell_up k7 (below_d (w := wr) hb4)
         replace k8 := cell_up k8 (below_d (w := wr) hb4)
         replace k9 := cell_up k9 (below_d (w := wr) hb4)
         replace k10 := cell_up k10 (below_d (w := wr) hb4)
         replace k11 := cell_up k11 (below_d (w := wr) hb4)
         replace hbX := Hd (below_d (w := wr) hb4)
         clear hb4 hbXs
         have hbXs := hbX.out.size
         (try go_simp)
         refine hK.out _ _ (by go_keep) (fun hH => ?_)
         clear hK K
         try simp only [ls7, Act.put]
         refine wpU 5 ?_ rfl ?_ ?_
         rotate_left
         ·intro u h; (try simp only [ls3]); go_simp; try with_reducible rfl
         try simp only [ls7, Act.put]
         refine wpAnyH_take (i := 6) (v := undef) rfl (by decide +kernel) (by decide +kernel) (by decide +kernel) (fun _ _ _ h => h) (Or.inr ⟨by rfl, rfl⟩) (by assumption) ?_
         try simp only [ls7, Act.put]
         refine wpAnyH_take (i := 7) (v := undef) rfl (by decide +kernel) (by decide +kernel) (by decide +kernel) (fun _ _ _ h => h) (Or.inr ⟨by rfl, rfl⟩) (by assumption) ?_
         try simp only [ls7, Act.put]
         refine wpAnyH_take (i := 8) (v := undef) rfl (by decide +kernel) (by decide +kernel) (by decide +kernel) (fun _ _ _ h => h) (Or.inr ⟨by rfl, rfl⟩) (by assumption) ?_
         try simp only [ls7, Act.put]
         refine wpAnyH_take (i := 9) (v := undef) rfl (by decide +kernel) (by decide +kernel) (by decide +kernel) (fun _ _ _ h => h) (Or.inr ⟨by rfl, rfl⟩) (by assumption) ?_
         try simp only [ls7, Act.put]
         refine wpAnyH_take (i := 10) (v := undef) rfl (by decide +kernel) (by decide +kernel) (by decide +kernel) (fun _ _ _ h => h) (Or.inr ⟨by rfl, rfl⟩) (by assumption) ?_
         try simp only [ls7, Act.put]
         refine wpU 11 ?_ rfl ?_ ?_
         rotate_left
         ·intro u h; (try simp only [ls3]); go_simp; try with_reducible rfl
         try simp only [ls7, Act.put]
         refine wpU 12 ?_ rfl ?_ ?_
         rotate_left
         ·intro u h; (try simp only [ls3]); go_simp; try with_reducible rfl
         try simp only [ls7, Act.put]
         refine wpAnyH_take (i := 13) (v := undef) rfl (by decide +kernel) (by decide +kernel) (by decide +kernel) (fun _ _ _ h => h) (Or.inr ⟨by rfl, rfl⟩) (by assumption) ?_
         try simp only [ls7, Act.put]
         refine wpAnyH_take (i := 14) (v := undef) rfl (by decide +kernel) (by decide +kernel) (by decide +kernel) (fun _ _ _ h => h) (Or.inr ⟨by rfl, rfl⟩) (by assumption) ?_
         try simp only [ls7, Act.put]
         refine wpAnyH_take (i := 15) (v := undef) rfl (by decide +kernel) (by decide +kernel) (by decide +kernel) (fun _ _ _ h => h) (Or.inr ⟨by rfl, rfl⟩) (by assumption) ?_
         try simp only [ls7, Act.put]
         refine wpAnyH_take (i := 16) (v := undef) rfl (by decide +kernel) (by decide +kernel) (by decide +kernel) (fun _ _ _ h => h) (Or.inr ⟨by rfl, rfl⟩) (by assumption) ?_
         try simp only [ls7, Act.put]
         refine wpAnyH_take (i := 17) (v := undef) rfl (by decide +kernel) (by decide +kernel) (by decide +kernel) (fun _ _ _ h => h) (Or.inr ⟨by rfl, rfl⟩) (by assumption) ?_
         try simp only [ls7, Act.put]
         refine wpAnyH_take (i := 18) (v := undef) rfl (by decide +kernel) (by decide +kernel) (by decide +kernel) (fun _ _ _ h => h) (Or.inr ⟨by rfl, rfl⟩) (by assumption) ?_
         try simp only [ls7, Act.put]
         refine wpAnyH_take (i := 19) (v := undef) rfl (by decide +kernel) (by decide +kernel) (by decide +kernel) (fun _ _ _ h => h) (Or.inr ⟨by rfl, rfl⟩) (by assumption) ?_
         try simp only [ls7, Act.put]
         refine wpAnyH_take (i := 20) (v := undef) rfl (by decide +kernel) (by decide +kernel) (by decide +kernel) (fun _ _ _ h => h) (Or.inr ⟨by rfl, rfl⟩) (by assumption) ?_
         try simp only [ls7, Act.put]
         refine wpAnyH_take (i := 21) (v := undef) rfl (by decide +kernel) (by decide +kernel) (by decide +kernel) (fun _ _ _ h => h) (Or.inr ⟨by rfl, rfl⟩) (by assumption) ?_
         try simp only [ls7, Act.put]
         refine wpAnyH_take (i := 22) (v := undef) rfl (by decide +kernel) (by decide +kernel) (by decide +kernel) (fun _ _ _ h => h) (Or.inr ⟨by rfl, rfl⟩) (by assumption) ?_
         try simp only [ls7, Act.put]
         refine wpAnyH_take (i := 23) (v := undef) rfl (by decide +kernel) (by decide +kernel) (by decide +kernel) (fun _ _ _ h => h) (Or.inr ⟨by rfl, rfl⟩) (by assumption) ?_
         try simp only [ls7, Act.put]
         refine wpAnyH_take (i := 24) (v := undef) rfl (by decide +kernel) (by decide +kernel) (by decide +kernel) (fun _ _ _ h => h) (Or.inr ⟨by rfl, rfl⟩) (by assumption) ?_
         try simp only [ls7, Act.put]
         refine wpAnyH_take (i := 25) (v := undef) rfl (by decide +kernel) (by decide +kernel) (by decide +kernel) (fun _ _ _ h => h) (Or.inr ⟨by rfl, rfl⟩) (by assumption) ?_
         try simp only [ls7, Act.put]
         refine wpAnyH_take (i := 26) (v := undef) rfl (by decide +kernel) (by decide +kernel) (by decide +kernel) (fun _ _ _ h => h) (Or.inr ⟨by rfl, rfl⟩) (by assumption) ?_
         try simp only [ls7, Act.put]
         refine wpAnyH_take (i := 27) (v := undef) rfl (by decide +kernel) (by decide +kernel) (by decide +kernel) (fun _ _ _ h => h) (Or.inr ⟨by rfl, rfl⟩) (by assumption) ?_
         try simp only [ls7, Act.put]
         refine wpAnyH_take (i := 28) (v := undef) rfl (by decide +kernel) (by decide +kernel) (by decide +kernel) (fun _ _ _ h => h) (Or.inr ⟨by rfl, rfl⟩) (by assumption) ?_
         try simp only [ls7, Act.put]
         refine wpAnyH_take (i := 29) (v := undef) rfl (by decide +kernel) (by decide +kernel) (by decide +kernel) (fun _ _ _ h => h) (Or.inr ⟨by rfl, rfl⟩) (by assumption) ?_
         try simp only [ls7, Act.put]
         refine wpAnyH_take (i := 30) (v := undef) rfl (by decide +kernel) (by decide +kernel) (by decide +kernel) (fun _ _ _ h => h) (Or.inr ⟨by rfl, rfl⟩) (by assumption) ?_
         try simp only [ls7, Act.put]
         refine wpAnyH_take (i := 31) (v := undef) rfl (by decide +kernel) (by decide +kernel) (by decide +kernel) (fun _ _ _ h => h) (Or.inr ⟨by rfl, rfl⟩) (by assumption) ?_
         try simp only [ls7, Act.put]
         refine wpAnyH_take (i := 32) (v := undef) rfl (by decide +kernel) (by decide +kernel) (by decide +kernel) (fun _ _ _ h => h) (Or.inr ⟨by rfl, rfl⟩) (by assumption) ?_
         try simp only [ls7, Act.put]
         refine wpAnyH_take (i := 33) (v := undef) rfl (by decide +kernel) (by decide +kernel) (by decide +kernel) (fun _ _ _ h => h) (Or.inr ⟨by rfl, rfl⟩) (by assumption) ?_
         try simp only [ls7, Act.put]
         refine wpAnyH_take (i := 34) (v := undef) rfl (by decide +kernel) (by decide +kernel) (by decide +kernel) (fun _ _ _ h => h) (Or.inr ⟨by rfl, rfl⟩) (by assumption) ?_
         try simp only [ls7, Act.put]
         refine wpAnyH_take (i := 35) (v := undef) rfl (by decide +kernel) (by decide +kernel) (by decide +kernel) (fun _ _ _ h => h) (Or.inr ⟨by rfl, rfl⟩) (by assumption) ?_
         try simp only [ls7, Act.put]
         refine wpU 36 ?_ rfl ?_ ?_
         rotate_left
         ·intro u h; (try simp only [ls3]); go_simp; try with_reducible rfl
         try simp only [ls7, Act.put]
         refine wpAnyH_done (by decide +kernel) ?_ _
         have hfin := Hd (hb2.out.trans (hbX.out.mono hb2s))
         clear i0 k0 i1 k1 i2 k2 i3 k3 i4 k4 i5 k5 i6 k6 i7 k7 i8 k8 i9 k9 i10 k10 i11 k11 hbX hbXs
         go_wp2_with fail
         go_roundw
         case rel => exact ⟨kk + 1, by omega, by go_num, hfin.out⟩
         case measure => simp [intOf]; omega
       | true =>
         rw [hIx] at cIx
         cases hIy : isOpF y with
         | false =>
           rw [hIy] at cIy
           clear cLx cLy cFx cFy cS hls hcmp hIx hIy
           go_wp2_with fail
           refine wp_region_held_at (S := fun w1 => w1.cell? ⟨g, o + i * 12, none⟩ = some (.int .i64 x.K) ∧ w1.cell? ⟨g, o + i * 12 + 1, none⟩ = some (.int .u64 x.E) ∧ w1.cell? ⟨g, o + i * 12 + 2, none⟩ = some (.int .i64 x.C) ∧ w1.cell? ⟨g, o + i * 12 + 3, none⟩ = some (.slice xa x.P.length xc) ∧ w1.cell? ⟨g, o + i * 12 + 4, none⟩ = some (.int .u32 x.A) ∧ w1.cell? ⟨g, o + i * 12 + 5, none⟩ = some (.int .u32 x.N) ∧ w1.cell? ⟨g, o + i * 12 + 6, none⟩ = some (.int .i64 x.cK) ∧ w1.cell? ⟨g, o + i * 12 + 7, none⟩ = some (.int .u64 x.cE) ∧ w1.cell? ⟨g, o + i * 12 + 8, none⟩ = some (.int .i64 x.cC) ∧ w1.cell? ⟨g, o + i * 12 + 9, none⟩ = some (.slice xb x.cP.length xd) ∧ w1.cell? ⟨g, o + i * 12 + 10, none⟩ = some (.int .i64 x.U) ∧ w1.cell? ⟨g, o + i * 12 + 11, none⟩ = some (.string x.B) ∧ w1.cell? ⟨g, o + kk * 12, none⟩ = some (.int .i64 y.K) ∧ w1.cell? ⟨g, o + kk * 12 + 1, none⟩ = some (.int .u64 y.E) ∧ w1.cell? ⟨g, o + kk * 12 + 2, none⟩ = some (.int .i64 y.C) ∧ w1.cell? ⟨g, o + kk * 12 + 3, none⟩ = some (.slice ya y.P.length yc) ∧ w1.cell? ⟨g, o + kk * 12 + 4, none⟩ = some (.int .u32 y.A) ∧ w1.cell? ⟨g, o + kk * 12 + 5, none⟩ = some (.int .u32 y.N) ∧ w1.cell? ⟨g, o + kk * 12 + 6, none⟩ = some (.int .i64 y.cK) ∧ w1.cell? ⟨g, o + kk * 12 + 7, none⟩ = some (.int .u64 y.cE) ∧ w1.cell? ⟨g, o + kk * 12 + 8, none⟩ = some (.int .i64 y.cC) ∧ w1.cell? ⟨g, o + kk * 12 + 9, none⟩ = some (.slice yb y.cP.length yd) ∧ w1.cell? ⟨g, o + kk * 12 + 10, none⟩ = some (.int .i64 y.U) ∧ w1.cell? ⟨g, o + kk * 12 + 11, none⟩ = some (.string y.B)) 37 rfl (by kernel_rfl) (by go_keep) (fun hH => ?_)
           refine wpU 0 ?_ rfl ?_ ?_
           rotate_left
           ·intro u h; (try simp only [ls3]); go_simp; try with_reducible rfl
           try simp only [ls7, Act.put]
           refine wpU 1 ?_ rfl ?_ ?_
           rotate_left
           ·intro u h; (try simp only [ls3]); go_simp; try with_reducible rfl
           try simp only [ls7, Act.put]
           refine wpU 2 ?_ rfl ?_ ?_
           rotate_left
           ·intro u h; (try simp only [ls3]); go_simp; try with_reducible rfl
           try simp only [ls7, Act.put]
           refine wpU 3 ?_ rfl ?_ ?_
           rotate_left
           ·intro u h; (try simp only [ls3]); go_simp; try with_reducible rfl
           try simp only [ls7, Act.put]
           refine wpAnyH_ready (rs := [4]) (by decide +kernel) (by simp) ?_
           refine AllReadyH.cons rfl (fun K hK => ?_) AllReadyH.nil
           (try simp only [ls3])
           go_simp
           refine Calls.mono (cIx.out _ (below_drewed (Below.refl _ _))) ?_
           rintro e w5 ⟨rfl, hb4⟩
           replace i0 := cell_up i0 (below_d (w := wr) hb4)
           replace i1 := cell_up i1 (below_d (w := wr) hb4)
           replace i2 := cell_up i2 (below_d (w := wr) hb4)
           replace i3 := cell_up i3 (below_d (w := wr) hb4)
           replace i4 := cell_up i4 (below_d (w := wr) hb4)
           replace i5 := cell_up i5 (below_d (w := wr) hb4)
           replace i6 := cell_up i6 (below_d (w := wr) hb4)
           replace i7 := cell_up i7 (below_d (w := wr) hb4)
           replace i8 := cell_up i8 (below_d (w := wr) hb4)
           replace i9 := cell_up i9 (below_d (w := wr) hb4)
           replace i10 := cell_up i10 (below_d (w := wr) hb4)
           replace i11 := cell_up i11 (below_d (w := wr) hb4)
           replace k0 := cell_up k0 (below_d (w := wr) hb4)
           replace k1 := cell_up k1 (below_d (w := wr) hb4)
           replace k2 := cell_up k2 (below_d (w := wr) hb4)
           replace k3 := cell_up k3 (below_d (w := wr) hb4)
           replace k4 := cell_up k4 (below_d (w := wr) hb4)
           replace k5 := cell_up k5 (below_d (w := wr) hb4)
           replace k6 := cell_up k6 (below_d (w := wr) hb4)
           replace k7 := cell_up k7 (below_d (w := wr) hb4)
           replace k8 := cell_up k8 (below_d (w := wr) hb4)
           replace k9 := cell_up k9 (below_d (w := wr) hb4)
           replace k10 := cell_up k10 (below_d (w := wr) hb4)
           replace k11 := cell_up k11 (below_d (w := wr) hb4)
           replace hbX := Hd (below_d (w := wr) hb4)
           clear hb4 hbXs
           have hbXs := hbX.out.size
           (try go_simp)
           refine hK.out _ _ (by go_keep) (fun hH => ?_)
           clear hK K
           try simp only [ls7, Act.put]
           refine wpU 5 ?_ rfl ?_ ?_
           rotate_left
           ·intro u h; (try simp only [ls3]); go_simp; try with_reducible rfl
           try simp only [ls7, Act.put]
           refine wpU 6 ?_ rfl ?_ ?_
           rotate_left
           ·intro u h; (try simp only [ls3]); go_simp; try with_reducible rfl
           try simp only [ls7, Act.put]
           refine wpU 7 ?_ rfl ?_ ?_
           rotate_left
           ·intro u h; (try simp only [ls3]); go_simp; try with_reducible rfl
           try simp only [ls7, Act.put]
           refine wpU 8 ?_ rfl ?_ ?_
           rotate_left
           ·intro u h; (try simp only [ls3]); go_simp; try with_reducible rfl
           try simp only [ls7, Act.put]
           refine wpU 9 ?_ rfl ?_ ?_
           rotate_left
           ·intro u h; (try simp only [ls3]); go_simp; try with_reducible rfl
           try simp only [ls7, Act.put]
           refine wpAnyH_ready (rs := [10]) (by decide +kernel) (by simp) ?_
           refine AllReadyH.cons rfl (fun K hK => ?_) AllReadyH.nil
           (try simp only [ls3])
           go_simp
           refine Calls.mono (cIy.out _ hbX.out) ?_
           rintro e w5 ⟨rfl, hb4⟩
           replace i0 := cell_up i0 hb4
           replace i1 := cell_up i1 hb4
           replace i2 := cell_up i2 hb4
           replace i3 := cell_up i3 hb4
           replace i4 := cell_up i4 hb4
           replace i5 := cell_up i5 hb4
           replace i6 := cell_up i6 hb4
           replace i7 := cell_up i7 hb4
           replace i8 := cell_up i8 hb4
           replace i9 := cell_up i9 hb4
           replace i10 := cell_up i10 hb4
           replace i11 := cell_up i11 hb4
           replace k0 := cell_up k0 hb4
           replace k1 := cell_up k1 hb4
           replace k2 := cell_up k2 hb4
           replace k3 := cell_up k3 hb4
           replace k4 := cell_up k4 hb4
           replace k5 := cell_up k5 hb4
           replace k6 := cell_up k6 hb4
           replace k7 := cell_up k7 hb4
           replace k8 := cell_up k8 hb4
           replace k9 := cell_up k9 hb4
           replace k10 := cell_up k10 hb4
           replace k11 := cell_up k11 hb4
           replace hbX := Hd (below_up hbX.out hbXs hb4)
           clear hb4 hbXs
           have hbXs := hbX.out.size
           (try go_simp)
           refine hK.out _ _ (by go_keep) (fun hH => ?_)
           clear hK K
           try simp only [ls7, Act.put]
           refine wpU 11 ?_ rfl ?_ ?_
           rotate_left
           ·intro u h; (try simp only [ls3]); go_simp; try with_reducible rfl
           try simp only [ls7, Act.put]
           refine wpU 12 ?_ rfl ?_ ?_
           rotate_left
           ·intro u h; (try simp only [ls3]); go_simp; try with_reducible rfl
           try simp only [ls7, Act.put]
           refine wpAnyH_take (i := 13) (v := undef) rfl (by decide +kernel) (by decide +kernel) (by decide +kernel) (fun _ _ _ h => h) (Or.inr ⟨by rfl, rfl⟩) (by assumption) ?_
           try simp only [ls7, Act.put]
           refine wpAnyH_take (i := 14) (v := undef) rfl (by decide +kernel) (by decide +kernel) (by decide +kernel) (fun _ _ _ h => h) (Or.inr ⟨by rfl, rfl⟩) (by assumption) ?_
           try simp only [ls7, Act.put]
           refine wpAnyH_take (i := 15) (v := undef) rfl (by decide +kernel) (by decide +kernel) (by decide +kernel) (fun _ _ _ h => h) (Or.inr ⟨by rfl, rfl⟩) (by assumption) ?_
           try simp only [ls7, Act.put]
           refine wpAnyH_take (i := 16) (v := undef) rfl (by decide +kernel) (by decide +kernel) (by decide +kernel) (fun _ _ _ h => h) (Or.inr ⟨by rfl, rfl⟩) (by assumption) ?_
           try simp only [ls7, Act.put]
           refine wpAnyH_take (i := 17) (v := undef) rfl (by decide +kernel) (by decide +kernel) (by decide +kernel) (fun _ _ _ h => h) (Or.inr ⟨by rfl, rfl⟩) (by assumption) ?_
           try simp only [ls7, Act.put]
           refine wpAnyH_take (i := 18) (v := undef) rfl (by decide +kernel) (by decide +kernel) (by decide +kernel) (fun _ _ _ h => h) (Or.inr ⟨by rfl, rfl⟩) (by assumption) ?_
           try simp only [ls7, Act.put]
           refine wpAnyH_take (i := 19) (v := undef) rfl (by decide +kernel) (by decide +kernel) (by decide +kernel) (fun _ _ _ h => h) (Or.inr ⟨by rfl, rfl⟩) (by assumption) ?_
           try simp only [ls7, Act.put]
           refine wpAnyH_take (i := 20) (v := undef) rfl (by decide +kernel) (by decide +kernel) (by decide +kernel) (fun _ _ _ h => h) (Or.inr ⟨by rfl, rfl⟩) (by assumption) ?_
           try simp only [ls7, Act.put]
           refine wpAnyH_take (i := 21) (v := undef) rfl (by decide +kernel) (by decide +kernel) (by decide +kernel) (fun _ _ _ h => h) (Or.inr ⟨by rfl, rfl⟩) (by assumption) ?_
           try simp only [ls7, Act.put]
           refine wpAnyH_take (i := 22) (v := undef) rfl (by decide +kernel) (by decide +kernel) (by decide +kernel) (fun _ _ _ h => h) (Or.inr ⟨by rfl, rfl⟩) (by assumption) ?_
           try simp only [ls7, Act.put]
           refine wpAnyH_take (i := 23) (v := undef) rfl (by decide +kernel) (by decide +kernel) (by decide +kernel) (fun _ _ _ h => h) (Or.inr ⟨by rfl, rfl⟩) (by assumption) ?_
           try simp only [ls7, Act.put]
           refine wpAnyH_take (i := 24) (v := undef) rfl (by decide +kernel) (by decide +kernel) (by decide +kernel) (fun _ _ _ h => h) (Or.inr ⟨by rfl, rfl⟩) (by assumption) ?_
           try simp only [ls7, Act.put]
           refine wpAnyH_take (i := 25) (v := undef) rfl (by decide +kernel) (by decide +kernel) (by decide +kernel) (fun _ _ _ h => h) (Or.inr ⟨by rfl, rfl⟩) (by assumption) ?_
           try simp only [ls7, Act.put]
           refine wpAnyH_take (i := 26) (v := undef) rfl (by decide +kernel) (by decide +kernel) (by decide +kernel) (fun _ _ _ h => h) (Or.inr ⟨by rfl, rfl⟩) (by assumption) ?_
           try simp only [ls7, Act.put]
           refine wpAnyH_take (i := 27) (v := undef) rfl (by decide +kernel) (by decide +kernel) (by decide +kernel) (fun _ _ _ h => h) (Or.inr ⟨by rfl, rfl⟩) (by assumption) ?_
           try simp only [ls7, Act.put]
           refine wpAnyH_take (i := 28) (v := undef) rfl (by decide +kernel) (by decide +kernel) (by decide +kernel) (fun _ _ _ h => h) (Or.inr ⟨by rfl, rfl⟩) (by assumption) ?_
           try simp only [ls7, Act.put]
           refine wpAnyH_take (i := 29) (v := undef) rfl (by decide +kernel) (by decide +kernel) (by decide +kernel) (fun _ _ _ h => h) (Or.inr ⟨by rfl, rfl⟩) (by assumption) ?_
           try simp only [ls7, Act.put]
           refine wpAnyH_take (i := 30) (v := undef) rfl (by decide +kernel) (by decide +kernel) (by decide +kernel) (fun _ _ _ h => h) (Or.inr ⟨by rfl, rfl⟩) (by assumption) ?_
           try simp only [ls7, Act.put]
           refine wpAnyH_take (i := 31) (v := undef) rfl (by decide +kernel) (by decide +kernel) (by decide +kernel) (fun _ _ _ h => h) (Or.inr ⟨by rfl, rfl⟩) (by assumption) ?_
           try simp only [ls7, Act.put]
           refine wpAnyH_take (i := 32) (v := undef) rfl (by decide +kernel) (by decide +kernel) (by decide +kernel) (fun _ _ _ h => h) (Or.inr ⟨by rfl, rfl⟩) (by assumption) ?_
           try simp only [ls7, Act.put]
           refine wpAnyH_take (i := 33) (v := undef) rfl (by decide +kernel) (by decide +kernel) (by decide +kernel) (fun _ _ _ h => h) (Or.inr ⟨by rfl, rfl⟩) (by assumption) ?_
           try simp only [ls7, Act.put]
           refine wpAnyH_take (i := 34) (v := undef) rfl (by decide +kernel) (by decide +kernel) (by decide +kernel) (fun _ _ _ h => h) (Or.inr ⟨by rfl, rfl⟩) (by assumption) ?_
           try simp only [ls7, Act.put]
           refine wpAnyH_take (i := 35) (v := undef) rfl (by decide +kernel) (by decide +kernel) (by decide +kernel) (fun _ _ _ h => h) (Or.inr ⟨by rfl, rfl⟩) (by assumption) ?_
           try simp only [ls7, Act.put]
           refine wpU 36 ?_ rfl ?_ ?_
           rotate_left
           ·intro u h; (try simp only [ls3]); go_simp; try with_reducible rfl
           try simp only [ls7, Act.put]
           refine wpAnyH_done (by decide +kernel) ?_ _
           have hfin := Hd (hb2.out.trans (hbX.out.mono hb2s))
           clear i0 k0 i1 k1 i2 k2 i3 k3 i4 k4 i5 k5 i6 k6 i7 k7 i8 k8 i9 k9 i10 k10 i11 k11 hbX hbXs
           go_wp2_with fail
           go_roundw
           case rel => exact ⟨kk + 1, by omega, by go_num, hfin.out⟩
           case measure => simp [intOf]; omega
         | true =>
           rw [hIy] at cIy
           have heq : eL = eS := by
            have := hls hIx hIy
            revert this
            cases eL <;> cases eS <;> decide
           clear hIx hIy hls
           subst heq
           go_wp2_with fail
           refine wp_region_held_at (S := fun w1 => w1.cell? ⟨g, o + i * 12, none⟩ = some (.int .i64 x.K) ∧ w1.cell? ⟨g, o + i * 12 + 1, none⟩ = some (.int .u64 x.E) ∧ w1.cell? ⟨g, o + i * 12 + 2, none⟩ = some (.int .i64 x.C) ∧ w1.cell? ⟨g, o + i * 12 + 3, none⟩ = some (.slice xa x.P.length xc) ∧ w1.cell? ⟨g, o + i * 12 + 4, none⟩ = some (.int .u32 x.A) ∧ w1.cell? ⟨g, o + i * 12 + 5, none⟩ = some (.int .u32 x.N) ∧ w1.cell? ⟨g, o + i * 12 + 6, none⟩ = some (.int .i64 x.cK) ∧ w1.cell? ⟨g, o + i * 12 + 7, none⟩ = some (.int .u64 x.cE) ∧ w1.cell? ⟨g, o + i * 12 + 8, none⟩ = some (.int .i64 x.cC) ∧ w1.cell? ⟨g, o + i * 12 + 9, none⟩ = some (.slice xb x.cP.length xd) ∧ w1.cell? ⟨g, o + i * 12 + 10, none⟩ = some (.int .i64 x.U) ∧ w1.cell? ⟨g, o + i * 12 + 11, none⟩ = some (.string x.B) ∧ w1.cell? ⟨g, o + kk * 12, none⟩ = some (.int .i64 y.K) ∧ w1.cell? ⟨g, o + kk * 12 + 1, none⟩ = some (.int .u64 y.E) ∧ w1.cell? ⟨g, o + kk * 12 + 2, none⟩ = some (.int .i64 y.C) ∧ w1.cell? ⟨g, o + kk * 12 + 3, none⟩ = some (.slice ya y.P.length yc) ∧ w1.cell? ⟨g, o + kk * 12 + 4, none⟩ = some (.int .u32 y.A) ∧ w1.cell? ⟨g, o + kk * 12 + 5, none⟩ = some (.int .u32 y.N) ∧ w1.cell? ⟨g, o + kk * 12 + 6, none⟩ = some (.int .i64 y.cK) ∧ w1.cell? ⟨g, o + kk * 12 + 7, none⟩ = some (.int .u64 y.cE) ∧ w1.cell? ⟨g, o + kk * 12 + 8, none⟩ = some (.int .i64 y.cC) ∧ w1.cell? ⟨g, o + kk * 12 + 9, none⟩ = some (.slice yb y.cP.length yd) ∧ w1.cell? ⟨g, o + kk * 12 + 10, none⟩ = some (.int .i64 y.U) ∧ w1.cell? ⟨g, o + kk * 12 + 11, none⟩ = some (.string y.B)) 37 rfl (by kernel_rfl) (by go_keep) (fun hH => ?_)
           refine wpU 0 ?_ rfl ?_ ?_
           rotate_left
           ·intro u h; (try simp only [ls3]); go_simp; try with_reducible rfl
           try simp only [ls7, Act.put]
           refine wpU 1 ?_ rfl ?_ ?_
           rotate_left
           ·intro u h; (try simp only [ls3]); go_simp; try with_reducible rfl
           try simp only [ls7, Act.put]
           refine wpU 2 ?_ rfl ?_ ?_
           rotate_left
           ·intro u h; (try simp only [ls3]); go_simp; try with_reducible rfl
           try simp only [ls7, Act.put]
           refine wpU 3 ?_ rfl ?_ ?_
           rotate_left
           ·intro u h; (try simp only [ls3]); go_simp; try with_reducible rfl
           try simp only [ls7, Act.put]
           refine wpAnyH_ready (rs := [4]) (by decide +kernel) (by simp) ?_
           refine AllReadyH.cons rfl (fun K hK => ?_) AllReadyH.nil
           (try simp only [ls3])
           go_simp
           refine Calls.mono (cIx.out _ (below_drewed (Below.refl _ _))) ?_
           rintro e w5 ⟨rfl, hb4⟩
           replace i0 := cell_up i0 (below_d (w := wr) hb4)
           replace i1 := cell_up i1 (below_d (w := wr) hb4)
           replace i2 := cell_up i2 (below_d (w := wr) hb4)
           replace i3 := cell_up i3 (below_d (w := wr) hb4)
           replace i4 := cell_up i4 (below_d (w := wr) hb4)
           replace i5 := cell_up i5 (below_d (w := wr) hb4)
           replace i6 := cell_up i6 (below_d (w := wr) hb4)
           replace i7 := cell_up i7 (below_d (w := wr) hb4)
           replace i8 := cell_up i8 (below_d (w := wr) hb4)
           replace i9 := cell_up i9 (below_d (w := wr) hb4)
           replace i10 := cell_up i10 (below_d (w := wr) hb4)
           replace i11 := cell_up i11 (below_d (w := wr) hb4)
           replace k0 := cell_up k0 (below_d (w := wr) hb4)
           replace k1 := cell_up k1 (below_d (w := wr) hb4)
           replace k2 := cell_up k2 (below_d (w := wr) hb4)
           replace k3 := cell_up k3 (below_d (w := wr) hb4)
           replace k4 := cell_up k4 (below_d (w := wr) hb4)
           replace k5 := cell_up k5 (below_d (w := wr) hb4)
           replace k6 := cell_up k6 (below_d (w := wr) hb4)
           replace k7 := cell_up k7 (below_d (w := wr) hb4)
           replace k8 := cell_up k8 (below_d (w := wr) hb4)
           replace k9 := cell_up k9 (below_d (w := wr) hb4)
           replace k10 := cell_up k10 (below_d (w := wr) hb4)
           replace k11 := cell_up k11 (below_d (w := wr) hb4)
           replace hbX := Hd (below_d (w := wr) hb4)
           clear hb4 hbXs
           have hbXs := hbX.out.size
           (try go_simp)
           refine hK.out _ _ (by go_keep) (fun hH => ?_)
           clear hK K
           try simp only [ls7, Act.put]
           refine wpU 5 ?_ rfl ?_ ?_
           rotate_left
           ·intro u h; (try simp only [ls3]); go_simp; try with_reducible rfl
           try simp only [ls7, Act.put]
           refine wpU 6 ?_ rfl ?_ ?_
           rotate_left
           ·intro u h; (try simp only [ls3]); go_simp; try with_reducible rfl
           try simp only [ls7, Act.put]
           refine wpU 7 ?_ rfl ?_ ?_
           rotate_left
           ·intro u h; (try simp only [ls3]); go_simp; try with_reducible rfl
           try simp only [ls7, Act.put]
           refine wpU 8 ?_ rfl ?_ ?_
           rotate_left
           ·intro u h; (try simp only [ls3]); go_simp; try with_reducible rfl
           try simp only [ls7, Act.put]
           refine wpU 9 ?_ rfl ?_ ?_
           rotate_left
           ·intro u h; (try simp only [ls3]); go_simp; try with_reducible rfl
           try simp only [ls7, Act.put]
           refine wpAnyH_ready (rs := [10]) (by decide +kernel) (by simp) ?_
           refine AllReadyH.cons rfl (fun K hK => ?_) AllReadyH.nil
           (try simp only [ls3])
           go_simp
           refine Calls.mono (cIy.out _ hbX.out) ?_
           rintro e w5 ⟨rfl, hb4⟩
           replace i0 := cell_up i0 hb4
           replace i1 := cell_up i1 hb4
           replace i2 := cell_up i2 hb4
           replace i3 := cell_up i3 hb4
           replace i4 := cell_up i4 hb4
           replace i5 := cell_up i5 hb4
           replace i6 := cell_up i6 hb4
           replace i7 := cell_up i7 hb4
           replace i8 := cell_up i8 hb4
           replace i9 := cell_up i9 hb4
           replace i10 := cell_up i10 hb4
           replace i11 := cell_up i11 hb4
           replace k0 := cell_up k0 hb4
           replace k1 := cell_up k1 hb4
           replace k2 := cell_up k2 hb4
           replace k3 := cell_up k3 hb4
           replace k4 := cell_up k4 hb4
           replace k5 := cell_up k5 hb4
           replace k6 := cell_up k6 hb4
           replace k7 := cell_up k7 hb4
           replace k8 := cell_up k8 hb4
           replace k9 := cell_up k9 hb4
           replace k10 := cell_up k10 hb4
           replace k11 := cell_up k11 hb4
           replace hbX := Hd (below_up hbX.out hbXs hb4)
           clear hb4 hbXs
           have hbXs := hbX.out.size
           (try go_simp)
           refine hK.out _ _ (by go_keep) (fun hH => ?_)
           clear hK K
           try simp only [ls7, Act.put]
           refine wpU 11 ?_ rfl ?_ ?_
           rotate_left
           ·intro u h; (try simp only [ls3]); go_simp; try with_reducible rfl
           try simp only [ls7, Act.put]
           refine wpU 12 ?_ rfl ?_ ?_
           rotate_left
           ·intro u h; (try simp only [ls3]); go_simp; try with_reducible rfl
           try simp only [ls7, Act.put]
           refine wpU 13 ?_ rfl ?_ ?_
           rotate_left
           ·intro u h; (try simp only [ls3]); go_simp; try with_reducible rfl
           try simp only [ls7, Act.put]
           refine wpU 14 ?_ rfl ?_ ?_
           rotate_left
           ·intro u h; (try simp only [ls3]); go_simp; try with_reducible rfl
           try simp only [ls7, Act.put]
           refine wpU 15 ?_ rfl ?_ ?_
           rotate_left
           ·intro u h; (try simp only [ls3]); go_simp; try with_reducible rfl
           try simp only [ls7, Act.put]
           refine wpU 16 ?_ rfl ?_ ?_
           rotate_left
           ·intro u h; (try simp only [ls3]); go_simp; try with_reducible rfl
           try simp only [ls7, Act.put]
           refine wpU 18 ?_ rfl ?_ ?_
           rotate_left
           ·intro u h; (try simp only [ls3]); go_simp; try with_reducible rfl
           try simp only [ls7, Act.put]
           refine wpU 19 ?_ rfl ?_ ?_
           rotate_left
           ·intro u h; (try simp only [ls3]); go_simp; try with_reducible rfl
           try simp only [ls7, Act.put]
           refine wpU 20 ?_ rfl ?_ ?_
           rotate_left
           ·intro u h; (try simp only [ls3]); go_simp; try with_reducible rfl
           try simp only [ls7, Act.put]
           refine wpU 21 ?_ rfl ?_ ?_
           rotate_left
           ·intro u h; (try simp only [ls3]); go_simp; try with_reducible rfl
           try simp only [ls7, Act.put]
           refine wpU 24 ?_ rfl ?_ ?_
           rotate_left
           ·intro u h; (try simp only [ls3]); go_simp; try with_reducible rfl
           try simp only [ls7, Act.put]
           refine wpU 25 ?_ rfl ?_ ?_
           rotate_left
           ·intro u h; (try simp only [ls3]); go_simp; try with_reducible rfl
           try simp only [ls7, Act.put]
           refine wpU 26 ?_ rfl ?_ ?_
           rotate_left
           ·intro u h; (try simp only [ls3]); go_simp; try with_reducible rfl
           try simp only [ls7, Act.put]
           refine wpU 27 ?_ rfl ?_ ?_
           rotate_left
           ·intro u h; (try simp only [ls3]); go_simp; try with_reducible rfl
           try simp only [ls7, Act.put]
           refine wpU 29 ?_ rfl ?_ ?_
           rotate_left
           ·intro u h; (try simp only [ls3]); go_simp; try with_reducible rfl
           try simp only [ls7, Act.put]
           refine wpU 30 ?_ rfl ?_ ?_
           rotate_left
           ·intro u h; (try simp only [ls3]); go_simp; try with_reducible rfl
           try simp only [ls7, Act.put]
           refine wpU 31 ?_ rfl ?_ ?_
           rotate_left
           ·intro u h; (try simp only [ls3]); go_simp; try with_reducible rfl
           try simp only [ls7, Act.put]
           refine wpU 32 ?_ rfl ?_ ?_
           rotate_left
           ·intro u h; (try simp only [ls3]); go_simp; try with_reducible rfl
           try simp only [ls7, Act.put]
           refine wpAnyH_ready (rs := [17]) (by decide +kernel) (by simp) ?_
           refine AllReadyH.cons rfl (fun K hK => ?_) AllReadyH.nil
           (try simp only [ls3])
           go_simp
           refine Calls.mono (cLx.out _ hbX.out) ?_
           rintro e w5 ⟨rfl, hb4⟩
           replace i0 := cell_up i0 hb4
           replace i1 := cell_up i1 hb4
           replace i2 := cell_up i2 hb4
           replace i3 := cell_up i3 hb4
           replace i4 := cell_up i4 hb4
           replace i5 := cell_up i5 hb4
           replace i6 := cell_up i6 hb4
           replace i7 := cell_up i7 hb4
           replace i8 := cell_up i8 hb4
           replace i9 := cell_up i9 hb4
           replace i10 := cell_up i10 hb4
           replace i11 := cell_up i11 hb4
           replace k0 := cell_up k0 hb4
           replace k1 := cell_up k1 hb4
           replace k2 := cell_up k2 hb4
           replace k3 := cell_up k3 hb4
           replace k4 := cell_up k4 hb4
           replace k5 := cell_up k5 hb4
           replace k6 := cell_up k6 hb4
           replace k7 := cell_up k7 hb4
           replace k8 := cell_up k8 hb4
           replace k9 := cell_up k9 hb4
           replace k10 := cell_up k10 hb4
           replace k11 := cell_up k11 hb4
           replace hbX := Hd (below_up hbX.out hbXs hb4)
           clear hb4 hbXs
           have hbXs := hbX.out.size
           (try go_simp)
           refine hK.out _ _ (by go_keep) (fun hH => ?_)
           clear hK K
           try simp only [ls7, Act.put]
           refine wpAnyH_ready (rs := [22]) (by decide +kernel) (by simp) ?_
           refine AllReadyH.cons rfl (fun K hK => ?_) AllReadyH.nil
           (try simp only [ls3])
           go_simp
           refine Calls.mono (cLy.out _ hbX.out) ?_
           rintro e w5 ⟨rfl, hb4⟩
           replace i0 := cell_up i0 hb4
           replace i1 := cell_up i1 hb4
           replace i2 := cell_up i2 hb4
           replace i3 := cell_up i3 hb4
           replace i4 := cell_up i4 hb4
           replace i5 := cell_up i5 hb4
           replace i6 := cell_up i6 hb4
           replace i7 := cell_up i7 hb4
           replace i8 := cell_up i8 hb4
           replace i9 := cell_up i9 hb4
           replace i10 := cell_up i10 hb4
           replace i11 := cell_up i11 hb4
           replace k0 := cell_up k0 hb4
           replace k1 := cell_up k1 hb4
           replace k2 := cell_up k2 hb4
           replace k3 := cell_up k3 hb4
           replace k4 := cell_up k4 hb4
           replace k5 := cell_up k5 hb4
           replace k6 := cell_up k6 hb4
           replace k7 := cell_up k7 hb4
           replace k8 := cell_up k8 hb4
           replace k9 := cell_up k9 hb4
           replace k10 := cell_up k10 hb4
           replace k11 := cell_up k11 hb4
           replace hbX := Hd (below_up hbX.out hbXs hb4)
           clear hb4 hbXs
           have hbXs := hbX.out.size
           (try go_simp)
           refine hK.out _ _ (by go_keep) (fun hH => ?_)
           clear hK K
           try simp only [ls7, Act.put]
           refine wpU 23 ?_ rfl ?_ ?_
           rotate_left
           ·intro u h; (try simp only [ls3]); go_simp; try with_reducible rfl
           try simp only [ls7, Act.put]
           refine wpAnyH_ready (rs := [28]) (by decide +kernel) (by simp) ?_
           refine AllReadyH.cons rfl (fun K hK => ?_) AllReadyH.nil
           (try simp only [ls3])
           go_simp
           refine Calls.mono (cFx.out _ hbX.out) ?_
           rintro e w5 ⟨rfl, hb4⟩
           replace i0 := cell_up i0 hb4
           replace i1 := cell_up i1 hb4
           replace i2 := cell_up i2 hb4
           replace i3 := cell_up i3 hb4
           replace i4 := cell_up i4 hb4
           replace i5 := cell_up i5 hb4
           replace i6 := cell_up i6 hb4
           replace i7 := cell_up i7 hb4
           replace i8 := cell_up i8 hb4
           replace i9 := cell_up i9 hb4
           replace i10 := cell_up i10 hb4
           replace i11 := cell_up i11 hb4
           replace k0 := cell_up k0 hb4
           replace k1 := cell_up k1 hb4
           replace k2 := cell_up k2 hb4
           replace k3 := cell_up k3 hb4
           replace k4 := cell_up k4 hb4
           replace k5 := cell_up k5 hb4
           replace k6 := cell_up k6 hb4
           replace k7 := cell_up k7 hb4
           replace k8 := cell_up k8 hb4
           replace k9 := cell_up k9 hb4
           replace k10 := cell_up k10 hb4
           replace k11 := cell_up k11 hb4
           replace hbX := Hd (below_up hbX.out hbXs hb4)
           clear hb4 hbXs
           have hbXs := hbX.out.size
           (try go_simp)
           refine hK.out _ _ (by go_keep) (fun hH => ?_)
           clear hK K
           try simp only [ls7, Act.put]
           refine wpAnyH_ready (rs := [33]) (by decide +kernel) (by simp) ?_
           refine AllReadyH.cons rfl (fun K hK => ?_) AllReadyH.nil
           (try simp only [ls3])
           go_simp
           refine Calls.mono (cFy.out _ hbX.out) ?_
           rintro e w5 ⟨rfl, hb4⟩
           replace i0 := cell_up i0 hb4
           replace i1 := cell_up i1 hb4
           replace i2 := cell_up i2 hb4
           replace i3 := cell_up i3 hb4
           replace i4 := cell_up i4 hb4
           replace i5 := cell_up i5 hb4
           replace i6 := cell_up i6 hb4
           replace i7 := cell_up i7 hb4
           replace i8 := cell_up i8 hb4
           replace i9 := cell_up i9 hb4
           replace i10 := cell_up i10 hb4
           replace i11 := cell_up i11 hb4
           replace k0 := cell_up k0 hb4
           replace k1 := cell_up k1 hb4
           replace k2 := cell_up k2 hb4
           replace k3 := cell_up k3 hb4
           replace k4 := cell_up k4 hb4
           replace k5 := cell_up k5 hb4
           replace k6 := cell_up k6 hb4
           replace k7 := cell_up k7 hb4
           replace k8 := cell_up k8 hb4
           replace k9 := cell_up k9 hb4
           replace k10 := cell_up k10 hb4
           replace k11 := cell_up k11 hb4
           replace hbX := Hd (below_up hbX.out hbXs hb4)
           clear hb4 hbXs
           have hbXs := hbX.out.size
           (try go_simp)
           refine hK.out _ _ (by go_keep) (fun hH => ?_)
           clear hK K
           try simp only [ls7, Act.put]
           refine wpAnyH_ready (rs := [34]) (by decide +kernel) (by simp) ?_
           refine AllReadyH.cons rfl (fun K hK => ?_) AllReadyH.nil
           (try simp only [ls3])
           go_simp
           refine Calls.mono (cS.out _ hbX.out) ?_
           rintro e w5 ⟨rfl, hb4⟩
           replace i0 := cell_up i0 hb4
           replace i1 := cell_up i1 hb4
           replace i2 := cell_up i2 hb4
           replace i3 := cell_up i3 hb4
           replace i4 := cell_up i4 hb4
           replace i5 := cell_up i5 hb4
           replace i6 := cell_up i6 hb4
           replace i7 := cell_up i7 hb4
           replace i8 := cell_up i8 hb4
           replace i9 := cell_up i9 hb4
           replace i10 := cell_up i10 hb4
           replace i11 := cell_up i11 hb4
           replace k0 := cell_up k0 hb4
           replace k1 := cell_up k1 hb4
           replace k2 := cell_up k2 hb4
           replace k3 := cell_up k3 hb4
           replace k4 := cell_up k4 hb4
           replace k5 := cell_up k5 hb4
           replace k6 := cell_up k6 hb4
           replace k7 := cell_up k7 hb4
           replace k8 := cell_up k8 hb4
           replace k9 := cell_up k9 hb4
           replace k10 := cell_up k10 hb4
           replace k11 := cell_up k11 hb4
           replace hbX := Hd (below_up hbX.out hbXs hb4)
           clear hb4 hbXs
           have hbXs := hbX.out.size
           (try go_simp)
           refine hK.out _ _ (by go_keep) (fun hH => ?_)
           clear hK K
           try simp only [ls7, Act.put]
           refine wpU 35 ?_ rfl ?_ ?_
           rotate_left
           ·intro u h; (try simp only [ls3]); go_simp; try with_reducible rfl
           try simp only [ls7, Act.put]
           refine wpU 36 ?_ rfl ?_ ?_
           rotate_left
           ·intro u h; (try simp only [ls3]); go_simp; try with_reducible rfl
           try simp only [ls7, Act.put]
           refine wpAnyH_done (by decide +kernel) ?_ _
           have hfin := Hd (hb2.out.trans (hbX.out.mono hb2s))
           clear i0 k0 i1 k1 i2 k2 i3 k3 i4 k4 i5 k5 i6 k6 i7 k7 i8 k8 i9 k9 i10 k10 i11 k11 hbX hbXs
           go_wp2_with fail
           go_roundw
           case rel => exact ⟨kk + 1, by omega, by go_num, hfin.out⟩
           case measure => simp [intOf]; omega
      ·obtain rfl : kk = i := by omega
       have hnew := Hd (fun (o : OpD) (ho : o ∈ os.take (kk + 1)) => show greatF o = false by
        rw [hst.out] at ho
        rcases List.mem_append.1 ho with h | h
        ·exact hgr.out o h
        ·rw [List.mem_singleton.1 h]; exact hgx.out)
       have hball := Hd (below_up hb.out hb4s hb2)
       clear hb2 hgr hst i0 i1 i2 i3 i4 i5 i6 i7 i8 i9 i10 i11
       go_wp2_with fail
       go_roundw
       case rel => exact ⟨kk + 1, by omega, by go_num, hnew.out, hball.out⟩
       case measure => simp [intOf]; omega
  ·obtain rfl : i = n := by omega
   have hto : os.take i = os := List.take_of_length_le (by rw [hn.out]; exact Nat.le_refl _)
   rw [hto] at hgr
   have hsm : ∀ o ∈ os, OpSmall o := fun o ho => (great_small (hos.out o ho).1 (hos.out o ho).2 (hgr o ho)).1
   have hlen4 : os.length ≤ 4096 := by rw [hn.out]; omega
   have cT := tells_c os hlen4 hsm _ wr (hin0.out.below hb) (hg.on hb)
   have hbr := Hd hb
   rw [hn.out] at hlen4
   rcases texts_cases os with ht | ⟨ht, hall⟩
   ·rw [ht] at cT
    dsimp only at cT
    replace cT := Hd cT
    clear hsm hgr hb hto ht
    go_wp2_with fail
    refine cT.out.mono ?_
    rintro e w4 ⟨rfl, hb4⟩
    have hfin := Hd (below_up hbr.out hbz hb4)
    have e1 : ((text []).toList == []) = true := by rw [str_empty, byts_text]; rfl
    clear hb4 hbr cT
    go_wp2_with fail
    go_ret
    exact ⟨rfl, hfin.out⟩
   ·rw [ht] at cT
    dsimp only at cT
    replace cT := Hd cT
    have hfl := flatF_le os (fun o ho => (hos.out o ho).1)
    rw [hn.out] at hfl
    have hrb := reads_back os (fun o ho => ⟨(hos.out o ho).1, hall o ho⟩) (by rw [hn.out]; exact hlen4)
    have cR := fun w' (hg : GlobT w') => reads_c (flatF os) (flat_lines os fun o ho => (hos.out o ho).1) (by omega) w' hg
    rw [hrb] at cR
    dsimp only at cR
    rw [hn.out] at cR
    replace cR := Hd cR
    replace hgr := Hd hgr
    clear hsm hb hto ht hrb hfl hall
    go_wp2_with fail
    refine cT.out.mono ?_
    rintro e w4 ⟨rfl, hb4⟩
    have hb5 := Hd (below_up hbr.out hbz hb4)
    have cR5 := Hd (cR.out w4 (hg.on hb5.out))
    clear hb4 hbr cT cR
    have hb5s := hb5.out.size
    go_wp2_with fail
    refine cR5.out.mono ?_
    rintro e w5 ⟨⟨ra, rc, rfl, hO⟩, hb6⟩
    have hRow5 := OwnO.in hO
    rw [hn.out] at hRow5
    replace hRow5 := Hd hRow5
    have hb7 := Hd (below_up hb5.out hb5s hb6)
    clear hb6 hb5 hb5s cR5 hO
    have hb7s := hb7.out.size
    go_wp2_with fail
    go_loopw [13] (fun t wr => ∃ j : Nat, j ≤ i ∧ t = .int .i64 j ∧ InOps wr (.slice ra i rc) os ∧ Below w5.heap.size w5 wr) (fun t _ => i - (intOf t).toNat)
    case atStart => exact ⟨0, Nat.zero_le _, rfl, hRow5.out, Below.refl _ _⟩
    case round =>
     clear hRow5
     obtain ⟨j, hj, rfl, hRow, hb2⟩ := hrel
     have hb2s := hb2.size
     have hball := below_up hb7.out hb7s hb2
     by_cases hlj : j < i
     ·have hjo : j < os.length := by rw [hn.out]; exact hlj
      obtain ⟨g, o, s, t, rfl, hgz, hop, i0, i1, i2, i3, i4, i5, i6, i7, i8, i9, i10, i11⟩ := (hin0.out.below hball).at j hjo
      obtain ⟨xa, xc, rfl, _⟩ := id hop.1
      obtain ⟨xb, xd, rfl, _⟩ := id hop.2
      obtain ⟨g2, o2, s, t, rfl, hgz2, hoq, k0, k1, k2, k3, k4, k5, k6, k7, k8, k9, k10, k11⟩ := hRow.at j hjo
      obtain ⟨ya, yc, rfl, _⟩ := id hoq.1
      obtain ⟨yb, yd, rfl, _⟩ := id hoq.2
      have hltJ : (j : Int) < (i : Int) := by omega
      have hok := hos.out os[j] (List.getElem_mem hjo)
      have hgx := hgr.out os[j] (List.getElem_mem hjo)
      generalize os[j] = x at *
      obtain ⟨hsx, hx1, hx2, hx3, hx4⟩ := great_small hok.1 hok.2 hgx
      have cFx := fun w' (h : Below wr.heap.size wr w') => formL_c x _ _ w' (hoq.below h)
      have cFy := fun w' (h : Below wr.heap.size wr w') => formL_c x _ _ w' (hop.below h)
      have cS := fun w' (h : Below wr.heap.size wr w') => sameL_c x x (by omega) (by omega) (fun p hp => by have := hx3 p hp; omega) (fun p hp => by have := hx4 p hp; omega) _ _ _ _ w' (hoq.below h) (hop.below h)
      rw [(sameD_iff x x).2 rfl] at cS
      unfold opv at cFx cFy cS
      replace cFx := Hd cFx
      replace cFy := Hd cFy
      replace cS := Hd cS
      replace hb2 := Hd hb2
      replace hRow := Hd hRow
      have hbX := Hd (below_drewed (Below.refl wr.heap.size wr))
      have hbXs := hbX.out.size
      clear hop hoq hgz hgz2 hok hgx hball
      go_wp2_with fail
      refine wp_region_held_at (S := fun w1 => w1.cell? ⟨g, o + j * 12, none⟩ = some (.int .i64 x.K) ∧ w1.cell? ⟨g, o + j * 12 + 1, none⟩ = some (.int .u64 x.E) ∧ w1.cell? ⟨g, o + j * 12 + 2, none⟩ = some (.int .i64 x.C) ∧ w1.cell? ⟨g, o + j * 12 + 3, none⟩ = some (.slice xa x.P.length xc) ∧ w1.cell? ⟨g, o + j * 12 + 4, none⟩ = some (.int .u32 x.A) ∧ w1.cell? ⟨g, o + j * 12 + 5, none⟩ = some (.int .u32 x.N) ∧ w1.cell? ⟨g, o + j * 12 + 6, none⟩ = some (.int .i64 x.cK) ∧ w1.cell? ⟨g, o + j * 12 + 7, none⟩ = some (.int .u64 x.cE) ∧ w1.cell? ⟨g, o + j * 12 + 8, none⟩ = some (.int .i64 x.cC) ∧ w1.cell? ⟨g, o + j * 12 + 9, none⟩ = some (.slice xb x.cP.length xd) ∧ w1.cell? ⟨g, o + j * 12 + 10, none⟩ = some (.int .i64 x.U) ∧ w1.cell? ⟨g, o + j * 12 + 11, none⟩ = some (.string x.B) ∧ w1.cell? ⟨g2, o2 + j * 12, none⟩ = some (.int .i64 x.K) ∧ w1.cell? ⟨g2, o2 + j * 12 + 1, none⟩ = some (.int .u64 x.E) ∧ w1.cell? ⟨g2, o2 + j * 12 + 2, none⟩ = some (.int .i64 x.C) ∧ w1.cell? ⟨g2, o2 + j * 12 + 3, none⟩ = some (.slice ya x.P.length yc) ∧ w1.cell? ⟨g2, o2 + j * 12 + 4, none⟩ = some (.int .u32 x.A) ∧ w1.cell? ⟨g2, o2 + j * 12 + 5, none⟩ = some (.int .u32 x.N) ∧ w1.cell? ⟨g2, o2 + j * 12 + 6, none⟩ = some (.int .i64 x.cK) ∧ w1.cell? ⟨g2, o2 + j * 12 + 7, none⟩ = some (.int .u64 x.cE) ∧ w1.cell? ⟨g2, o2 + j * 12 + 8, none⟩ = some (.int .i64 x.cC) ∧ w1.cell? ⟨g2, o2 + j * 12 + 9, none⟩ = some (.slice yb x.cP.length yd) ∧ w1.cell? ⟨g2, o2 + j * 12 + 10, none⟩ = some (.int .i64 x.U) ∧ w1.cell? ⟨g2, o2 + j * 12 + 11, none⟩ = some (.string x.B)) 12 rfl (by kernel_rfl) (by go_keep) (fun hH => ?_)
      refine wpU 0 ?_ rfl ?_ ?_
      rotate_left
      ·intro u h; (try simp only [ls3]); go_simp; try with_reducible rfl
      try simp only [ls7, Act.put]
      refine wpU 1 ?_ rfl ?_ ?_
      rotate_left
      ·intro u h; (try simp only [ls3]); go_simp; try with_reducible rfl
      try simp only [ls7, Act.put]
      refine wpU 2 ?_ rfl ?_ ?_
      rotate_left
      ·intro u h; (try simp only [ls3]); go_simp; try with_reducible rfl
      try simp only [ls7, Act.put]
      refine wpU 3 ?_ rfl ?_ ?_
      rotate_left
      ·intro u h; (try simp only [ls3]); go_simp; try with_reducible rfl
      try simp only [ls7, Act.put]
      refine wpU 5 ?_ rfl ?_ ?_
      rotate_left
      ·intro u h; (try simp only [ls3]); go_simp; try with_reducible rfl
      try simp only [ls7, Act.put]
      refine wpU 6 ?_ rfl ?_ ?_
      rotate_left
      ·intro u h; (try simp only [ls3]); go_simp; try with_reducible rfl
      try simp only [ls7, Act.put]
      refine wpU 7 ?_ rfl ?_ ?_
      rotate_left
      ·intro u h; (try simp only [ls3]); go_simp; try with_reducible rfl
      try simp only [ls7, Act.put]
      refine wpU 8 ?_ rfl ?_ ?_
      rotate_left
      ·intro u h; (try simp only [ls3]); go_simp; try with_reducible rfl
      try simp only [ls7, Act.put]
      refine wpAnyH_ready (rs := [4]) (by decide +kernel) (by simp) ?_
      refine AllReadyH.cons rfl (fun K hK => ?_) AllReadyH.nil
      (try simp only [ls3])
      go_simp
      refine Calls.mono (cFx.out _ (below_drewed (Below.refl _ _))) ?_
      rintro e w5 ⟨rfl, hb4⟩
      replace i0 := cell_up i0 (below_d (w := wr) hb4)
      replace i1 := cell_up i1 (below_d (w := wr) hb4)
      replace i2 := cell_up i2 (below_d (w := wr) hb4)
      replace i3 := cell_up i3 (below_d (w := wr) hb4)
      replace i4 := cell_up i4 (below_d (w := wr) hb4)
      replace i5 := cell_up i5 (below_d (w := wr) hb4)
      replace i6 := cell_up i6 (below_d (w := wr) hb4)
      replace i7 := cell_up i7 (below_d (w := wr) hb4)
      replace i8 := cell_up i8 (below_d (w := wr) hb4)
      replace i9 := cell_up i9 (below_d (w := wr) hb4)
      replace i10 := cell_up i10 (below_d (w := wr) hb4)
      replace i11 := cell_up i11 (below_d (w := wr) hb4)
      replace k0 := cell_up k0 (below_d (w := wr) hb4)
      replace k1 := cell_up k1 (below_d (w := wr) hb4)
      replace k2 := cell_up k2 (below_d (w := wr) hb4)
      replace k3 := cell_up k3 (below_d (w := wr) hb4)
      replace k4 := cell_up k4 (below_d (w := wr) hb4)
      replace k5 := cell_up k5 (below_d (w := wr) hb4)
      replace k6 := cell_up k6 (below_d (w := wr) hb4)
      replace k7 := cell_up k7 (below_d (w := wr) hb4)
      replace k8 := cell_up k8 (below_d (w := wr) hb4)
      replace k9 := cell_up k9 (below_d (w := wr) hb4)
      replace k10 := cell_up k10 (below_d (w := wr) hb4)
      replace k11 := cell_up k11 (below_d (w := wr) hb4)
      replace hbX := Hd (below_d (w := wr) hb4)
      clear hb4 hbXs
      have hbXs := hbX.out.size
      (try go_simp)
      refine hK.out _ _ (by go_keep) (fun hH => ?_)
      clear hK K
      try simp only [ls7, Act.put]
      refine wpAnyH_ready (rs := [9]) (by decide +kernel) (by simp) ?_
      refine AllReadyH.cons rfl (fun K hK => ?_) AllReadyH.nil
      (try simp only [ls3])
      go_simp
      refine Calls.mono (cFy.out _ hbX.out) ?_
      rintro e w5 ⟨rfl, hb4⟩
      replace i0 := cell_up i0 hb4
      replace i1 := cell_up i1 hb4
      replace i2 := cell_up i2 hb4
      replace i3 := cell_up i3 hb4
      replace i4 := cell_up i4 hb4
      replace i5 := cell_up i5 hb4
      replace i6 := cell_up i6 hb4
      replace i7 := cell_up i7 hb4
      replace i8 := cell_up i8 hb4
      replace i9 := cell_up i9 hb4
      replace i10 := cell_up i10 hb4
      replace i11 := cell_up i11 hb4
      replace k0 := cell_up k0 hb4
      replace k1 := cell_up k1 hb4
      replace k2 := cell_up k2 hb4
      replace k3 := cell_up k3 hb4
      replace k4 := cell_up k4 hb4
      replace k5 := cell_up k5 hb4
      replace k6 := cell_up k6 hb4
      replace k7 := cell_up k7 hb4
      replace k8 := cell_up k8 hb4
      replace k9 := cell_up k9 hb4
      replace k10 := cell_up k10 hb4
      replace k11 := cell_up k11 hb4
      replace hbX := Hd (below_up hbX.out hbXs hb4)
      clear hb4 hbXs
      have hbXs := hbX.out.size
      (try go_simp)
      refine hK.out _ _ (by go_keep) (fun hH => ?_)
      clear hK K
      try simp only [ls7, Act.put]
      refine wpAnyH_ready (rs := [10]) (by decide +kernel) (by simp) ?_
      refine AllReadyH.cons rfl (fun K hK => ?_) AllReadyH.nil
      (try simp only [ls3])
      go_simp
      refine Calls.mono (cS.out _ hbX.out) ?_
      rintro e w5 ⟨rfl, hb4⟩
      replace i0 := cell_up i0 hb4
      replace i1 := cell_up i1 hb4
      replace i2 := cell_up i2 hb4
      replace i3 := cell_up i3 hb4
      replace i4 := cell_up i4 hb4
      replace i5 := cell_up i5 hb4
      replace i6 := cell_up i6 hb4
      replace i7 := cell_up i7 hb4
      replace i8 := cell_up i8 hb4
      replace i9 := cell_up i9 hb4
      replace i10 := cell_up i10 hb4
      replace i11 := cell_up i11 hb4
      replace k0 := cell_up k0 hb4
      replace k1 := cell_up k1 hb4
      replace k2 := cell_up k2 hb4
      replace k3 := cell_up k3 hb4
      replace k4 := cell_up k4 hb4
      replace k5 := cell_up k5 hb4
      replace k6 := cell_up k6 hb4
      replace k7 := cell_up k7 hb4
      replace k8 := cell_up k8 hb4
      replace k9 := cell_up k9 hb4
      replace k10 := cell_up k10 hb4
      replace k11 := cell_up k11 hb4
      replace hbX := Hd (below_up hbX.out hbXs hb4)
      clear hb4 hbXs
      have hbXs := hbX.out.size
      (try go_simp)
      refine hK.out _ _ (by go_keep) (fun hH => ?_)
      clear hK K
      try simp only [ls7, Act.put]
      refine wpU 11 ?_ rfl ?_ ?_
      rotate_left
      ·intro u h; (try simp only [ls3]); go_simp; try with_reducible rfl
      try simp only [ls7, Act.put]
      refine wpAnyH_done (by decide +kernel) ?_ _
      have hfin := Hd (hb2.out.trans (hbX.out.mono hb2s))
      replace hRow := Hd (hRow.out.below hbX.out)
      clear i0 k0 i1 k1 i2 k2 i3 k3 i4 k4 i5 k5 i6 k6 i7 k7 i8 k8 i9 k9 i10 k10 i11 k11 hbX hbXs
      go_wp2_with fail
      go_roundw
      case rel => exact ⟨j + 1, by omega, by go_num, hRow.out, hfin.out⟩
      case measure => simp [intOf]; omega
     ·obtain rfl : j = i := by omega
      replace hball := Hd hball
      clear hb2 hRow
      go_wp2_with fail
      go_ret
      exact ⟨rfl, hball.out⟩
theorem taleBack_c (os : List OpD) (hos0 : ∀ o ∈ os, o.Ok ∧ o.B.size ≤ maxLen) (v : Value) (ln : ByteArray) (w : World) (hinA : InOps w v os) (hg : GlobT w) :
 Calls Tryz.prog 5 #[v, .string ln] w fun e w' => e = .returned (.bool true) ∧ Below w.heap.size w w' := by
 rcases parse_cases (byts ln) with h | ⟨h0, h1, h2⟩
 ·exact taleBackA os hos0 v ln w hinA hg h
 ·refine taleBackB os hos0 v ln w hinA hg ⟨h0, h1, h2, fun hs => ?_⟩
  have hl : byts ln ≠ [] := by
   intro e
   rw [← h2] at e
   exact line_ne h1 e
  have hp : (parseOF (byts ln)).1 = guessF (byts ln) := by
   unfold parseOF at h0 ⊢
   split
   ·rename_i hh
    rw [if_pos hh] at h0
    exact absurd h0 (by decide)
   ·rfl
  rw [hp]
  exact guess_small (byts ln) (by rw [byts_length]; omega)
end Go.Proofs.YtjjgbillihedgaaGreatDoor
