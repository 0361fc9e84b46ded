/- parts of the proof, merged: TlQ2 -/
import Derived.Test.YtjjgbillihedgaaGreatDoorQy33
import Derived.Test.YtjjgbillihedgaaGreatDoorQy42
set_option linter.unusedSimpArgs false
set_option linter.unusedVariables false
set_option maxHeartbeats 64000000
set_option maxRecDepth 100000
namespace Go.Proofs.YtjjgbillihedgaaGreatDoor
open Go.RowKit
open Rf
open Sg
open Wide
open Tl
namespace Tl
theorem below_d2 {w w' : World} {k : Nat} (h : Below (w.drewN k).heap.size (w.drewN k) w') : Below w.heap.size w w' := (below_drewN (Below.refl _ _)).trans h
end Tl
theorem taleTexts_c (os : List OpD) (hos : ∀ o ∈ os, o.Ok ∧ o.B.size ≤ maxLen) (v : Value) (tx : ByteArray) (w : World) (hin : InOps w v os) (hg : GlobT w) :
 Calls Tryz.prog 4 #[v, .string tx] w fun e w' => e = .returned (.bool true) ∧ Below w.heap.size w w' := by
 obtain ⟨n, hn⟩ : ∃ n, os.length = n := ⟨_, rfl⟩
 obtain ⟨va, vc, rfl, _⟩ := id hin
 rw [hn] at hin ⊢
 have cA := awakeT_c w hg
 replace cA := Hd cA
 replace hin := Hd hin
 replace hg := Hd hg
 replace hos := Hd hos
 replace hn := Hd hn
 go_enter Tryz.func4, Tryz.ntmps4
 go_wp2_with fail
 refine cA.out.mono ?_
 rintro e w1 ⟨rfl, hbA⟩
 replace hbA := Hd hbA
 clear cA
 by_cases h40 : 40 < n
 ·have p1 : decide ((40 : Int) < (n : Int)) = true := decide_eq_true (by omega)
  have pI : (40 : Int) < (n : Int) := by omega
  go_wp2_with fail
  go_ret
  exact ⟨rfl, hbA.out⟩
 have p1 : decide ((40 : Int) < (n : Int)) = false := decide_eq_false (by omega)
 have p1I : ¬ (40 : Int) < (n : Int) := by omega
 by_cases h81 : 8192 < tx.size
 ·have p2 : decide ((8192 : Int) < (tx.size : Int)) = true := decide_eq_true (by omega)
  have pI : (8192 : Int) < (tx.size : Int) := by omega
  go_wp2_with fail
  go_ret
  exact ⟨rfl, hbA.out⟩
 have p2 : decide ((8192 : Int) < (tx.size : Int)) = false := decide_eq_false (by omega)
 have p2I : ¬ (8192 : Int) < (tx.size : Int) := by omega
 go_wp2_with fail
 go_loopw [5, 6, 7] (fun s5 s6 s7 wr => ∃ i : Nat, i ≤ n ∧ s7 = .int .i64 i ∧ s5 = .string (text (flatF (os.take i))) ∧ s6 = .bool ((os.take i).all isOpF) ∧ (∀ o ∈ os.take i, greatF o = false) ∧ Below w.heap.size w wr) (fun _ _ s7 _ => n - (intOf s7).toNat)
 case atStart => exact ⟨0, Nat.zero_le _, rfl, rfl, rfl, by simp, hbA.out⟩
 case round =>
  clear hbA p1 p1I p2 p2I
  obtain ⟨i, hi, rfl, rfl, rfl, hgr, hb⟩ := hrel
  have hbs := hb.size
  by_cases hlt : i < n
  ·have hio : i < os.length := by rw [hn.out]; exact hlt
   have hin0 : InOps w (.slice va os.length vc) os := by rw [hn.out]; exact hin.out
   obtain ⟨g, o, s, t, rfl, hgz, hop, i0, i1, i2, i3, i4, i5, i6, i7, i8, i9, i10, i11⟩ := (hin0.below hb).at i hio
   obtain ⟨xa, xc, rfl, _⟩ := id hop.1
   obtain ⟨xb, xd, rfl, _⟩ := id hop.2
   have hltI : (i : Int) < (n : Int) := by omega
   have hst : os.take (i + 1) = os.take i ++ [os[i]] := List.take_succ_eq_append_getElem hio
   have hok := hos.out os[i] (List.getElem_mem hio)
   have hfl := flatF_le (os.take i) (fun o ho => (hos.out o (List.mem_of_mem_take ho)).1)
   rw [List.length_take] at hfl
   obtain ⟨T, hT⟩ : ∃ x, text (flatF (os.take i)) = x := ⟨_, rfl⟩
   obtain ⟨gd, hgd⟩ : ∃ x, (os.take i).all isOpF = x := ⟨_, rfl⟩
   rw [hT, hgd]
   have hTs : T.size ≤ 4000000 := by
    rw [← hT, text_size]
    have : min i os.length ≤ 40 := by omega
    have := Nat.mul_le_mul_left 99501 this
    omega
   have hnt : ∀ x : OpD, os[i] = x → text (flatF (os.take (i + 1))) = T ++ text (lineF x) ++ ⟨#[10]⟩ := fun x hx => by
    rw [hst, hx, ← hT]
    unfold flatF
    have e1 : List.flatMap (fun o => lineF o ++ [10]) [x] = lineF x ++ [10] := by simp
    rw [List.flatMap_append, e1, ← text_append, ← text_append, ← ByteArray.append_assoc]
    rfl
   have hng : ∀ x : OpD, os[i] = x → (os.take (i + 1)).all isOpF = (gd && isOpF x) := fun x hx => by
    rw [hst, hx, ← hgd]
    simp
   have hnr : ∀ x : OpD, os[i] = x → greatF x = false → ∀ o ∈ os.take (i + 1), greatF o = false := fun x hx hg0 o ho => by
    rw [hst, hx] at ho
    rcases List.mem_append.1 ho with h | h
    ·exact hgr o h
    ·rw [List.mem_singleton.1 h]; exact hg0
   obtain ⟨x, hx⟩ : ∃ x, os[i] = x := ⟨_, rfl⟩
   rw [hx] at i0 i1 i2 i3 i4 i5 i6 i7 i8 i9 i10 i11 hop hok
   replace hnt := Hd (hnt x hx)
   replace hng := Hd (hng x hx)
   replace hnr := Hd (hnr x hx)
   have hll := line_le x hok.1
   have cG := great_c x _ _ wr hop
   unfold opv at cG
   replace cG := Hd cG
   replace hb := Hd hb
   replace hop := Hd hop
   clear hst hx hgr hT hgd hin0 hfl
   go_wp2_with fail
   refine cG.out.mono ?_
   rintro e w4 ⟨rfl, hb4⟩
   have hbB := Hd (below_up hb.out hbs hb4)
   replace hop := Hd (hop.out.below hb4)
   replace i0 := cell_up i0 hb4
   replace i1 := cell_up i1 hb4
   replace i2 := cell_up i2 hb4
   replace i3 := cell_up i3 hb4
   replace i4 := cell_up i4 hb4
   replace i5 := cell_up i5 hb4
   replace i6 := cell_up i6 hb4
   replace i7 := cell_up i7 hb4
   replace i8 := cell_up i8 hb4
   replace i9 := cell_up i9 hb4
   replace i10 := cell_up i10 hb4
   replace i11 := cell_up i11 hb4
   have hbBs := hbB.out.size
   clear hb4 hb cG hbs
   cases hgx : greatF x with
   | true =>
     clear i0 i1 i2 i3 i4 i5 i6 i7 i8 i9 i10 i11
     go_wp2_with fail
     go_ret
     exact ⟨rfl, hbB.out⟩
   | false =>
     obtain ⟨hsx, hx1, hx2, hx3, hx4⟩ := great_small hok.1 hok.2 hgx
     have hnr2 := Hd (hnr.out hgx)
     clear hnr hgx hx1 hx2 hx3 hx4 hok
     go_upto_region 12 with fail
     go_cut [6] (fun s6 wx => s6 = .bool (gd && isOpF x) ∧ Below w4.heap.size w4 wx)
     case first =>
      cases gd with
      | false =>
        go_wp2_with fail
        go_meet
        exact ⟨rfl, Below.refl _ _⟩
      | true =>
        have cF := formL_c x _ _ w4 hop.out
        unfold opv at cF
        replace cF := Hd cF
        go_wp2_with fail
        refine cF.out.mono ?_
        rintro e w5 ⟨rfl, hb5⟩
        have cI := ris_c x hsx _ _ w5 (hop.out.below hb5)
        unfold opv at cI
        replace cI := Hd cI
        have hbs := hb5.size
        replace hb5 := Hd hb5
        clear i0 i1 i2 i3 i4 i5 i6 i7 i8 i9 i10 i11 cF
        go_wp2_with fail
        refine cI.out.mono ?_
        rintro e w6 ⟨rfl, hb6⟩
        have hfin := Hd (below_up hb5.out hbs hb6)
        clear hb6 cI
        go_wp2_with fail
        go_meet
        exact ⟨by rw [Bool.true_and], hfin.out⟩
     case rest =>
      obtain ⟨rfl, hbC⟩ := hcut
      replace i0 := cell_up i0 hbC
      replace i1 := cell_up i1 hbC
      replace i2 := cell_up i2 hbC
      replace i3 := cell_up i3 hbC
      replace i4 := cell_up i4 hbC
      replace i5 := cell_up i5 hbC
      replace i6 := cell_up i6 hbC
      replace i7 := cell_up i7 hbC
      replace i8 := cell_up i8 hbC
      replace i9 := cell_up i9 hbC
      replace i10 := cell_up i10 hbC
      replace i11 := cell_up i11 hbC
      have hopc := hop.out.below hbC
      have hbD := Hd (below_up hbB.out hbBs hbC)
      have hbDs := hbD.out.size
      have cF := formL_c x _ _ wc hopc
      unfold opv at cF
      replace cF := Hd cF
      replace hopc := Hd hopc
      clear hbC hbB hbBs hop
      go_wp2_with fail
      refine cF.out.mono ?_
      rintro e w5 ⟨rfl, hb5⟩
      have cL := rline_c x hsx _ _ w5 (hopc.out.below hb5)
      unfold opv at cL
      have hbE := Hd (below_up hbD.out hbDs hb5)
      have hbEs := hbE.out.size
      clear i0 i1 i2 i3 i4 i5 i6 i7 i8 i9 i10 i11 cF hb5 hbD hbDs hopc hsx
      obtain ⟨L, hL⟩ : ∃ l, text (lineF x) = l := ⟨_, rfl⟩
      have hLs : L.size ≤ 99500 := by rw [← hL, text_size]; exact hll
      rw [hL] at cL hnt
      replace cL := Hd cL
      have q1 : ¬ 9223372036854775807 < T.size + L.size := by omega
      have q2 : ¬ 9223372036854775807 < T.size + L.size + 1 := by omega
      clear hL hll hTs hLs
      go_wp2_with fail
      refine cL.out.mono ?_
      rintro e w6 ⟨rfl, hb6⟩
      have hbF := Hd (below_up hbE.out hbEs hb6)
      clear hb6 cL
      go_wp2_with fail
      go_roundw
      case rel => exact ⟨i + 1, by omega, by go_num, by rw [hnt.out], by rw [hng.out], hnr2.out, hbF.out⟩
      case measure => simp [intOf]; omega
  ·obtain rfl : i = n := by omega
   have hto : os.take i = os := List.take_of_length_le (by rw [hn.out]; exact Nat.le_refl _)
   rw [hto] at hgr ⊢
   have hsm : ∀ o ∈ os, OpSmall o := fun o ho => (great_small (hos.out o ho).1 (hos.out o ho).2 (hgr o ho)).1
   have hin0 : InOps w (.slice va os.length vc) os := by rw [hn.out]; exact hin.out
   have cT := tells_c os (by rw [hn.out]; omega) hsm _ wr (hin0.below hb) (hg.out.on hb)
   rw [goods_texts, hn.out] at cT
   have hbs := hb.size
   replace hb := Hd hb
   generalize os.all isOpF = gd at *
   obtain ⟨T, hT⟩ : ∃ x, text (flatF os) = x := ⟨_, rfl⟩
   rw [hT]
   obtain ⟨TE, hTE⟩ : ∃ x, (if gd = true then (flatF os, (0 : Int)) else ([], 4)) = x := ⟨_, rfl⟩
   rw [hTE] at cT
   obtain ⟨tl, te⟩ := TE
   dsimp only at cT
   obtain ⟨TL, hTL⟩ : ∃ x, text tl = x := ⟨_, rfl⟩
   rw [hTL] at cT
   replace cT := Hd cT
   replace hT := Hd hT
   replace hTL := Hd hTL
   replace hTE := Hd hTE
   clear hsm hin0 hgr hto
   go_wp2_with fail
   refine cT.out.mono ?_
   rintro e w4 ⟨rfl, hb4⟩
   have hbB := Hd (below_up hb.out hbs hb4)
   clear hb4 hb hbs cT
   go_upto_region 15 with fail
   go_cut [82] (fun s82 wx => s82 = .bool false ∧ Below w.heap.size w wx)
   case first =>
    cases gd with
    | true =>
      have h := hTE.out
      rw [if_pos rfl] at h
      cases h
      obtain rfl : T = TL := by rw [← hT.out, ← hTL.out]
      clear hT hTL
      go_wp2_with fail
      go_meet
      exact ⟨rfl, hbB.out⟩
    | false =>
      have h := hTE.out
      rw [if_neg (by decide)] at h
      cases h
      have e1 : (TL.toList == []) = true := by rw [← hTL.out, str_empty, byts_text]; rfl
      clear hT hTL
      go_wp2_with fail
      go_meet
      exact ⟨rfl, hbB.out⟩
   case rest =>
    obtain ⟨rfl, hbC⟩ := hcut
    have cR := reads_c (byts tx) (LinesLe.short (by rw [byts_length]; omega)) (by rw [byts_length]; omega) wc (hg.out.on hbC)
    rw [text_byts] at cR
    have hbCs := hbC.size
    replace hbC := Hd hbC
    obtain ⟨LL, hLL⟩ : ∃ x, readsF (byts tx) = x := ⟨_, rfl⟩
    rw [hLL] at cR
    unfold readsF at hLL
    obtain ⟨LL, le⟩ := LL
    dsimp only at cR
    have hle := readF_err ((byts tx).length + 1) [] (byts tx)
    rw [hLL] at hle
    dsimp only at hle
    replace cR := Hd cR
    replace hLL := Hd hLL
    replace hle := Hd hle
    clear hbB hT hTL hTE
    go_wp2_with fail
    refine cR.out.mono ?_
    rintro e w5 ⟨⟨ra, rc, rfl, hO⟩, hb6⟩
    have hRow5 := Hd (OwnO.in hO)
    have hbD := Hd (below_up hbC.out hbCs hb6)
    have hbDs := hbD.out.size
    clear hb6 hbC hbCs cR hO
    obtain ⟨nL, hnL⟩ : ∃ k, LL.length = k := ⟨_, rfl⟩
    rw [hnL] at hRow5
    rw [hnL]
    replace hnL := Hd hnL
    go_wp2_with fail
    go_loopw [12, 13, 14, 15, 16] (fun s12 s13 s14 _ _ wr => ∃ (i fr f : Nat) (acc : List OpD), s14 = .int .i64 i ∧ s13 = .int .i64 fr ∧ s12 = .int .i64 (acc.length : Nat) ∧ fr ≤ i ∧ i ≤ tx.size ∧ acc.length ≤ 4096 ∧ (10 : UInt8) ∉ ((byts tx).drop fr).take (i - fr) ∧ readF f acc ((byts tx).drop fr) = (LL, le) ∧ ((byts tx).drop fr).length < f ∧ Below w5.heap.size w5 wr) (fun _ _ s14 _ _ _ => tx.size - (intOf s14).toNat)
    case atStart => exact ⟨0, 0, (byts tx).length + 1, [], rfl, rfl, rfl, Nat.le_refl _, Nat.zero_le _, by simp, by simp, hLL.out, by simp, Below.refl _ _⟩
    case round =>
     obtain ⟨i, fr, f, acc, rfl, rfl, rfl, hfi, hisz, hac, hno, hrd, hf, hb2⟩ := hrel
     have hb2s := hb2.size
     have hball := below_up hbD.out hbDs hb2
     by_cases hlt : i < tx.size
     ·have hltI : (i : Int) < (tx.size : Int) := by omega
      have hil : i < (byts tx).length := by rw [byts_length]; exact hlt
      have hget : (byts tx)[i] = tx[i] := rfl
      by_cases h10 : tx[i] = 10
      ·have hb10 : ((tx[i].toNat : Int) != 10) = false := by rw [h10]; rfl
       obtain ⟨x, hx⟩ : ∃ x, ((byts tx).drop fr).take (i - fr) = x := ⟨_, rfl⟩
       rw [hx] at hno
       have hsplit : (byts tx).drop fr = x ++ 10 :: (byts tx).drop (i + 1) := by
        conv => lhs; rw [← List.take_append_drop (i - fr) ((byts tx).drop fr)]
        rw [hx, List.drop_drop, show fr + (i - fr) = i by omega, List.drop_eq_getElem_cons hil, hget, h10]
       obtain ⟨f, rfl⟩ : ∃ k, f = k + 1 := ⟨f - 1, by omega⟩
       rw [hsplit, readF_step f acc x _ hno] at hrd
       rw [hsplit, List.length_append, List.length_cons] at hf
       have hxl : x.length ≤ 8192 := by
        rw [← hx, List.length_take, List.length_drop, byts_length]
        omega
       have hext : byts (tx.extract fr i) = x := by rw [ext_mid, byts_text, hx]
       have cP := rparse_c (tx.extract fr i) (by have := congrArg List.length hext; rw [byts_length] at this; omega) wr
       rw [hext, parses x (by omega)] at cP
       have hosm := parse_small x (by omega)
       have her := parse_err x
       clear hx hsplit hext hget
       generalize parseOF x = Q at *
       obtain ⟨y, er⟩ := Q
       dsimp only at *
       have hfiI : (fr : Int) ≤ (i : Int) := by omega
       have hiI : (i : Int) ≤ (tx.size : Int) := by omega
       unfold opv at cP
       obtain ⟨bi, hbi⟩ : ∃ b, decide (er = 0) = b := ⟨_, rfl⟩
       rw [hbi] at cP
       replace cP := Hd cP
       replace hbi := Hd hbi
       replace hrd := Hd hrd
       replace hno := Hd hno
       replace hball := Hd hball
       replace hb2 := Hd hb2
       replace her := Hd her
       clear h10
       go_wp2_with fail
       refine cP.out.mono ?_
       rintro e w6 ⟨⟨za, zc, zb, zd, rfl, hQ1, hQ2⟩, hb7⟩
       have hn := below1 w6 (.cells #[.int .i64 y.K, .int .u64 y.E, .int .i64 y.C, .slice za y.P.length zc, .int .u32 y.A, .int .u32 y.N, .int .i64 y.cK, .int .u64 y.cE, .int .i64 y.cC, .slice zb y.cP.length zd, .int .i64 y.U, .string y.B] 38)
       have hoz := Hd (show OpIn _ y _ _ from ⟨(OwnQ.in hQ1).below hn, (OwnQ.in hQ2).below hn⟩)
       have hbE0 := below_up hb2.out hb2s hb7
       have hbE := Hd (hbE0.alloc hbE0.size (.cells #[.int .i64 y.K, .int .u64 y.E, .int .i64 y.C, .slice za y.P.length zc, .int .u32 y.A, .int .u32 y.N, .int .i64 y.cK, .int .u64 y.cE, .int .i64 y.cC, .slice zb y.cP.length zd, .int .i64 y.U, .string y.B] 38))
       have hbU := Hd (IsC.new w6 38 #[.int .i64 y.K, .int .u64 y.E, .int .i64 y.C, .slice za y.P.length zc, .int .u32 y.A, .int .u32 y.N, .int .i64 y.cK, .int .u64 y.cE, .int .i64 y.cC, .slice zb y.cP.length zd, .int .i64 y.U, .string y.B])
       obtain ⟨W6, hW6⟩ : ∃ W6, w6.alloc (.cells #[.int .i64 y.K, .int .u64 y.E, .int .i64 y.C, .slice za y.P.length zc, .int .u32 y.A, .int .u32 y.N, .int .i64 y.cK, .int .u64 y.cE, .int .i64 y.cC, .slice zb y.cP.length zd, .int .i64 y.U, .string y.B] 38) = W6 := ⟨_, rfl⟩
       rw [hW6] at hbE hbU hoz
       replace hW6 := Hd hW6
       have hbEs := hbE.out.size
       have hbF := Hd (below_up hbD.out hbDs hbE.out)
       clear cP hb7 hn hbE0 hQ1 hQ2 hball hb2 hb2s
       rcases her.out with rfl | rfl
       ·obtain rfl : true = bi := hbi.out
        have hr := hrd.out
        rw [if_neg (by decide)] at hr
        by_cases h4 : acc.length = 4096
        ·rw [if_pos h4] at hr
         cases hr
         have p4 : decide ((4096 : Int) ≤ (acc.length : Int)) = true := decide_eq_true (by omega)
         have p4I : (4096 : Int) ≤ (acc.length : Int) := by omega
         obtain rfl : 0 = nL := hnL.out
         replace h4 := Hd h4
         go_wp2_with fail
         go_ret
         exact ⟨rfl, by rw [hW6.out]; exact hbF.out⟩
        ·rw [if_neg h4] at hr
         have p4 : decide ((4096 : Int) ≤ (acc.length : Int)) = false := decide_eq_false (by omega)
         have p4I : ¬ (4096 : Int) ≤ (acc.length : Int) := by omega
         have hac1 : acc.length + 1 ≤ 4096 := by omega
         have hpre := readF_pre f (acc ++ [y]) ((byts tx).drop (i + 1))
         rw [hr] at hpre
         dsimp only at hpre
         replace hr := Hd hr
         go_upto_region 29 with fail
         (try rw [hW6.out])
         go_cut [141] (fun s141 wx => s141 = .bool false ∧ Below w5.heap.size w5 wx)
         case first =>
          rcases hpre with ⟨rfl, r, hLr⟩ | ⟨hL0, hle0⟩
          ·have hjL : acc.length < LL.length := by rw [hLr]; simp
           have hjn : acc.length < nL := by rw [← hnL.out]; exact hjL
           have hLy : LL[acc.length] = y := by
            simp only [hLr]
            rw [List.getElem_append_left (by simp), List.getElem_append_right (Nat.le_refl _)]
            simp
           have hRow : InOps W6 (.slice ra LL.length rc) LL := by rw [hnL.out]; exact hRow5.out.below hbE.out
           obtain ⟨g, o, s, t, rfl, hgz, hoy, i0, i1, i2, i3, i4, i5, i6, i7, i8, i9, i10, i11⟩ := hRow.at acc.length hjL
           rw [hLy] at i0 i1 i2 i4 i5 i6 i7 i8 i10 i11 hoy
           obtain ⟨ya, yc, rfl, _⟩ := id hoy.1
           obtain ⟨yb, yd, rfl, _⟩ := id hoy.2
           have cF := fun w' (h : Below W6.heap.size W6 w') => formL_c y _ _ w' (hoy.below h)
           have cS := fun w' (h : Below W6.heap.size W6 w') => sameL_c y y hosm.P.1 hosm.cP.1 (fun p hp => (hosm.P.2 p hp).2) (fun p hp => (hosm.cP.2 p hp).2) _ _ _ _ w' (hoy.below h) (hoz.out.below h)
           rw [(sameD_iff y y).2 rfl] at cS
           unfold opv at cF cS
           replace cF := Hd cF
           replace cS := Hd cS
           obtain ⟨k0, k1, k2, k3, k4, k5, k6, k7, k8, k9, k10, k11⟩ := cells12 hbU.out
           have hjI : (acc.length : Int) < (nL : Int) := by omega
           have hjD : decide ((nL : Int) ≤ (acc.length : Int)) = false := decide_eq_false (by omega)
           have hjN : decide (nL ≤ acc.length) = false := decide_eq_false (by omega)
           have hbR := Hd (Below.refl W6.heap.size W6)
           have hbRs := hbR.out.size
           clear hosm hoy hRow hLy hLr hjL hgz
           refine wp_region_held_at (S := fun w1 => w1.cell? ⟨g, o + acc.length * 12, none⟩ = some (.int .i64 y.K) ∧ w1.cell? ⟨g, o + acc.length * 12 + 1, none⟩ = some (.int .u64 y.E) ∧ w1.cell? ⟨g, o + acc.length * 12 + 2, none⟩ = some (.int .i64 y.C) ∧ w1.cell? ⟨g, o + acc.length * 12 + 3, none⟩ = some (.slice ya y.P.length yc) ∧ w1.cell? ⟨g, o + acc.length * 12 + 4, none⟩ = some (.int .u32 y.A) ∧ w1.cell? ⟨g, o + acc.length * 12 + 5, none⟩ = some (.int .u32 y.N) ∧ w1.cell? ⟨g, o + acc.length * 12 + 6, none⟩ = some (.int .i64 y.cK) ∧ w1.cell? ⟨g, o + acc.length * 12 + 7, none⟩ = some (.int .u64 y.cE) ∧ w1.cell? ⟨g, o + acc.length * 12 + 8, none⟩ = some (.int .i64 y.cC) ∧ w1.cell? ⟨g, o + acc.length * 12 + 9, none⟩ = some (.slice yb y.cP.length yd) ∧ w1.cell? ⟨g, o + acc.length * 12 + 10, none⟩ = some (.int .i64 y.U) ∧ w1.cell? ⟨g, o + acc.length * 12 + 11, none⟩ = some (.string y.B) ∧ w1.cell? ⟨w6.heap.size, 0, none⟩ = some (.int .i64 y.K) ∧ w1.cell? ⟨w6.heap.size, 1, none⟩ = some (.int .u64 y.E) ∧ w1.cell? ⟨w6.heap.size, 2, none⟩ = some (.int .i64 y.C) ∧ w1.cell? ⟨w6.heap.size, 3, none⟩ = some (.slice za y.P.length zc) ∧ w1.cell? ⟨w6.heap.size, 4, none⟩ = some (.int .u32 y.A) ∧ w1.cell? ⟨w6.heap.size, 5, none⟩ = some (.int .u32 y.N) ∧ w1.cell? ⟨w6.heap.size, 6, none⟩ = some (.int .i64 y.cK) ∧ w1.cell? ⟨w6.heap.size, 7, none⟩ = some (.int .u64 y.cE) ∧ w1.cell? ⟨w6.heap.size, 8, none⟩ = some (.int .i64 y.cC) ∧ w1.cell? ⟨w6.heap.size, 9, none⟩ = some (.slice zb y.cP.length zd) ∧ w1.cell? ⟨w6.heap.size, 10, none⟩ = some (.int .i64 y.U) ∧ w1.cell? ⟨w6.heap.size, 11, none⟩ = some (.string y.B)) 18 rfl (by kernel_rfl) (by go_keep) (fun hH => ?_)
           refine wpU 0 ?_ rfl ?_ ?_
           rotate_left
           ·intro u h; (try simp only [ls3]); go_simp; try with_reducible rfl
           try simp only [ls7, Act.put]
           refine wpU 1 ?_ rfl ?_ ?_
           rotate_left
           ·intro u h; (try simp only [ls3]); go_simp; try with_reducible rfl
           try simp only [ls7, Act.put]
           refine wpU 2 ?_ rfl ?_ ?_
           rotate_left
           ·intro u h; (try simp only [ls3]); go_simp; try with_reducible rfl
           try simp only [ls7, Act.put]
           refine wpU 3 ?_ rfl ?_ ?_
           rotate_left
           ·intro u h; (try simp only [ls3]); go_simp; try with_reducible rfl
           try simp only [ls7, Act.put]
           refine wpU 4 ?_ rfl ?_ ?_
           rotate_left
           ·intro u h; (try simp only [ls3]); go_simp; try with_reducible rfl
           try simp only [ls7, Act.put]
           refine wpU 5 ?_ rfl ?_ ?_
           rotate_left
           ·intro u h; (try simp only [ls3]); go_simp; try with_reducible rfl
           try simp only [ls7, Act.put]
           refine wpU 6 ?_ rfl ?_ ?_
           rotate_left
           ·intro u h; (try simp only [ls3]); go_simp; try with_reducible rfl
           try simp only [ls7, Act.put]
           refine wpU 7 ?_ rfl ?_ ?_
           rotate_left
           ·intro u h; (try simp only [ls3]); go_simp; try with_reducible rfl
           try simp only [ls7, Act.put]
           refine wpU 8 ?_ rfl ?_ ?_
           rotate_left
           ·intro u h; (try simp only [ls3]); go_simp; try with_reducible rfl
           try simp only [ls7, Act.put]
           refine wpU 9 ?_ rfl ?_ ?_
           rotate_left
           ·intro u h; (try simp only [ls3]); go_simp; try with_reducible rfl
           try simp only [ls7, Act.put]
           refine wpU 10 ?_ rfl ?_ ?_
           rotate_left
           ·intro u h; (try simp only [ls3]); go_simp; try with_reducible rfl
           try simp only [ls7, Act.put]
           refine wpU 11 ?_ rfl ?_ ?_
           rotate_left
           ·intro u h; (try simp only [ls3]); go_simp; try with_reducible rfl
           try simp only [ls7, Act.put]
           refine wpU 13 ?_ rfl ?_ ?_
           rotate_left
           ·intro u h; (try simp only [ls3]); go_simp; try with_reducible rfl
           try simp only [ls7, Act.put]
           refine wpAnyH_ready (rs := [12]) (by decide +kernel) (by simp) ?_
           refine AllReadyH.cons rfl (fun K hK => ?_) AllReadyH.nil
           (try simp only [ls3])
           go_simp
           refine Calls.mono (cF.out _ (by first | exact hbR.out | exact below_drewed hbR.out | exact below_drewN hbR.out)) ?_
           rintro e w5 ⟨rfl, hb9⟩
           replace hbR := Hd (below_up hbR.out hbRs (by first | exact hb9 | exact below_d2 hb9 | exact below_d hb9))
           clear hbRs
           have hbRs := hbR.out.size
           replace i0 := cell_up i0 (by first | exact hb9 | exact below_d2 hb9 | exact below_d hb9)
           replace i1 := cell_up i1 (by first | exact hb9 | exact below_d2 hb9 | exact below_d hb9)
           replace i2 := cell_up i2 (by first | exact hb9 | exact below_d2 hb9 | exact below_d hb9)
           replace i3 := cell_up i3 (by first | exact hb9 | exact below_d2 hb9 | exact below_d hb9)
           replace i4 := cell_up i4 (by first | exact hb9 | exact below_d2 hb9 | exact below_d hb9)
           replace i5 := cell_up i5 (by first | exact hb9 | exact below_d2 hb9 | exact below_d hb9)
           replace i6 := cell_up i6 (by first | exact hb9 | exact below_d2 hb9 | exact below_d hb9)
           replace i7 := cell_up i7 (by first | exact hb9 | exact below_d2 hb9 | exact below_d hb9)
           replace i8 := cell_up i8 (by first | exact hb9 | exact below_d2 hb9 | exact below_d hb9)
           replace i9 := cell_up i9 (by first | exact hb9 | exact below_d2 hb9 | exact below_d hb9)
           replace i10 := cell_up i10 (by first | exact hb9 | exact below_d2 hb9 | exact below_d hb9)
           replace i11 := cell_up i11 (by first | exact hb9 | exact below_d2 hb9 | exact below_d hb9)
           replace k0 := cell_up k0 (by first | exact hb9 | exact below_d2 hb9 | exact below_d hb9)
           replace k1 := cell_up k1 (by first | exact hb9 | exact below_d2 hb9 | exact below_d hb9)
           replace k2 := cell_up k2 (by first | exact hb9 | exact below_d2 hb9 | exact below_d hb9)
           replace k3 := cell_up k3 (by first | exact hb9 | exact below_d2 hb9 | exact below_d hb9)
           replace k4 := cell_up k4 (by first | exact hb9 | exact below_d2 hb9 | exact below_d hb9)
           replace k5 := cell_up k5 (by first | exact hb9 | exact below_d2 hb9 | exact below_d hb9)
           replace k6 := cell_up k6 (by first | exact hb9 | exact below_d2 hb9 | exact below_d hb9)
           replace k7 := cell_up k7 (by first | exact hb9 | exact below_d2 hb9 | exact below_d hb9)
           replace k8 := cell_up k8 (by first | exact hb9 | exact below_d2 hb9 | exact below_d hb9)
           replace k9 := cell_up k9 (by first | exact hb9 | exact below_d2 hb9 | exact below_d hb9)
           replace k10 := cell_up k10 (by first | exact hb9 | exact below_d2 hb9 | exact below_d hb9)
           replace k11 := cell_up k11 (by first | exact hb9 | exact below_d2 hb9 | exact below_d hb9)
           clear hb9
           (try go_simp)
           refine hK.out _ _ (by go_keep) (fun hH => ?_)
           clear hK K
           try simp only [ls7, Act.put]
           refine wpAnyH_ready (rs := [14]) (by decide +kernel) (by simp) ?_
           refine AllReadyH.cons rfl (fun K hK => ?_) AllReadyH.nil
           (try simp only [ls3])
           go_simp
           refine Calls.mono (cS.out _ (by first | exact hbR.out | exact below_drewed hbR.out | exact below_drewN hbR.out)) ?_
           rintro e w5 ⟨rfl, hb9⟩
           replace hbR := Hd (below_up hbR.out hbRs (by first | exact hb9 | exact below_d2 hb9 | exact below_d hb9))
           clear hbRs
           have hbRs := hbR.out.size
           replace i0 := cell_up i0 (by first | exact hb9 | exact below_d2 hb9 | exact below_d hb9)
           replace i1 := cell_up i1 (by first | exact hb9 | exact below_d2 hb9 | exact below_d hb9)
           replace i2 := cell_up i2 (by first | exact hb9 | exact below_d2 hb9 | exact below_d hb9)
           replace i3 := cell_up i3 (by first | exact hb9 | exact below_d2 hb9 | exact below_d hb9)
           replace i4 := cell_up i4 (by first | exact hb9 | exact below_d2 hb9 | exact below_d hb9)
           replace i5 := cell_up i5 (by first | exact hb9 | exact below_d2 hb9 | exact below_d hb9)
           replace i6 := cell_up i6 (by first | exact hb9 | exact below_d2 hb9 | exact below_d hb9)
           replace i7 := cell_up i7 (by first | exact hb9 | exact below_d2 hb9 | exact below_d hb9)
           replace i8 := cell_up i8 (by first | exact hb9 | exact below_d2 hb9 | exact below_d hb9)
           replace i9 := cell_up i9 (by first | exact hb9 | exact below_d2 hb9 | exact below_d hb9)
           replace i10 := cell_up i10 (by first | exact hb9 | exact below_d2 hb9 | exact below_d hb9)
           replace i11 := cell_up i11 (by first | exact hb9 | exact below_d2 hb9 | exact below_d hb9)
           replace k0 := cell_up k0 (by first | exact hb9 | exact below_d2 hb9 | exact below_d hb9)
           replace k1 := cell_up k1 (by first | exact hb9 | exact below_d2 hb9 | exact below_d hb9)
           replace k2 := cell_up k2 (by first | exact hb9 | exact below_d2 hb9 | exact below_d hb9)
           replace k3 := cell_up k3 (by first | exact hb9 | exact below_d2 hb9 | exact below_d hb9)
           replace k4 := cell_up k4 (by first | exact hb9 | exact below_d2 hb9 | exact below_d hb9)
           replace k5 := cell_up k5 (by first | exact hb9 | exact below_d2 hb9 | exact below_d hb9)
           replace k6 := cell_up k6 (by first | exact hb9 | exact below_d2 hb9 | exact below_d hb9)
           replace k7 := cell_up k7 (by first | exact hb9 | exact below_d2 hb9 | exact below_d hb9)
           replace k8 := cell_up k8 (by first | exact hb9 | exact below_d2 hb9 | exact below_d hb9)
           replace k9 := cell_up k9 (by first | exact hb9 | exact below_d2 hb9 | exact below_d hb9)
           replace k10 := cell_up k10 (by first | exact hb9 | exact below_d2 hb9 | exact below_d hb9)
           replace k11 := cell_up k11 (by first | exact hb9 | exact below_d2 hb9 | exact below_d hb9)
           clear hb9
           (try go_simp)
           refine hK.out _ _ (by go_keep) (fun hH => ?_)
           clear hK K
           try simp only [ls7, Act.put]
           refine wpU 15 ?_ rfl ?_ ?_
           rotate_left
           ·intro u h; (try simp only [ls3]); go_simp; try with_reducible rfl
           try simp only [ls7, Act.put]
           refine wpU 16 ?_ rfl ?_ ?_
           rotate_left
           ·intro u h; (try simp only [ls3]); go_simp; try with_reducible rfl
           try simp only [ls7, Act.put]
           refine wpU 17 ?_ rfl ?_ ?_
           rotate_left
           ·intro u h; (try simp only [ls3]); go_simp; try with_reducible rfl
           try simp only [ls7, Act.put]
           refine wpAnyH_done (by decide +kernel) ?_ _
           have hfin := Hd (below_up hbE.out hbEs hbR.out)
           clear i0 i1 i2 i3 i4 i5 i6 i7 i8 i9 i10 i11 k0 k1 k2 k3 k4 k5 k6 k7 k8 k9 k10 k11 hbR hbRs
           go_wp2_with fail
           go_meet
           exact ⟨rfl, hfin.out⟩
          ·have e0 : (le == 0) = false := beq_eq_false_iff_ne.2 hle0
           clear hosm hL0 hle0
           go_quiet (fail)
           go_wp2
           go_meet
           exact ⟨rfl, below_drewN hbE.out⟩
         case rest =>
          obtain ⟨rfl, hbG⟩ := hcut
          replace hbG := Hd hbG
          clear hbU hoz hbE hbF hbEs hpre
          go_wp2_with fail
          go_roundw
          case rel => exact ⟨i + 1, i + 1, f, acc ++ [y], by go_num, by go_num, by rw [List.length_append]; go_num, Nat.le_refl _, hlt, by rw [List.length_append]; exact hac1, by simp, hr.out, by omega, hbG.out⟩
          case measure => simp [intOf]; omega
       ·obtain rfl : false = bi := hbi.out
        have hr := hrd.out
        rw [if_pos (by decide)] at hr
        cases hr
        obtain rfl : 0 = nL := hnL.out
        go_wp2_with fail
        go_ret
        exact ⟨rfl, by rw [hW6.out]; exact hbF.out⟩
      ·have hb10 : ((tx[i].toNat : Int) != 10) = true := bne_iff_ne.2 (fun e => h10 (UInt8.toNat_inj.1 (by have : (10 : UInt8).toNat = 10 := rfl; omega)))
       have hnn : (10 : UInt8) ∉ ((byts tx).drop fr).take (i + 1 - fr) := by
        rw [show i + 1 - fr = (i - fr) + 1 by omega, List.take_succ_eq_append_getElem (by rw [List.length_drop]; omega)]
        intro h
        rcases List.mem_append.1 h with h | h
        ·exact hno h
        ·have e := List.mem_singleton.1 h
         rw [List.getElem_drop] at e
         refine h10 (Eq.symm ?_)
         rw [e]
         have e2 : fr + (i - fr) = i := by omega
         simp only [e2]
         rfl
       replace hnn := Hd hnn
       replace hrd := Hd hrd
       replace hb2 := Hd hb2
       clear hno hball h10 hget
       go_wp2_with fail
       go_roundw
       case rel => exact ⟨i + 1, fr, f, acc, by go_num, rfl, rfl, by omega, hlt, hac, hnn.out, hrd.out, hf, hb2.out⟩
       case measure => simp [intOf]; omega
     ·obtain rfl : i = tx.size := by omega
      have htk : ((byts tx).drop fr).take (tx.size - fr) = (byts tx).drop fr := List.take_of_length_le (by rw [List.length_drop, byts_length]; exact Nat.le_refl _)
      rw [htk] at hno
      replace hball := Hd hball
      obtain ⟨f, rfl⟩ : ∃ k, f = k + 1 := ⟨f - 1, by omega⟩
      by_cases hfr : fr = tx.size
      ·have hd : (byts tx).drop fr = [] := List.drop_eq_nil_of_le (by rw [byts_length]; omega)
       rw [hd, readF_nil] at hrd
       cases hrd
       have hne : ((fr : Int) != (tx.size : Int)) = false := by rw [hfr]; simp
       obtain rfl : _ = nL := hnL.out
       clear hb2 hno hd htk hf
       replace hfr := Hd hfr
       go_wp2_with fail
       go_ret
       exact ⟨rfl, hball.out⟩
      ·have hd : (byts tx).drop fr ≠ [] := fun e => by
        have := congrArg List.length e
        rw [List.length_drop, byts_length] at this
        simp at this
        omega
       rw [readF_no f acc _ hno hd] at hrd
       cases hrd
       have hne : ((fr : Int) != (tx.size : Int)) = true := bne_iff_ne.2 (by omega)
       obtain rfl : 0 = nL := hnL.out
       clear hb2 hno hd htk hf
       go_wp2_with fail
       go_ret
       exact ⟨rfl, hball.out⟩
end Go.Proofs.YtjjgbillihedgaaGreatDoor
