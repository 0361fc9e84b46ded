/- parts of the proof, merged: TlVG -/
import Derived.Test.YtjjgbillihedgaaGreatDoorQy36
import Derived.Test.YtjjgbillihedgaaGreatDoorQy39
import Derived.Test.YtjjgbillihedgaaGreatDoorQy40
set_option linter.unusedSimpArgs false
set_option linter.unusedVariables false
set_option maxHeartbeats 64000000
set_option maxRecDepth 100000
namespace Go.Proofs.YtjjgbillihedgaaGreatDoor
open Go.RowKit
open Rf
open Sg
open Wide
open Tl
namespace Tl
theorem bcut_le : ∀ l : List UInt8, (bcut l).1.length ≤ l.length ∧ (bcut l).2.length ≤ l.length
 | [] => ⟨Nat.le_refl _, Nat.le_refl _⟩
 | c :: r => by
   have := bcut_le r
   unfold bcut
   split <;> simp <;> omega
theorem numGo_bd : ∀ (l : List UInt8) (n : Nat), n ≤ 9223372036854775807 → 0 ≤ numGo n l ∧ numGo n l ≤ 9223372036854775807
 | [], n, h => by unfold numGo; omega
 | c :: r, n, h => by
   rw [numGo]
   split
   ·omega
   ·rename_i hc
    exact numGo_bd r _ (by omega)
theorem wordB_iff (w : List UInt8) (i : Nat) (h0 : 1 ≤ i) (h1 : i ≤ 11) : wordB (i : Int) = w ↔ kindOf w = (i : Int) := by
 have h := (kind_word (i : Int) (by omega) (by omega)).1
 constructor
 ·rintro rfl; exact h
 ·intro e
  exact kind_inj (h.trans e.symm) (by rw [h]; omega)
def kUp (w : List UInt8) (i : Nat) : Int := if kindOf w < (i : Int) then kindOf w else 0
end Tl
theorem rguessA (s : ByteArray) (hs : s.size ≤ 99500) (d : Int) (w : World) (w0 t0 : List UInt8) (hw0 : (bcut (byts s)).1 = w0) (ht : (bcut (byts s)).2 = t0) (R : OpD)
 (hRo : kindOf w0 ≠ 8 → R = rgO (kindOf w0) t0) (hR8 : kindOf w0 = 8 → (d ≠ 0 ∧ R = ⟨8, 0, 0, [], 0, 0, 0, 0, 0, [], 0, sS⟩) ∨ (d = 0 ∧ ∃ y : OpD, (0 ≤ y.K ∧ y.K ≤ 11) ∧ (∀ w', Calls Tryz.prog 41 #[.string (text t0), .int .i64 1] w' fun e w2 => Guessed w' y e w2) ∧ R = ⟨8, 0, 0, [], 0, 0, rcmdK y.K, y.E, y.C, y.P, 0, sS⟩)) :
 Calls Tryz.prog 41 #[.string s, .int .i64 d] w fun e w' => Guessed w R e w' := by
 have hGF := hRo
 have hG8 := Hd hR8
 clear hRo hR8
 have cc := bcut_c s (by omega)
 have hble := bcut_le (byts s)
 rw [hw0, ht] at cc
 rw [hw0, ht, byts_length] at hble
 have hkb := kindOf_bd w0
 replace hGF := Hd hGF
 replace cc := Hd cc
 go_enter Tryz.func41, Tryz.ntmps41
 go_wp2_with fail
 refine (cc.out _).mono ?_
 rintro x w2 ⟨rfl, hb2⟩
 have hb0 := (below1 w (.cells #[.int .i64 0, .int .u64 0, .int .i64 0, .slice none 0 0, .int .u32 0, .int .u32 0, .int .i64 0, .int .u64 0, .int .i64 0, .slice none 0 0, .int .i64 0, .string ⟨#[]⟩] 38)).alloc (by rw [size_alloc]; omega) (.cells #[.string ⟨#[]⟩, .string ⟨#[115, 112, 97, 119, 110]⟩, .string ⟨#[100, 101, 115, 112, 97, 119, 110]⟩, .string ⟨#[97, 100, 100]⟩, .string ⟨#[114, 101, 109, 111, 118, 101]⟩, .string ⟨#[115, 101, 116]⟩, .string ⟨#[103, 101, 116]⟩, .string ⟨#[113, 117, 101, 114, 121]⟩, .string ⟨#[100, 101, 102, 101, 114]⟩, .string ⟨#[102, 114, 97, 109, 101]⟩, .string ⟨#[98, 101, 103, 105, 110]⟩, .string ⟨#[97, 98, 111, 114, 116]⟩] 79)
 have hbox2 := isC_of hb2 ((IsC.new w 38 #[.int .i64 0, .int .u64 0, .int .i64 0, .slice none 0 0, .int .u32 0, .int .u32 0, .int .i64 0, .int .u64 0, .int .i64 0, .slice none 0 0, .int .i64 0, .string ⟨#[]⟩]).alloc (.cells #[.string ⟨#[]⟩, .string ⟨#[115, 112, 97, 119, 110]⟩, .string ⟨#[100, 101, 115, 112, 97, 119, 110]⟩, .string ⟨#[97, 100, 100]⟩, .string ⟨#[114, 101, 109, 111, 118, 101]⟩, .string ⟨#[115, 101, 116]⟩, .string ⟨#[103, 101, 116]⟩, .string ⟨#[113, 117, 101, 114, 121]⟩, .string ⟨#[100, 101, 102, 101, 114]⟩, .string ⟨#[102, 114, 97, 109, 101]⟩, .string ⟨#[98, 101, 103, 105, 110]⟩, .string ⟨#[97, 98, 111, 114, 116]⟩] 79))
 have hws := IsC.new (w.alloc (.cells #[.int .i64 0, .int .u64 0, .int .i64 0, .slice none 0 0, .int .u32 0, .int .u32 0, .int .i64 0, .int .u64 0, .int .i64 0, .slice none 0 0, .int .i64 0, .string ⟨#[]⟩] 38)) 79 #[.string ⟨#[]⟩, .string ⟨#[115, 112, 97, 119, 110]⟩, .string ⟨#[100, 101, 115, 112, 97, 119, 110]⟩, .string ⟨#[97, 100, 100]⟩, .string ⟨#[114, 101, 109, 111, 118, 101]⟩, .string ⟨#[115, 101, 116]⟩, .string ⟨#[103, 101, 116]⟩, .string ⟨#[113, 117, 101, 114, 121]⟩, .string ⟨#[100, 101, 102, 101, 114]⟩, .string ⟨#[102, 114, 97, 109, 101]⟩, .string ⟨#[98, 101, 103, 105, 110]⟩, .string ⟨#[97, 98, 111, 114, 116]⟩]
 rw [size_alloc] at hws
 have hws2 := isC_of hb2 hws
 have hwd : ∀ i, i < 12 → w2.cell? ⟨w.heap.size + 1, i, none⟩ = some (.string (text (wordB (i : Int)))) := by
  intro i hi
  rw [hws2.cell]
  match i, hi with
  | 0, _ => rfl
  | 1, _ => rfl
  | 2, _ => rfl
  | 3, _ => rfl
  | 4, _ => rfl
  | 5, _ => rfl
  | 6, _ => rfl
  | 7, _ => rfl
  | 8, _ => rfl
  | 9, _ => rfl
  | 10, _ => rfl
  | 11, _ => rfl
 have hbA := below_up hb0 hb0.size hb2
 have hlt2 : w.heap.size + 1 < w2.heap.size := hws2.lt
 have hne26 : w.heap.size ≠ w2.heap.size := by omega
 have hle26 : w.heap.size ≤ w2.heap.size := by omega
 have hne27 : w.heap.size + 1 ≠ w2.heap.size := by omega
 have hbq := below1 w2 (.cells #[.int .i64 0, .int .u64 0, .int .i64 0, .slice none 0 0, .int .u32 0, .int .u32 0, .int .i64 0, .int .u64 0, .int .i64 0, .slice none 0 0, .int .i64 0, .string ⟨#[]⟩] 38)
 have hpr0 := Hd (IsC.new w2 38 #[.int .i64 0, .int .u64 0, .int .i64 0, .slice none 0 0, .int .u32 0, .int .u32 0, .int .i64 0, .int .u64 0, .int .i64 0, .slice none 0 0, .int .i64 0, .string ⟨#[]⟩])
 have hbox0 := Hd (hbox2.alloc (.cells #[.int .i64 0, .int .u64 0, .int .i64 0, .slice none 0 0, .int .u32 0, .int .u32 0, .int .i64 0, .int .u64 0, .int .i64 0, .slice none 0 0, .int .i64 0, .string ⟨#[]⟩] 38))
 have hwd0 := Hd (fun i (hi : i < 12) => cell_up (hwd i hi) hbq)
 have hbB := Hd (hbA.alloc hle26 (.cells #[.int .i64 0, .int .u64 0, .int .i64 0, .slice none 0 0, .int .u32 0, .int .u32 0, .int .i64 0, .int .u64 0, .int .i64 0, .slice none 0 0, .int .i64 0, .string ⟨#[]⟩] 38))
 have hk0 : kUp w0 1 = 0 := by unfold kUp; split <;> omega
 clear hb2 hb0 hbox2 hws hws2 hwd hbA hbq
 replace hne26 := Hd hne26
 replace hne27 := Hd hne27
 replace hkb := Hd hkb
 go_wp2_with fail
 go_loopw [9] (fun t wr => ∃ i : Nat, 1 ≤ i ∧ i ≤ 12 ∧ t = .int .i64 i ∧ IsC wr w2.heap.size 38 #[.int .i64 (kUp w0 i), .int .u64 0, .int .i64 0, .slice none 0 0, .int .u32 0, .int .u32 0, .int .i64 0, .int .u64 0, .int .i64 0, .slice none 0 0, .int .i64 0, .string ⟨#[]⟩] ∧ IsC wr w.heap.size 38 #[.int .i64 0, .int .u64 0, .int .i64 0, .slice none 0 0, .int .u32 0, .int .u32 0, .int .i64 0, .int .u64 0, .int .i64 0, .slice none 0 0, .int .i64 0, .string ⟨#[]⟩] ∧ (∀ i, i < 12 → wr.cell? ⟨w.heap.size + 1, i, none⟩ = some (.string (text (wordB (i : Int))))) ∧ Below w.heap.size w wr) (fun t _ => 12 - (intOf t).toNat)
 case atStart => exact ⟨1, Nat.le_refl _, by omega, rfl, by rw [hk0]; exact hpr0.out, hbox0.out, hwd0.out, hbB.out⟩
 case round =>
  clear hpr0 hbox0 hwd0 hbB hk0
  obtain ⟨i, h1, h12, rfl, hpr, hbox, hwd, hb5⟩ := hrel
  by_cases hlt : i < 12
  ·have hltI : (i : Int) < 12 := by omega
   have hc := hwd i hlt
   have hcmp := bytes_eq (text (wordB (i : Int))) (text w0)
   rw [byts_text, byts_text] at hcmp
   have p0 := hpr.cell 0
   have f0 := hpr.f 0
   by_cases he : wordB (i : Int) = w0
   ·rw [decide_eq_true he] at hcmp
    have hkk := (wordB_iff w0 i h1 (by omega)).1 he
    have hku : kUp w0 (i + 1) = (i : Int) := by unfold kUp; rw [hkk, if_pos (by omega)]
    have hpr1 := Hd (show IsC (wr.setCell ⟨w2.heap.size, 0, none⟩ (.int .i64 (i : Int))) w2.heap.size 38 #[.int .i64 (kUp w0 (i + 1)), .int .u64 0, .int .i64 0, .slice none 0 0, .int .u32 0, .int .u32 0, .int .i64 0, .int .u64 0, .int .i64 0, .slice none 0 0, .int .i64 0, .string ⟨#[]⟩] by rw [hku]; exact hpr.set 0 (.int .i64 (i : Int)))
    have hbox1 := Hd (hbox.set_other (c := w2.heap.size) (i := 0) (v := .int .i64 (i : Int)) hne26.out)
    have hwd1 := Hd (fun j (hj : j < 12) => cell_set_ne (i := 0) (v := .int .i64 (i : Int)) hne27.out (hwd j hj))
    have hb6 := Hd (hb5.setCell (p := ⟨w2.heap.size, 0, none⟩) hle26 (.int .i64 (i : Int)))
    replace he := Hd he
    clear hpr hbox hwd hb5 hku hkk
    go_wp2_with fail
    go_roundw
    case rel => exact ⟨i + 1, by omega, by omega, by go_num, hpr1.out, hbox1.out, hwd1.out, hb6.out⟩
    case measure => simp [intOf]; omega
   ·rw [decide_eq_false he] at hcmp
    have hkk : kindOf w0 ≠ (i : Int) := fun e => he ((wordB_iff w0 i h1 (by omega)).2 e)
    have hku : kUp w0 (i + 1) = kUp w0 i := by
     unfold kUp
     by_cases hx : kindOf w0 < (i : Int)
     ·rw [if_pos (by omega), if_pos hx]
     ·rw [if_neg (by omega), if_neg hx]
    have hpr1 := Hd (show IsC wr w2.heap.size 38 #[.int .i64 (kUp w0 (i + 1)), .int .u64 0, .int .i64 0, .slice none 0 0, .int .u32 0, .int .u32 0, .int .i64 0, .int .u64 0, .int .i64 0, .slice none 0 0, .int .i64 0, .string ⟨#[]⟩] by rw [hku]; exact hpr)
    replace hbox := Hd hbox
    replace hwd := Hd hwd
    replace hb5 := Hd hb5
    clear hpr hku hkk he p0 f0
    go_wp2_with fail
    go_roundw
    case rel => exact ⟨i + 1, by omega, by omega, by go_num, hpr1.out, hbox.out, hwd.out, hb5.out⟩
    case measure => simp [intOf]; omega
  ·obtain rfl : i = 12 := by omega
   have hku : kUp w0 12 = kindOf w0 := by
    unfold kUp
    have := hkb.out
    rw [if_pos (by omega)]
   rw [hku] at hpr
   clear hku hwd
   have hkb' := hkb.out
   generalize kindOf w0 = kd at *
   have hb5s := hb5.size
   replace hpr := Hd hpr
   replace hbox := Hd hbox
   replace hb5 := Hd hb5
   have ek := hpr.out.cell 0
   go_upto_block 2 with fail
   clear ek
   go_cut [10] from 11 to 134 (fun _ wx => ∃ qa qc qb qd, IsC wx w2.heap.size 38 #[.int .i64 R.K, .int .u64 R.E, .int .i64 R.C, .slice qa R.P.length qc, .int .u32 R.A, .int .u32 R.N, .int .i64 R.cK, .int .u64 R.cE, .int .i64 R.cC, .slice qb R.cP.length qd, .int .i64 R.U, .string R.B] ∧ IsC wx w.heap.size 38 #[.int .i64 0, .int .u64 0, .int .i64 0, .slice none 0 0, .int .u32 0, .int .u32 0, .int .i64 0, .int .u64 0, .int .i64 0, .slice none 0 0, .int .i64 0, .string ⟨#[]⟩] ∧ Below w.heap.size w wx ∧ OwnQ wx (w.heap.size + 1) qa qc R.P ∧ OwnQ wx (w.heap.size + 1) qb qd R.cP)
   case first =>
    by_cases k0 : kd = 0 ∨ kd = 11
    ·rcases k0 with rfl | rfl
     all_goals
      have hR2 := Hd ((hGF.out (by decide)).trans (show rgO _ t0 = ⟨_, 0, 0, [], 0, 0, 0, 0, 0, [], 0, sS⟩ from rfl))
      clear hGF hG8
      have hprX := hpr
      have hbxX := hbox
      have hbX := hb5
      have e0 := hprX.out.cell 0
      have hprY : IsC wr w2.heap.size 38 #[.int .i64 _, .int .u64 0, .int .i64 0, .slice none 0 0, .int .u32 0, .int .u32 0, .int .i64 0, .int .u64 0, .int .i64 0, .slice none 0 0, .int .i64 0, .string ⟨#[]⟩] := hprX.out
      have hbxY : IsC wr w.heap.size 38 #[.int .i64 0, .int .u64 0, .int .i64 0, .slice none 0 0, .int .u32 0, .int .u32 0, .int .i64 0, .int .u64 0, .int .i64 0, .slice none 0 0, .int .i64 0, .string ⟨#[]⟩] := hbxX.out
      have hbY : Below w.heap.size w wr := hbX.out
      replace hprY := Hd hprY
      replace hbxY := Hd hbxY
      replace hbY := Hd hbY
      go_wp2_with fail
      go_meet
      rw [hR2.out]
      exact ⟨none, 0, none, 0, hprY.out, hbxY.out, hbY.out, OwnQ.nil _ _, OwnQ.nil _ _⟩
    simp only [not_or] at k0
    obtain ⟨k0, k11⟩ := k0
    by_cases k1 : kd = 1
    ·subst k1
     have e0 := hpr.out.cell 0
     by_cases ht0 : t0 = []
     ·have hbe : behF t0 = [] := if_pos ht0
      have hlI : ¬ (0 : Int) < ((text t0).size : Int) := by rw [text_size, ht0]; simp
      have cC := rcut_c ⟨#[101, 32, 49, 32, 49]⟩ (by show 5 ≤ 100000; omega) wr
      rw [show byts ⟨#[101, 32, 49, 32, 49]⟩ = [101, 32, 49, 32, 49] ++ behF t0 by rw [hbe]; rfl] at cC
      have hR2 := Hd ((hGF.out (by decide)).trans (show rgO 1 t0 = ⟨1, 0, 0, rcP (rcutF ([101, 32, 49, 32, 49] ++ behF t0)), 0, 0, 0, 0, 0, [], 0, sS⟩ from rfl))
      clear hGF hG8
      generalize rcutF ([101, 32, 49, 32, 49] ++ behF t0) = Q at *
      replace cC := Hd cC
      replace hbe := Hd hbe
      replace ht0 := Hd ht0
      go_wp2_with fail
      refine cC.out.mono ?_
      rintro x w5 ⟨⟨qa, qc, rfl, hQ⟩, hb6⟩
      have hQX := Hd hQ
      have hprX := Hd (isC_of hb6 hpr.out)
      have hbxX := Hd (isC_of hb6 hbox.out)
      have hbX := Hd (below_up hb5.out hb5s hb6)
      have hq26 : w2.heap.size < wr.heap.size := hpr.out.lt
      have hqw : w.heap.size < wr.heap.size := by omega
      have hqle : w.heap.size + 1 ≤ wr.heap.size := by omega
      clear e0
      clear hb6 hQ cC
      have d3 := hprX.out.cell 3
      have g3 := hprX.out.f 3
      have hprY : IsC (w5.setCell ⟨w2.heap.size, 3, none⟩ (.slice qa (rcP Q).length qc)) w2.heap.size 38 #[.int .i64 1, .int .u64 0, .int .i64 0, .slice qa (rcP Q).length qc, .int .u32 0, .int .u32 0, .int .i64 0, .int .u64 0, .int .i64 0, .slice none 0 0, .int .i64 0, .string ⟨#[]⟩] := (hprX.out.set 3 (.slice qa (rcP Q).length qc))
      have hbxY : IsC (w5.setCell ⟨w2.heap.size, 3, none⟩ (.slice qa (rcP Q).length qc)) w.heap.size 38 #[.int .i64 0, .int .u64 0, .int .i64 0, .slice none 0 0, .int .u32 0, .int .u32 0, .int .i64 0, .int .u64 0, .int .i64 0, .slice none 0 0, .int .i64 0, .string ⟨#[]⟩] := (hbxX.out.set_other (c := w2.heap.size) (i := 3) (v := .slice qa (rcP Q).length qc) hne26)
      have hbY : Below w.heap.size w (w5.setCell ⟨w2.heap.size, 3, none⟩ (.slice qa (rcP Q).length qc)) := (hbX.out.setCell (p := ⟨w2.heap.size, 3, none⟩) hle26 (.slice qa (rcP Q).length qc))
      have hqY := OwnQ.mono ((hQX.out.set (i := 3) (v := .slice qa (rcP Q).length qc) hq26)) hqle
      replace hprY := Hd hprY
      replace hbxY := Hd hbxY
      replace hbY := Hd hbY
      go_wp2_with fail
      go_meet
      rw [hR2.out]
      exact ⟨qa, qc, none, 0, hprY.out, hbxY.out, hbY.out, hqY, OwnQ.nil _ _⟩
     ·have hbe : behF t0 = 32 :: t0 := if_neg ht0
      have hlI : (0 : Int) < ((text t0).size : Int) := by
       rw [text_size]
       have : t0.length ≠ 0 := fun h => ht0 (List.eq_nil_of_length_eq_zero h)
       omega
      have q9 : ¬ 9223372036854775807 < (5 + 1 : Nat) := by omega
      have q8 : ¬ 9223372036854775807 < 6 + (text t0).size := by rw [text_size]; omega
      have cC := rcut_c (⟨#[101, 32, 49, 32, 49]⟩ ++ ⟨#[32]⟩ ++ text t0) (by rw [ByteArray.size_append, ByteArray.size_append, text_size]; show 5 + 1 + _ ≤ _; omega) wr
      rw [byts_append, byts_append, byts_text, show byts ⟨#[101, 32, 49, 32, 49]⟩ ++ byts ⟨#[32]⟩ ++ t0 = [101, 32, 49, 32, 49] ++ (32 :: t0) from rfl, ← hbe] at cC
      have hR2 := Hd ((hGF.out (by decide)).trans (show rgO 1 t0 = ⟨1, 0, 0, rcP (rcutF ([101, 32, 49, 32, 49] ++ behF t0)), 0, 0, 0, 0, 0, [], 0, sS⟩ from rfl))
      clear hGF hG8
      generalize rcutF ([101, 32, 49, 32, 49] ++ behF t0) = Q at *
      replace cC := Hd cC
      replace hbe := Hd hbe
      replace ht0 := Hd ht0
      go_wp2_with fail
      refine cC.out.mono ?_
      rintro x w5 ⟨⟨qa, qc, rfl, hQ⟩, hb6⟩
      have hQX := Hd hQ
      have hprX := Hd (isC_of hb6 hpr.out)
      have hbxX := Hd (isC_of hb6 hbox.out)
      have hbX := Hd (below_up hb5.out hb5s hb6)
      have hq26 : w2.heap.size < wr.heap.size := hpr.out.lt
      have hqw : w.heap.size < wr.heap.size := by omega
      have hqle : w.heap.size + 1 ≤ wr.heap.size := by omega
      clear e0
      clear hb6 hQ cC
      have d3 := hprX.out.cell 3
      have g3 := hprX.out.f 3
      have hprY : IsC (w5.setCell ⟨w2.heap.size, 3, none⟩ (.slice qa (rcP Q).length qc)) w2.heap.size 38 #[.int .i64 1, .int .u64 0, .int .i64 0, .slice qa (rcP Q).length qc, .int .u32 0, .int .u32 0, .int .i64 0, .int .u64 0, .int .i64 0, .slice none 0 0, .int .i64 0, .string ⟨#[]⟩] := (hprX.out.set 3 (.slice qa (rcP Q).length qc))
      have hbxY : IsC (w5.setCell ⟨w2.heap.size, 3, none⟩ (.slice qa (rcP Q).length qc)) w.heap.size 38 #[.int .i64 0, .int .u64 0, .int .i64 0, .slice none 0 0, .int .u32 0, .int .u32 0, .int .i64 0, .int .u64 0, .int .i64 0, .slice none 0 0, .int .i64 0, .string ⟨#[]⟩] := (hbxX.out.set_other (c := w2.heap.size) (i := 3) (v := .slice qa (rcP Q).length qc) hne26)
      have hbY : Below w.heap.size w (w5.setCell ⟨w2.heap.size, 3, none⟩ (.slice qa (rcP Q).length qc)) := (hbX.out.setCell (p := ⟨w2.heap.size, 3, none⟩) hle26 (.slice qa (rcP Q).length qc))
      have hqY := OwnQ.mono ((hQX.out.set (i := 3) (v := .slice qa (rcP Q).length qc) hq26)) hqle
      replace hprY := Hd hprY
      replace hbxY := Hd hbxY
      replace hbY := Hd hbY
      go_wp2_with fail
      go_meet
      rw [hR2.out]
      exact ⟨qa, qc, none, 0, hprY.out, hbxY.out, hbY.out, hqY, OwnQ.nil _ _⟩
    by_cases k2 : kd = 2 ∨ kd = 3 ∨ kd = 5
    ·rcases k2 with rfl | rfl | rfl
     all_goals
      have e0 := hpr.out.cell 0
      have cC := rcut_c (⟨#[101, 32]⟩ ++ text t0) (by rw [ByteArray.size_append, text_size]; show 2 + _ ≤ _; omega) wr
      rw [byts_append, byts_text, show byts ⟨#[101, 32]⟩ = [101, 32] from rfl] at cC
      have q9 : ¬ 9223372036854775807 < 2 + (text t0).size := by rw [text_size]; omega
      have hR2 := Hd ((hGF.out (by decide)).trans (show rgO _ t0 = ⟨_, rcE (rcutF ([101, 32] ++ t0)), 0, rcP (rcutF ([101, 32] ++ t0)), 0, 0, 0, 0, 0, [], 0, sS⟩ from rfl))
      clear hGF hG8
      generalize rcutF ([101, 32] ++ t0) = Q at *
      replace cC := Hd cC
      go_wp2_with fail
      refine cC.out.mono ?_
      rintro x w5 ⟨⟨qa, qc, rfl, hQ⟩, hb6⟩
      have hQX := Hd hQ
      have hprX := Hd (isC_of hb6 hpr.out)
      have hbxX := Hd (isC_of hb6 hbox.out)
      have hbX := Hd (below_up hb5.out hb5s hb6)
      have hq26 : w2.heap.size < wr.heap.size := hpr.out.lt
      have hqw : w.heap.size < wr.heap.size := by omega
      have hqle : w.heap.size + 1 ≤ wr.heap.size := by omega
      clear e0
      clear hb6 hQ cC
      have d1 := hprX.out.cell 1
      have d3 := hprX.out.cell 3
      have g1 := hprX.out.f 1
      have g3 := hprX.out.f 3
      have hprY : IsC ((w5.setCell ⟨w2.heap.size, 1, none⟩ (.int .u64 (rcE Q))).setCell ⟨w2.heap.size, 3, none⟩ (.slice qa (rcP Q).length qc)) w2.heap.size 38 #[.int .i64 _, .int .u64 (rcE Q), .int .i64 0, .slice qa (rcP Q).length qc, .int .u32 0, .int .u32 0, .int .i64 0, .int .u64 0, .int .i64 0, .slice none 0 0, .int .i64 0, .string ⟨#[]⟩] := ((hprX.out.set 1 (.int .u64 (rcE Q))).set 3 (.slice qa (rcP Q).length qc))
      have hbxY : IsC ((w5.setCell ⟨w2.heap.size, 1, none⟩ (.int .u64 (rcE Q))).setCell ⟨w2.heap.size, 3, none⟩ (.slice qa (rcP Q).length qc)) w.heap.size 38 #[.int .i64 0, .int .u64 0, .int .i64 0, .slice none 0 0, .int .u32 0, .int .u32 0, .int .i64 0, .int .u64 0, .int .i64 0, .slice none 0 0, .int .i64 0, .string ⟨#[]⟩] := ((hbxX.out.set_other (c := w2.heap.size) (i := 1) (v := .int .u64 (rcE Q)) hne26).set_other (c := w2.heap.size) (i := 3) (v := .slice qa (rcP Q).length qc) hne26)
      have hbY : Below w.heap.size w ((w5.setCell ⟨w2.heap.size, 1, none⟩ (.int .u64 (rcE Q))).setCell ⟨w2.heap.size, 3, none⟩ (.slice qa (rcP Q).length qc)) := ((hbX.out.setCell (p := ⟨w2.heap.size, 1, none⟩) hle26 (.int .u64 (rcE Q))).setCell (p := ⟨w2.heap.size, 3, none⟩) hle26 (.slice qa (rcP Q).length qc))
      have hqY := OwnQ.mono (((hQX.out.set (i := 1) (v := .int .u64 (rcE Q)) hq26).set (i := 3) (v := .slice qa (rcP Q).length qc) hq26)) hqle
      replace hprY := Hd hprY
      replace hbxY := Hd hbxY
      replace hbY := Hd hbY
      go_wp2_with fail
      go_meet
      rw [hR2.out]
      exact ⟨qa, qc, none, 0, hprY.out, hbxY.out, hbY.out, hqY, OwnQ.nil _ _⟩
    simp only [not_or] at k2
    obtain ⟨k2, k3, k5⟩ := k2
    by_cases k4 : kd = 4 ∨ kd = 6
    ·rcases k4 with rfl | rfl
     all_goals
      have e0 := hpr.out.cell 0
      have b1 := bcut_c (text t0) (by rw [text_size]; omega) wr
      have hbl := bcut_le t0
      rw [byts_text] at b1
      have hR2 := Hd ((hGF.out (by decide)).trans (show rgO _ t0 = ⟨_, entR (numGo 0 (bcut t0).1) (numGo 0 (bcut (bcut t0).2).1), numGo 0 (bcut (bcut t0).2).2, [], 0, 0, 0, 0, 0, [], 0, sS⟩ from rfl))
      clear hGF hG8
      have hbl2 := bcut_le (bcut t0).2
      have hn1 := numGo_bd (bcut t0).1 0 (by omega)
      have hn2 := numGo_bd (bcut (bcut t0).2).1 0 (by omega)
      have b2 := fun w' => bcut_c (text (bcut t0).2) (by rw [text_size]; omega) w'
      have n1 := rnum_c (text (bcut t0).1) (by rw [text_size]; omega)
      have n2 := rnum_c (text (bcut (bcut t0).2).1) (by rw [text_size]; omega)
      have n3 := rnum_c (text (bcut (bcut t0).2).2) (by rw [text_size]; omega)
      rw [byts_text] at b2 n1 n2 n3
      unfold entR at hR2
      generalize bcut (bcut t0).2 = B2 at *
      generalize (bcut t0).1 = B11 at *
      generalize (bcut t0).2 = B12 at *
      obtain ⟨B21, B22⟩ := B2
      dsimp only at *
      generalize numGo 0 B11 = M1 at *
      generalize numGo 0 B21 = M2 at *
      generalize numGo 0 B22 = M3 at *
      clear hbl hbl2
      replace b1 := Hd b1
      replace b2 := Hd b2
      replace n1 := Hd n1
      replace n2 := Hd n2
      replace n3 := Hd n3
      go_wp2_with fail
      refine b1.out.mono ?_
      rintro x w5 ⟨rfl, hb6⟩
      have hprX := Hd (isC_of hb6 hpr.out)
      have hbxX := Hd (isC_of hb6 hbox.out)
      have hbX := Hd (below_up hb5.out hb5s hb6)
      have hbXs := hbX.out.size
      clear hb6 b1 e0
      go_wp2_with fail
      refine (b2.out _).mono ?_
      rintro x w6 ⟨rfl, hb7⟩
      replace hprX := Hd (isC_of hb7 hprX.out)
      replace hbxX := Hd (isC_of hb7 hbxX.out)
      replace hbX := Hd (below_up hbX.out hbXs hb7)
      clear hb7 b2 hbXs
      go_wp2_with fail
      refine (n2.out.on _).mono ?_
      rintro x w' ⟨rfl, rfl⟩
      go_wp2_with fail
      refine (n1.out.on _).mono ?_
      rintro x w' ⟨rfl, rfl⟩
      have u1 : IntKind.u64.wrap M1 = M1 := Go.IntWalk.u64_in _ ⟨by omega, by omega⟩
      have u2 : IntKind.u64.wrap M2 = M2 := Go.IntWalk.u64_in _ ⟨by omega, by omega⟩
      have u3 : IntKind.u64.wrap (M2 % 4294967296 * 4294967296) = M2 % 4294967296 * 4294967296 := Go.IntWalk.u64_in _ ⟨by omega, by omega⟩
      have u4 : IntKind.u64.wrap (M2 % 4294967296 * 4294967296 + M1 % 4294967296) = M2 % 4294967296 * 4294967296 + M1 % 4294967296 := Go.IntWalk.u64_in _ ⟨by omega, by omega⟩
      have d1 := hprX.out.cell 1
      have g1 := hprX.out.f 1
      go_wp2_with fail
      refine (n3.out.on _).mono ?_
      rintro x w' ⟨rfl, rfl⟩
      have d2 := (hprX.out.set 1 (.int .u64 (M2 % 4294967296 * 4294967296 + M1 % 4294967296))).cell 2
      have g2 := (hprX.out.set 1 (.int .u64 (M2 % 4294967296 * 4294967296 + M1 % 4294967296))).f 2
      clear n1 n2 n3
      have hprY : IsC ((w6.setCell ⟨w2.heap.size, 1, none⟩ (.int .u64 (M2 % 4294967296 * 4294967296 + M1 % 4294967296))).setCell ⟨w2.heap.size, 2, none⟩ (.int .i64 M3)) w2.heap.size 38 #[.int .i64 _, .int .u64 (M2 % 4294967296 * 4294967296 + M1 % 4294967296), .int .i64 M3, .slice none 0 0, .int .u32 0, .int .u32 0, .int .i64 0, .int .u64 0, .int .i64 0, .slice none 0 0, .int .i64 0, .string ⟨#[]⟩] := ((hprX.out.set 1 (.int .u64 (M2 % 4294967296 * 4294967296 + M1 % 4294967296))).set 2 (.int .i64 M3))
      have hbxY : IsC ((w6.setCell ⟨w2.heap.size, 1, none⟩ (.int .u64 (M2 % 4294967296 * 4294967296 + M1 % 4294967296))).setCell ⟨w2.heap.size, 2, none⟩ (.int .i64 M3)) w.heap.size 38 #[.int .i64 0, .int .u64 0, .int .i64 0, .slice none 0 0, .int .u32 0, .int .u32 0, .int .i64 0, .int .u64 0, .int .i64 0, .slice none 0 0, .int .i64 0, .string ⟨#[]⟩] := ((hbxX.out.set_other (c := w2.heap.size) (i := 1) (v := .int .u64 (M2 % 4294967296 * 4294967296 + M1 % 4294967296)) hne26).set_other (c := w2.heap.size) (i := 2) (v := .int .i64 M3) hne26)
      have hbY : Below w.heap.size w ((w6.setCell ⟨w2.heap.size, 1, none⟩ (.int .u64 (M2 % 4294967296 * 4294967296 + M1 % 4294967296))).setCell ⟨w2.heap.size, 2, none⟩ (.int .i64 M3)) := ((hbX.out.setCell (p := ⟨w2.heap.size, 1, none⟩) hle26 (.int .u64 (M2 % 4294967296 * 4294967296 + M1 % 4294967296))).setCell (p := ⟨w2.heap.size, 2, none⟩) hle26 (.int .i64 M3))
      replace hprY := Hd hprY
      replace hbxY := Hd hbxY
      replace hbY := Hd hbY
      go_wp2_with fail
      go_meet
      rw [hR2.out]
      exact ⟨none, 0, none, 0, hprY.out, hbxY.out, hbY.out, OwnQ.nil _ _, OwnQ.nil _ _⟩
    simp only [not_or] at k4
    obtain ⟨k4, k6⟩ := k4
    by_cases k7 : kd = 7
    ·subst k7
     have e0 := hpr.out.cell 0
     have cQ := rq_c (text t0) (by rw [text_size]; omega) wr
     rw [byts_text] at cQ
     have hR2 := Hd ((hGF.out (by decide)).trans (show rgO 7 t0 = ⟨7, 0, 0, [], ((rqF t0).1 : Int), ((rqF t0).2.1 : Int), 0, 0, 0, [], 0, sS⟩ from rfl))
     clear hGF hG8
     generalize rqF t0 = Q at *
     obtain ⟨QA, QN, Qb⟩ := Q
     dsimp only at *
     replace cQ := Hd cQ
     go_wp2_with fail
     refine cQ.out.mono ?_
     rintro x w5 ⟨rfl, hb6⟩
     have hprX := Hd (isC_of hb6 hpr.out)
     have hbxX := Hd (isC_of hb6 hbox.out)
     have hbX := Hd (below_up hb5.out hb5s hb6)
     have hq26 : w2.heap.size < wr.heap.size := hpr.out.lt
     have hqw : w.heap.size < wr.heap.size := by omega
     have hqle : w.heap.size + 1 ≤ wr.heap.size := by omega
     clear e0
     clear hb6 cQ
     have d4 := hprX.out.cell 4
     have d5 := hprX.out.cell 5
     have g4 := hprX.out.f 4
     have g5 := hprX.out.f 5
     have hprY : IsC ((w5.setCell ⟨w2.heap.size, 4, none⟩ (.int .u32 (QA : Int))).setCell ⟨w2.heap.size, 5, none⟩ (.int .u32 (QN : Int))) w2.heap.size 38 #[.int .i64 7, .int .u64 0, .int .i64 0, .slice none 0 0, .int .u32 (QA : Int), .int .u32 (QN : Int), .int .i64 0, .int .u64 0, .int .i64 0, .slice none 0 0, .int .i64 0, .string ⟨#[]⟩] := ((hprX.out.set 4 (.int .u32 (QA : Int))).set 5 (.int .u32 (QN : Int)))
     have hbxY : IsC ((w5.setCell ⟨w2.heap.size, 4, none⟩ (.int .u32 (QA : Int))).setCell ⟨w2.heap.size, 5, none⟩ (.int .u32 (QN : Int))) w.heap.size 38 #[.int .i64 0, .int .u64 0, .int .i64 0, .slice none 0 0, .int .u32 0, .int .u32 0, .int .i64 0, .int .u64 0, .int .i64 0, .slice none 0 0, .int .i64 0, .string ⟨#[]⟩] := ((hbxX.out.set_other (c := w2.heap.size) (i := 4) (v := .int .u32 (QA : Int)) hne26).set_other (c := w2.heap.size) (i := 5) (v := .int .u32 (QN : Int)) hne26)
     have hbY : Below w.heap.size w ((w5.setCell ⟨w2.heap.size, 4, none⟩ (.int .u32 (QA : Int))).setCell ⟨w2.heap.size, 5, none⟩ (.int .u32 (QN : Int))) := ((hbX.out.setCell (p := ⟨w2.heap.size, 4, none⟩) hle26 (.int .u32 (QA : Int))).setCell (p := ⟨w2.heap.size, 5, none⟩) hle26 (.int .u32 (QN : Int)))
     replace hprY := Hd hprY
     replace hbxY := Hd hbxY
     replace hbY := Hd hbY
     go_wp2_with fail
     go_meet
     rw [hR2.out]
     exact ⟨none, 0, none, 0, hprY.out, hbxY.out, hbY.out, OwnQ.nil _ _, OwnQ.nil _ _⟩
    by_cases k9 : kd = 9
    ·subst k9
     have e0 := hpr.out.cell 0
     have cN := rnum_c (text t0) (by rw [text_size]; omega)
     rw [byts_text] at cN
     have hR2 := Hd ((hGF.out (by decide)).trans (show rgO 9 t0 = ⟨9, 0, 0, [], 0, 0, 0, 0, 0, [], numGo 0 t0, sS⟩ from rfl))
     clear hGF hG8
     generalize numGo 0 t0 = M at *
     replace cN := Hd cN
     go_wp2_with fail
     refine (cN.out.on _).mono ?_
     rintro x w' ⟨rfl, rfl⟩
     have hprX := hpr
     have hbxX := hbox
     have hbX := hb5
     clear cN
     have d10 := hprX.out.cell 10
     have g10 := hprX.out.f 10
     have hprY : IsC (wr.setCell ⟨w2.heap.size, 10, none⟩ (.int .i64 M)) w2.heap.size 38 #[.int .i64 9, .int .u64 0, .int .i64 0, .slice none 0 0, .int .u32 0, .int .u32 0, .int .i64 0, .int .u64 0, .int .i64 0, .slice none 0 0, .int .i64 M, .string ⟨#[]⟩] := (hprX.out.set 10 (.int .i64 M))
     have hbxY : IsC (wr.setCell ⟨w2.heap.size, 10, none⟩ (.int .i64 M)) w.heap.size 38 #[.int .i64 0, .int .u64 0, .int .i64 0, .slice none 0 0, .int .u32 0, .int .u32 0, .int .i64 0, .int .u64 0, .int .i64 0, .slice none 0 0, .int .i64 0, .string ⟨#[]⟩] := (hbxX.out.set_other (c := w2.heap.size) (i := 10) (v := .int .i64 M) hne26)
     have hbY : Below w.heap.size w (wr.setCell ⟨w2.heap.size, 10, none⟩ (.int .i64 M)) := (hbX.out.setCell (p := ⟨w2.heap.size, 10, none⟩) hle26 (.int .i64 M))
     replace hprY := Hd hprY
     replace hbxY := Hd hbxY
     replace hbY := Hd hbY
     go_wp2_with fail
     go_meet
     rw [hR2.out]
     exact ⟨none, 0, none, 0, hprY.out, hbxY.out, hbY.out, OwnQ.nil _ _, OwnQ.nil _ _⟩
    by_cases k10 : kd = 10
    ·subst k10
     have e0 := hpr.out.cell 0
     have cB := refBytes_c (text t0) (by rw [text_size]; omega) wr
     rw [byts_text] at cB
     have hR2 := Hd ((hGF.out (by decide)).trans (show rgO 10 t0 = ⟨10, 0, 0, [], 0, 0, 0, 0, 0, [], 0, text (bytesF t0).1⟩ from rfl))
     clear hGF hG8
     generalize bytesF t0 = Q at *
     obtain ⟨QB, Qe⟩ := Q
     dsimp only at *
     replace cB := Hd cB
     go_wp2_with fail
     refine cB.out.mono ?_
     rintro x w5 ⟨rfl, hb6⟩
     have hprX := Hd (isC_of hb6 hpr.out)
     have hbxX := Hd (isC_of hb6 hbox.out)
     have hbX := Hd (below_up hb5.out hb5s hb6)
     have hq26 : w2.heap.size < wr.heap.size := hpr.out.lt
     have hqw : w.heap.size < wr.heap.size := by omega
     have hqle : w.heap.size + 1 ≤ wr.heap.size := by omega
     clear e0
     clear hb6 cB
     have d11 := hprX.out.cell 11
     have g11 := hprX.out.f 11
     have hprY : IsC (w5.setCell ⟨w2.heap.size, 11, none⟩ (.string (text QB))) w2.heap.size 38 #[.int .i64 10, .int .u64 0, .int .i64 0, .slice none 0 0, .int .u32 0, .int .u32 0, .int .i64 0, .int .u64 0, .int .i64 0, .slice none 0 0, .int .i64 0, .string (text QB)] := (hprX.out.set 11 (.string (text QB)))
     have hbxY : IsC (w5.setCell ⟨w2.heap.size, 11, none⟩ (.string (text QB))) w.heap.size 38 #[.int .i64 0, .int .u64 0, .int .i64 0, .slice none 0 0, .int .u32 0, .int .u32 0, .int .i64 0, .int .u64 0, .int .i64 0, .slice none 0 0, .int .i64 0, .string ⟨#[]⟩] := (hbxX.out.set_other (c := w2.heap.size) (i := 11) (v := .string (text QB)) hne26)
     have hbY : Below w.heap.size w (w5.setCell ⟨w2.heap.size, 11, none⟩ (.string (text QB))) := (hbX.out.setCell (p := ⟨w2.heap.size, 11, none⟩) hle26 (.string (text QB)))
     replace hprY := Hd hprY
     replace hbxY := Hd hbxY
     replace hbY := Hd hbY
     go_wp2_with fail
     go_meet
     rw [hR2.out]
     exact ⟨none, 0, none, 0, hprY.out, hbxY.out, hbY.out, OwnQ.nil _ _, OwnQ.nil _ _⟩
    by_cases k8 : kd = 8
    ·subst k8
     rcases hG8.out rfl with ⟨hd, hR⟩ | ⟨hd, y, hyK, cG, hR⟩
     ·have e9 : (d == 0) = false := beq_eq_false_iff_ne.2 hd
      have hR2 := Hd hR
      clear hGF hG8 hR
      have hprX := hpr
      have hbxX := hbox
      have hbX := hb5
      have e0 := hprX.out.cell 0
      have hprY : IsC wr w2.heap.size 38 #[.int .i64 8, .int .u64 0, .int .i64 0, .slice none 0 0, .int .u32 0, .int .u32 0, .int .i64 0, .int .u64 0, .int .i64 0, .slice none 0 0, .int .i64 0, .string ⟨#[]⟩] := hprX.out
      have hbxY : IsC wr w.heap.size 38 #[.int .i64 0, .int .u64 0, .int .i64 0, .slice none 0 0, .int .u32 0, .int .u32 0, .int .i64 0, .int .u64 0, .int .i64 0, .slice none 0 0, .int .i64 0, .string ⟨#[]⟩] := hbxX.out
      have hbY : Below w.heap.size w wr := hbX.out
      replace hprY := Hd hprY
      replace hbxY := Hd hbxY
      replace hbY := Hd hbY
      go_wp2_with fail
      go_meet
      rw [hR2.out]
      exact ⟨none, 0, none, 0, hprY.out, hbxY.out, hbY.out, OwnQ.nil _ _, OwnQ.nil _ _⟩
     ·subst hd
      obtain ⟨yK, yE, yC, yP, yA, yN, ycK, ycE, ycC, ycP, yU, yB⟩ := y
      dsimp only at hyK hR
      obtain ⟨m, hm⟩ := Int.eq_ofNat_of_zero_le hyK.1
      subst hm
      have hm12 : m < 12 := by omega
      have hm12I : (m : Int) < 12 := by omega
      have cGw := cG wr
      unfold Guessed opv at cGw
      dsimp only at cGw
      have hR2 := Hd hR
      replace cGw := Hd cGw
      have e0 := hpr.out.cell 0
      clear hGF hG8 hR cG hyK
      go_wp2_with fail
      refine cGw.out.mono ?_
      rintro x w5 ⟨⟨qa, qc, qb, qd, rfl, hQ, _⟩, hb6⟩
      have hq26 : w2.heap.size < wr.heap.size := hpr.out.lt
      have hqw : w.heap.size < wr.heap.size := by omega
      have hqle : w.heap.size + 1 ≤ wr.heap.size := by omega
      have hw5 := hb6.size
      have hne8 : w5.heap.size ≠ w2.heap.size := by omega
      have hne9 : w5.heap.size + 1 ≠ w2.heap.size := by omega
      have hq1' := below1 w5 (.cells #[.int .i64 (m : Int), .int .u64 yE, .int .i64 yC, .slice qa yP.length qc, .int .u32 yA, .int .u32 yN, .int .i64 ycK, .int .u64 ycE, .int .i64 ycC, .slice qb ycP.length qd, .int .i64 yU, .string yB] 38)
      have hq2' := below1 (w5.alloc (.cells #[.int .i64 (m : Int), .int .u64 yE, .int .i64 yC, .slice qa yP.length qc, .int .u32 yA, .int .u32 yN, .int .i64 ycK, .int .u64 ycE, .int .i64 ycC, .slice qb ycP.length qd, .int .i64 yU, .string yB] 38)) (.cells #[.int .i64 0, .int .i64 1, .int .i64 2, .int .i64 3, .int .i64 5, .int .i64 4, .int .i64 0, .int .i64 0, .int .i64 0, .int .i64 0, .int .i64 0, .int .i64 0] 135)
      have hY0 := (IsC.new w5 38 #[.int .i64 (m : Int), .int .u64 yE, .int .i64 yC, .slice qa yP.length qc, .int .u32 yA, .int .u32 yN, .int .i64 ycK, .int .u64 ycE, .int .i64 ycC, .slice qb ycP.length qd, .int .i64 yU, .string yB]).alloc (.cells #[.int .i64 0, .int .i64 1, .int .i64 2, .int .i64 3, .int .i64 5, .int .i64 4, .int .i64 0, .int .i64 0, .int .i64 0, .int .i64 0, .int .i64 0, .int .i64 0] 135)
      have hK0 := IsC.new (w5.alloc (.cells #[.int .i64 (m : Int), .int .u64 yE, .int .i64 yC, .slice qa yP.length qc, .int .u32 yA, .int .u32 yN, .int .i64 ycK, .int .u64 ycE, .int .i64 ycC, .slice qb ycP.length qd, .int .i64 yU, .string yB] 38)) 135 #[.int .i64 0, .int .i64 1, .int .i64 2, .int .i64 3, .int .i64 5, .int .i64 4, .int .i64 0, .int .i64 0, .int .i64 0, .int .i64 0, .int .i64 0, .int .i64 0]
      rw [size_alloc] at hK0
      have hpr7 := ((isC_of hb6 hpr.out).alloc (.cells #[.int .i64 (m : Int), .int .u64 yE, .int .i64 yC, .slice qa yP.length qc, .int .u32 yA, .int .u32 yN, .int .i64 ycK, .int .u64 ycE, .int .i64 ycC, .slice qb ycP.length qd, .int .i64 yU, .string yB] 38)).alloc (.cells #[.int .i64 0, .int .i64 1, .int .i64 2, .int .i64 3, .int .i64 5, .int .i64 4, .int .i64 0, .int .i64 0, .int .i64 0, .int .i64 0, .int .i64 0, .int .i64 0] 135)
      have hbx7 := ((isC_of hb6 hbox.out).alloc (.cells #[.int .i64 (m : Int), .int .u64 yE, .int .i64 yC, .slice qa yP.length qc, .int .u32 yA, .int .u32 yN, .int .i64 ycK, .int .u64 ycE, .int .i64 ycC, .slice qb ycP.length qd, .int .i64 yU, .string yB] 38)).alloc (.cells #[.int .i64 0, .int .i64 1, .int .i64 2, .int .i64 3, .int .i64 5, .int .i64 4, .int .i64 0, .int .i64 0, .int .i64 0, .int .i64 0, .int .i64 0, .int .i64 0] 135)
      have hb6' := below_up hb5.out hb5s hb6
      have hb7 := (hb6'.alloc hb6'.size (.cells #[.int .i64 (m : Int), .int .u64 yE, .int .i64 yC, .slice qa yP.length qc, .int .u32 yA, .int .u32 yN, .int .i64 ycK, .int .u64 ycE, .int .i64 ycC, .slice qb ycP.length qd, .int .i64 yU, .string yB] 38)).alloc (hb6'.alloc hb6'.size (.cells #[.int .i64 (m : Int), .int .u64 yE, .int .i64 yC, .slice qa yP.length qc, .int .u32 yA, .int .u32 yN, .int .i64 ycK, .int .u64 ycE, .int .i64 ycC, .slice qb ycP.length qd, .int .i64 yU, .string yB] 38)).size (.cells #[.int .i64 0, .int .i64 1, .int .i64 2, .int .i64 3, .int .i64 5, .int .i64 4, .int .i64 0, .int .i64 0, .int .i64 0, .int .i64 0, .int .i64 0, .int .i64 0] 135)
      have hQ7 := (hQ.below hq1').below hq2'
      have hkc : ((w5.alloc (.cells #[.int .i64 (m : Int), .int .u64 yE, .int .i64 yC, .slice qa yP.length qc, .int .u32 yA, .int .u32 yN, .int .i64 ycK, .int .u64 ycE, .int .i64 ycC, .slice qb ycP.length qd, .int .i64 yU, .string yB] 38)).alloc (.cells #[.int .i64 0, .int .i64 1, .int .i64 2, .int .i64 3, .int .i64 5, .int .i64 4, .int .i64 0, .int .i64 0, .int .i64 0, .int .i64 0, .int .i64 0, .int .i64 0] 135)).cell? ⟨w5.heap.size + 1, m, none⟩ = some (.int .i64 (rcmdK (m : Int))) := by
       rw [hK0.cell]
       match m, hm12 with
       | 0, _ => rfl
       | 1, _ => rfl
       | 2, _ => rfl
       | 3, _ => rfl
       | 4, _ => rfl
       | 5, _ => rfl
       | 6, _ => rfl
       | 7, _ => rfl
       | 8, _ => rfl
       | 9, _ => rfl
       | 10, _ => rfl
       | 11, _ => rfl
      obtain ⟨W7, hW7⟩ : ∃ W7, (w5.alloc (.cells #[.int .i64 (m : Int), .int .u64 yE, .int .i64 yC, .slice qa yP.length qc, .int .u32 yA, .int .u32 yN, .int .i64 ycK, .int .u64 ycE, .int .i64 ycC, .slice qb ycP.length qd, .int .i64 yU, .string yB] 38)).alloc (.cells #[.int .i64 0, .int .i64 1, .int .i64 2, .int .i64 3, .int .i64 5, .int .i64 4, .int .i64 0, .int .i64 0, .int .i64 0, .int .i64 0, .int .i64 0, .int .i64 0] 135) = W7 := ⟨_, rfl⟩
      rw [hW7] at hY0 hpr7 hbx7 hb7 hQ7 hkc
      replace hW7 := Hd hW7
      have hprX := Hd hpr7
      have hbxX := Hd hbx7
      have hbX := Hd hb7
      have hQX := Hd hQ7
      replace hY0 := Hd hY0
      replace hkc := Hd hkc
      clear hb6 hQ hq1' hq2' hK0 hpr7 hbx7 hb6' hb7 hQ7 cGw e0
      go_wp2_with fail
      rw [hW7.out]
      have u0 := hY0.out.cell 0
      have u1 := hY0.out.cell 1
      have u2 := hY0.out.cell 2
      have u3 := hY0.out.cell 3
      have u4 := hkc.out
      have d6 := hprX.out.cell 6
      have d7 := hprX.out.cell 7
      have d8 := hprX.out.cell 8
      have d9 := hprX.out.cell 9
      have g6 := hprX.out.f 6
      have g7 := hprX.out.f 7
      have g8 := hprX.out.f 8
      have g9 := hprX.out.f 9
      go_still_tail 12, (by kernel_rfl)
      change wpList _ _ _ _ _ W7.drew
      replace hbX := Hd (below_drewed hbX.out)
      replace hQX := Hd (hQX.out.below (below_drewed (Below.refl _ _)))
      have hprY : IsC ((((W7.drew.setCell ⟨w2.heap.size, 6, none⟩ (.int .i64 (rcmdK (m : Int)))).setCell ⟨w2.heap.size, 7, none⟩ (.int .u64 yE)).setCell ⟨w2.heap.size, 8, none⟩ (.int .i64 yC)).setCell ⟨w2.heap.size, 9, none⟩ (.slice qa yP.length qc)) w2.heap.size 38 #[.int .i64 8, .int .u64 0, .int .i64 0, .slice none 0 0, .int .u32 0, .int .u32 0, .int .i64 (rcmdK (m : Int)), .int .u64 yE, .int .i64 yC, .slice qa yP.length qc, .int .i64 0, .string ⟨#[]⟩] := ((((hprX.out.set 6 (.int .i64 (rcmdK (m : Int)))).set 7 (.int .u64 yE)).set 8 (.int .i64 yC)).set 9 (.slice qa yP.length qc))
      have hbxY : IsC ((((W7.drew.setCell ⟨w2.heap.size, 6, none⟩ (.int .i64 (rcmdK (m : Int)))).setCell ⟨w2.heap.size, 7, none⟩ (.int .u64 yE)).setCell ⟨w2.heap.size, 8, none⟩ (.int .i64 yC)).setCell ⟨w2.heap.size, 9, none⟩ (.slice qa yP.length qc)) w.heap.size 38 #[.int .i64 0, .int .u64 0, .int .i64 0, .slice none 0 0, .int .u32 0, .int .u32 0, .int .i64 0, .int .u64 0, .int .i64 0, .slice none 0 0, .int .i64 0, .string ⟨#[]⟩] := ((((hbxX.out.set_other (c := w2.heap.size) (i := 6) (v := .int .i64 (rcmdK (m : Int))) hne26).set_other (c := w2.heap.size) (i := 7) (v := .int .u64 yE) hne26).set_other (c := w2.heap.size) (i := 8) (v := .int .i64 yC) hne26).set_other (c := w2.heap.size) (i := 9) (v := .slice qa yP.length qc) hne26)
      have hbY : Below w.heap.size w ((((W7.drew.setCell ⟨w2.heap.size, 6, none⟩ (.int .i64 (rcmdK (m : Int)))).setCell ⟨w2.heap.size, 7, none⟩ (.int .u64 yE)).setCell ⟨w2.heap.size, 8, none⟩ (.int .i64 yC)).setCell ⟨w2.heap.size, 9, none⟩ (.slice qa yP.length qc)) := ((((hbX.out.setCell (p := ⟨w2.heap.size, 6, none⟩) hle26 (.int .i64 (rcmdK (m : Int)))).setCell (p := ⟨w2.heap.size, 7, none⟩) hle26 (.int .u64 yE)).setCell (p := ⟨w2.heap.size, 8, none⟩) hle26 (.int .i64 yC)).setCell (p := ⟨w2.heap.size, 9, none⟩) hle26 (.slice qa yP.length qc))
      have hqY := OwnQ.mono (((((hQX.out.set (i := 6) (v := .int .i64 (rcmdK (m : Int))) hq26).set (i := 7) (v := .int .u64 yE) hq26).set (i := 8) (v := .int .i64 yC) hq26).set (i := 9) (v := .slice qa yP.length qc) hq26)) hqle
      replace hprY := Hd hprY
      replace hbxY := Hd hbxY
      replace hbY := Hd hbY
      go_wp2_with fail
      go_meet
      rw [hR2.out]
      exact ⟨none, 0, qa, qc, hprY.out, hbxY.out, hbY.out, OwnQ.nil _ _, hqY⟩
    exfalso
    omega
   case rest =>
    clear hpr hbox hb5 hGF hG8
    obtain ⟨qa, qc, qb, qd, hprX, hbxX, hbX, hQ1, hQ2⟩ := hcut
    obtain ⟨rK, rE, rC, rP, rA, rN, rcK, rcE, rcC, rcP, rU, rB⟩ := R
    dsimp only at *
    have hq27 : w.heap.size < wc.heap.size := hbxX.lt
    obtain ⟨f0, f1, f2, f3, f4, f5, f6, f7, f8, f9, f10, f11⟩ := fr12 hbxX
    obtain ⟨x0, x1, x2, x3, x4, x5, x6, x7, x8, x9, x10, x11⟩ := cells12 hbxX
    obtain ⟨y0, y1, y2, y3, y4, y5, y6, y7, y8, y9, y10, y11⟩ := cells12 hprX
    have hs12 : IsC (set12 wc w.heap.size (.int .i64 rK) (.int .u64 rE) (.int .i64 rC) (.slice qa rP.length qc) (.int .u32 rA) (.int .u32 rN) (.int .i64 rcK) (.int .u64 rcE) (.int .i64 rcC) (.slice qb rcP.length qd) (.int .i64 rU) (.string rB)) w.heap.size 38 #[.int .i64 rK, .int .u64 rE, .int .i64 rC, .slice qa rP.length qc, .int .u32 rA, .int .u32 rN, .int .i64 rcK, .int .u64 rcE, .int .i64 rcC, .slice qb rcP.length qd, .int .i64 rU, .string rB] := isC_set12 (w := wc) hbxX
    have t0 := Hd (hs12.cell 0)
    have t1 := Hd (hs12.cell 1)
    have t2 := Hd (hs12.cell 2)
    have t3 := Hd (hs12.cell 3)
    have t4 := Hd (hs12.cell 4)
    have t5 := Hd (hs12.cell 5)
    have t6 := Hd (hs12.cell 6)
    have t7 := Hd (hs12.cell 7)
    have t8 := Hd (hs12.cell 8)
    have t9 := Hd (hs12.cell 9)
    have t10 := Hd (hs12.cell 10)
    have t11 := Hd (hs12.cell 11)
    have hfin := Hd (show Below w.heap.size w (set12 wc w.heap.size (.int .i64 rK) (.int .u64 rE) (.int .i64 rC) (.slice qa rP.length qc) (.int .u32 rA) (.int .u32 rN) (.int .i64 rcK) (.int .u64 rcE) (.int .i64 rcC) (.slice qb rcP.length qd) (.int .i64 rU) (.string rB)) from below_set12 (w := wc) hbX (Nat.le_refl _))
    have hq1 := Hd (OwnQ.mono (OwnQ.set12 (w := wc) (b := w.heap.size) (v0 := .int .i64 rK) (v1 := .int .u64 rE) (v2 := .int .i64 rC) (v3 := .slice qa rP.length qc) (v4 := .int .u32 rA) (v5 := .int .u32 rN) (v6 := .int .i64 rcK) (v7 := .int .u64 rcE) (v8 := .int .i64 rcC) (v9 := .slice qb rcP.length qd) (v10 := .int .i64 rU) (v11 := .string rB) hQ1 (Nat.lt_succ_self _)) (Nat.le_succ _))
    have hq2 := Hd (OwnQ.mono (OwnQ.set12 (w := wc) (b := w.heap.size) (v0 := .int .i64 rK) (v1 := .int .u64 rE) (v2 := .int .i64 rC) (v3 := .slice qa rP.length qc) (v4 := .int .u32 rA) (v5 := .int .u32 rN) (v6 := .int .i64 rcK) (v7 := .int .u64 rcE) (v8 := .int .i64 rcC) (v9 := .slice qb rcP.length qd) (v10 := .int .i64 rU) (v11 := .string rB) hQ2 (Nat.lt_succ_self _)) (Nat.le_succ _))
    clear hs12 hprX hbxX hbX hQ1 hQ2
    go_wp2_with fail
    obtain ⟨wf, hwf⟩ : ∃ wf, set12 wc w.heap.size (.int .i64 rK) (.int .u64 rE) (.int .i64 rC) (.slice qa rP.length qc) (.int .u32 rA) (.int .u32 rN) (.int .i64 rcK) (.int .u64 rcE) (.int .i64 rcC) (.slice qb rcP.length qd) (.int .i64 rU) (.string rB) = wf := ⟨_, rfl⟩
    have s0 := t0.out
    have s1 := t1.out
    have s2 := t2.out
    have s3 := t3.out
    have s4 := t4.out
    have s5 := t5.out
    have s6 := t6.out
    have s7 := t7.out
    have s8 := t8.out
    have s9 := t9.out
    have s10 := t10.out
    have s11 := t11.out
    have r0 := hfin.out
    have r1 := hq1.out
    have r2 := hq2.out
    rw [hwf] at s0 s1 s2 s3 s4 s5 s6 s7 s8 s9 s10 s11 r0 r1 r2
    rw [show ((((((((((((wc.setCell ⟨w.heap.size, 0, none⟩ (.int .i64 rK)).setCell ⟨w.heap.size, 1, none⟩ (.int .u64 rE)).setCell ⟨w.heap.size, 2, none⟩ (.int .i64 rC)).setCell ⟨w.heap.size, 3, none⟩ (.slice qa rP.length qc)).setCell ⟨w.heap.size, 4, none⟩ (.int .u32 rA)).setCell ⟨w.heap.size, 5, none⟩ (.int .u32 rN)).setCell ⟨w.heap.size, 6, none⟩ (.int .i64 rcK)).setCell ⟨w.heap.size, 7, none⟩ (.int .u64 rcE)).setCell ⟨w.heap.size, 8, none⟩ (.int .i64 rcC)).setCell ⟨w.heap.size, 9, none⟩ (.slice qb rcP.length qd)).setCell ⟨w.heap.size, 10, none⟩ (.int .i64 rU)).setCell ⟨w.heap.size, 11, none⟩ (.string rB)) = wf from hwf]
    (try simp only [Exit.inBlock, Exit.then])
    refine bodyPost_ret (by simp [results, Tryz.results41, go_sem, s0, s1, s2, s3, s4, s5, s6, s7, s8, s9, s10, s11]; try rfl) rfl ?_
    exact ⟨⟨qa, qc, qb, qd, rfl, r1, r2⟩, r0⟩
theorem rguess1F_K (l : List UInt8) : 0 ≤ (rguess1F l).K ∧ (rguess1F l).K ≤ 11 := by
 have h := kindOf_bd (bcut l).1
 unfold rguess1F rgO
 repeat' split
 all_goals exact h
theorem rguess1_c (s : ByteArray) (hs : s.size ≤ 99500) (w : World) :
 Calls Tryz.prog 41 #[.string s, .int .i64 1] w fun e w' => Guessed w (rguess1F (byts s)) e w' :=
 rguessA s hs 1 w _ _ rfl rfl _ (fun _ => rfl) (fun h8 => .inl ⟨by decide, by unfold rguess1F; rw [h8]; rfl⟩)
/-- an op guessed of a line -/
theorem rguess_c (s : ByteArray) (hs : s.size ≤ 99500) (w : World) :
 Calls Tryz.prog 41 #[.string s, .int .i64 0] w fun e w' => Guessed w (rguessF (byts s)) e w' :=
 rguessA s hs 0 w _ _ rfl rfl _ (fun h8 => by unfold rguessF; rw [if_neg h8]; rfl) (fun h8 => .inr ⟨rfl, rguess1F (bcut (byts s)).2, rguess1F_K _, fun w' => by
  have hl := (bcut_le (byts s)).2
  rw [byts_length] at hl
  have h1 := rguess1_c (text (bcut (byts s)).2) (by rw [text_size]; omega) w'
  rw [byts_text] at h1
  exact h1, by unfold rguessF; rw [if_pos h8]⟩)
end Go.Proofs.YtjjgbillihedgaaGreatDoor
