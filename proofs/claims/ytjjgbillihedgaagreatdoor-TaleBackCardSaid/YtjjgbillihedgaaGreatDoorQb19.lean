/- parts of the proof, merged: TlC5, TlC6, TlD1 -/
import Derived.Test.YtjjgbillihedgaaGreatDoorQb18
set_option linter.unusedSimpArgs false
set_option linter.unusedVariables false
set_option maxHeartbeats 64000000
set_option maxRecDepth 100000
namespace Go.Proofs.YtjjgbillihedgaaGreatDoor
open Go.RowKit
open Rf
open Sg
open Wide
open Tl
namespace Tl
/-- the op of a line; its error -/
def parseOF (l : List UInt8) : OpD × Int := if l = [] ∨ lineF (guessF l) ≠ l then (zeroO, 4) else (guessF l, 0)
theorem small_mem {l : List UInt8} (hl : l.length ≤ 99900) : u64 (cutF l).1 ∧ Tl.Small (cutF l).2.1 ∧ (cutF l).2.1.length ≤ 100000 := by
 unfold cutF
 dsimp only
 split
 ·refine ⟨entF_u64 _ _, ⟨?_, fun p hp => ?_⟩, ?_⟩
  ·dsimp only
   rw [List.length_map, List.length_map, List.length_drop]
   have := segsQ_len 32 l
   omega
  ·rw [List.map_map] at hp
   obtain ⟨x, hx, rfl⟩ := List.mem_map.1 hp
   refine ⟨cutPart_ok x, ?_⟩
   have h1 := cutPart_len x
   have h2 := segsQ_mem 32 l x (List.mem_of_mem_drop hx)
   show (cutPartF x).1.V.length ≤ _
   omega
  ·dsimp only
   rw [List.length_map, List.length_map, List.length_drop]
   have := segsQ_len 32 l
   omega
 ·exact ⟨by unfold u64; dsimp only; omega, small_nil, by simp⟩
theorem parseQ_u32 (l : List UInt8) : u32 (parseQF l).1 ∧ u32 (parseQF l).2.1 := by
 unfold parseQF
 dsimp only
 have h1 := parseS_lt (text (Lib.cut l notL).1)
 have h2 := parseS_lt (text (Lib.cut l notL).2.1)
 split
 ·unfold u32; dsimp only; omega
 ·unfold u32; dsimp only; omega
theorem unhex_len : ∀ (l d : List UInt8), unhexF l = some d → d.length ≤ l.length
 | [], d, h => by cases h; exact Nat.le_refl _
 | [_], d, h => by cases h
 | a :: b :: r, d, h => by
   rw [unhexF] at h
   split at h
   ·cases h
   ·obtain ⟨x, hx, rfl⟩ := Option.map_eq_some_iff.1 h
    have := unhex_len r x hx
    simp
    omega
theorem bytesF_len (l : List UInt8) : (bytesF l).1.length ≤ l.length := by
 unfold bytesF
 cases h : unhexF l with
 | none => simp
 | some d => exact unhex_len l d h
theorem gO_small (k : Int) (hk : 0 ≤ k ∧ k ≤ 11) (t : List UInt8) (ht : t.length ≤ 99500) : OpSmall (gO k t) ∧ (gO k t).cP = [] := by
 have hz : i64 0 ∧ u64 0 ∧ u32 0 := by unfold i64 u64 u32; omega
 have hik : i64 k := by unfold i64; omega
 have hm : sS.size ≤ maxLen := by unfold maxLen; show 0 ≤ _; omega
 have mk : ∀ (E C : Int) (P : List PartD) (A N U : Int) (B : ByteArray), u64 E → i64 C → Tl.Small P → P.length ≤ 100000 → u32 A → u32 N → i64 U → B.size ≤ maxLen → OpSmall ⟨k, E, C, P, A, N, 0, 0, 0, [], U, B⟩ :=
  fun E C P A N U B h1 h2 h3 h4 h5 h6 h7 h8 => ⟨⟨hik, h1, h2, fun p hp => (h3.2 p hp).1, h5, h6, hz.1, hz.2.1, hz.1, by simp, h7⟩, h3, h4, small_nil, by simp, h8⟩
 have hb := behF_len t
 obtain ⟨c1, c2, c3⟩ := small_mem (l := [101, 32, 49, 32, 49] ++ behF t) (by rw [List.length_append]; simp; omega)
 obtain ⟨d1, d2, d3⟩ := small_mem (l := [101, 32] ++ t) (by rw [List.length_append]; simp; omega)
 obtain ⟨q1, q2⟩ := parseQ_u32 t
 have hbl := bytesF_len t
 unfold gO
 by_cases k1 : k = 1
 ·rw [if_pos k1]; exact ⟨mk 0 0 _ 0 0 0 sS hz.2.1 hz.1 c2 (by omega) hz.2.2 hz.2.2 hz.1 hm, rfl⟩
 rw [if_neg k1]
 by_cases k2 : k = 2
 ·rw [if_pos k2]; exact ⟨mk _ 0 _ 0 0 0 sS d1 hz.1 d2 (by omega) hz.2.2 hz.2.2 hz.1 hm, rfl⟩
 rw [if_neg k2]
 by_cases k3 : k = 3
 ·rw [if_pos k3]; exact ⟨mk _ 0 _ 0 0 0 sS d1 hz.1 d2 (by omega) hz.2.2 hz.2.2 hz.1 hm, rfl⟩
 rw [if_neg k3]
 by_cases k5 : k = 5
 ·rw [if_pos k5]; exact ⟨mk _ 0 _ 0 0 0 sS d1 hz.1 d2 (by omega) hz.2.2 hz.2.2 hz.1 hm, rfl⟩
 rw [if_neg k5]
 by_cases k4 : k = 4
 ·rw [if_pos k4]; exact ⟨mk _ _ _ 0 0 0 sS (entF_u64 _ _) (atoi_bd _) small_nil (by simp) hz.2.2 hz.2.2 hz.1 hm, rfl⟩
 rw [if_neg k4]
 by_cases k6 : k = 6
 ·rw [if_pos k6]; exact ⟨mk _ _ _ 0 0 0 sS (entF_u64 _ _) (atoi_bd _) small_nil (by simp) hz.2.2 hz.2.2 hz.1 hm, rfl⟩
 rw [if_neg k6]
 by_cases k7 : k = 7
 ·rw [if_pos k7]; exact ⟨mk 0 0 _ _ _ 0 sS hz.2.1 hz.1 small_nil (by simp) q1 q2 hz.1 hm, rfl⟩
 rw [if_neg k7]
 by_cases k9 : k = 9
 ·rw [if_pos k9]; exact ⟨mk 0 0 _ 0 0 _ sS hz.2.1 hz.1 small_nil (by simp) hz.2.2 hz.2.2 (atoi_bd _) hm, rfl⟩
 rw [if_neg k9]
 by_cases k10 : k = 10
 ·rw [if_pos k10]; exact ⟨mk 0 0 _ 0 0 0 _ hz.2.1 hz.1 small_nil (by simp) hz.2.2 hz.2.2 hz.1 (by rw [text_size]; unfold maxLen; omega), rfl⟩
 rw [if_neg k10]
 exact ⟨mk 0 0 _ 0 0 0 sS hz.2.1 hz.1 small_nil (by simp) hz.2.2 hz.2.2 hz.1 hm, rfl⟩
theorem guess1_small (l : List UInt8) (hl : l.length ≤ 99500) : OpSmall (guess1F l) :=
 (gO_small _ (kindOf_bd _) _ (Nat.le_trans (cut_le l [32]).2 hl)).1
theorem guess_small (l : List UInt8) (hl : l.length ≤ 99500) : OpSmall (guessF l) := by
 have ht := Nat.le_trans (cut_le l [32]).2 hl
 have hz : i64 0 ∧ u64 0 ∧ u32 0 := by unfold i64 u64 u32; omega
 have hm : sS.size ≤ maxLen := by unfold maxLen; show 0 ≤ _; omega
 unfold guessF
 dsimp only
 split
 ·have h1 := guess1_small (Lib.cut l [32]).2.1 ht
  have hk := asCmdK_bd (guess1F (Lib.cut l [32]).2.1).K
  exact ⟨⟨by unfold i64; dsimp only; omega, hz.2.1, hz.1, by simp, hz.2.2, hz.2.2, by unfold i64; dsimp only; omega, h1.ok.E, h1.ok.C, h1.ok.P, hz.1⟩, small_nil, by simp, h1.P, h1.L, hm⟩
 ·exact guess1_small l hl
end Tl
theorem parseO_c (s : ByteArray) (hs : s.size ≤ 99500) (w : World) (hg : GlobT w) :
 Calls Tryz.prog 13 #[.string s] w fun e w' => (∃ a c b d, e = .returned (.tuple #[opv (parseOF (byts s)).1 (.slice a (parseOF (byts s)).1.P.length c) (.slice b (parseOF (byts s)).1.cP.length d), .int .i64 (parseOF (byts s)).2]) ∧ OwnQ w' w.heap.size a c (parseOF (byts s)).1.P ∧ OwnQ w' w.heap.size b d (parseOF (byts s)).1.cP) ∧ Below w.heap.size w w' := by
 have hb0 := below1 w (.cells #[.int .i64 0, .int .u64 0, .int .i64 0, .slice none 0 0, .int .u32 0, .int .u32 0, .int .i64 0, .int .u64 0, .int .i64 0, .slice none 0 0, .int .i64 0, .string ⟨#[]⟩] 32)
 have hbox := IsC.new w 32 #[.int .i64 0, .int .u64 0, .int .i64 0, .slice none 0 0, .int .u32 0, .int .u32 0, .int .i64 0, .int .u64 0, .int .i64 0, .slice none 0 0, .int .i64 0, .string ⟨#[]⟩]
 have hg0 := hg.on hb0
 have hsz0 := size_alloc w (.cells #[.int .i64 0, .int .u64 0, .int .i64 0, .slice none 0 0, .int .u32 0, .int .u32 0, .int .i64 0, .int .u64 0, .int .i64 0, .slice none 0 0, .int .i64 0, .string ⟨#[]⟩] 32)
 have cG := guess_c s hs _ hg0
 have hsm := guess_small (byts s) (by rw [byts_length]; omega)
 obtain ⟨R, hR⟩ : ∃ R, parseOF (byts s) = R := ⟨_, rfl⟩
 rw [hR]
 unfold parseOF at hR
 have cL2 := fun st tt w' (hi : OpIn w' (guessF (byts s)) st tt) (hg : GlobT w') => line_c (guessF (byts s)) hsm st tt w' hi hg
 have hcmp := bytes_eq (text (lineF (guessF (byts s)))) s
 rw [byts_text] at hcmp
 have e0 := str_empty s
 generalize lineF (guessF (byts s)) = T at *
 generalize guessF (byts s) = y at *
 obtain ⟨yK, yE, yC, yP, yA, yN, ycK, ycE, ycC, ycP, yU, yB⟩ := y
 unfold Guessed opv at cG
 unfold opv at cL2
 dsimp only at cG cL2
 rw [hsz0] at cG
 replace cG := Hd cG
 replace cL2 := Hd cL2
 replace hb0 := Hd hb0
 replace hbox := Hd hbox
 clear hsm
 have hb0s := hb0.out.size
 go_enter Tryz.func13, Tryz.ntmps13
 go_wp2_with fail
 refine cG.out.mono ?_
 rintro x w1 ⟨⟨qa, qc, qb, qd, rfl, hQ1, hQ2⟩, hb1⟩
 have hbq := below1 w1 (.cells #[.int .i64 yK, .int .u64 yE, .int .i64 yC, .slice qa yP.length qc, .int .u32 yA, .int .u32 yN, .int .i64 ycK, .int .u64 ycE, .int .i64 ycC, .slice qb ycP.length qd, .int .i64 yU, .string yB] 32)
 rw [← hsz0] at hb1
 have hg1 := (hg0.on hb1).on hbq
 have hbX2 := below_up hb0.out hb0s hb1
 have hbxX := Hd ((isC_of hb1 hbox.out).alloc (.cells #[.int .i64 yK, .int .u64 yE, .int .i64 yC, .slice qa yP.length qc, .int .u32 yA, .int .u32 yN, .int .i64 ycK, .int .u64 ycE, .int .i64 ycC, .slice qb ycP.length qd, .int .i64 yU, .string yB] 32))
 have hlt1 := (isC_of hb1 hbox.out).lt
 have hprX := Hd (IsC.new w1 32 #[.int .i64 yK, .int .u64 yE, .int .i64 yC, .slice qa yP.length qc, .int .u32 yA, .int .u32 yN, .int .i64 ycK, .int .u64 ycE, .int .i64 ycC, .slice qb ycP.length qd, .int .i64 yU, .string yB])
 have hbX := Hd (hbX2.alloc hbX2.size (.cells #[.int .i64 yK, .int .u64 yE, .int .i64 yC, .slice qa yP.length qc, .int .u32 yA, .int .u32 yN, .int .i64 ycK, .int .u64 ycE, .int .i64 ycC, .slice qb ycP.length qd, .int .i64 yU, .string yB] 32))
 replace hQ1 := Hd (hQ1.below hbq)
 replace hQ2 := Hd (hQ2.below hbq)
 have hqw : w.heap.size < w.heap.size + 1 := Nat.lt_succ_self _
 have hqle : w.heap.size ≤ w.heap.size + 1 := Nat.le_succ _
 have cL3 := Hd (cL2.out (.slice qa yP.length qc) (.slice qb ycP.length qd) _ ⟨OwnQ.in hQ1.out, OwnQ.in hQ2.out⟩ hg1)
 clear hb1 hbq hbX2 cG hb0 hbox cL2 hb0s
 have hbXs := hbX.out.size
 cases hby : byts s with
 | nil =>
   have e1 : (s.toList == []) = true := by rw [e0, hby]; rfl
   clear e0
   rw [hby, if_pos (.inl rfl)] at hR
   have hR2 := Hd hR.symm
   clear hR cL3 hby
   clear hprX hlt1 hQ1 hQ2
   obtain ⟨W, hW⟩ : ∃ W, w1.alloc (.cells #[.int .i64 yK, .int .u64 yE, .int .i64 yC, .slice qa yP.length qc, .int .u32 yA, .int .u32 yN, .int .i64 ycK, .int .u64 ycE, .int .i64 ycC, .slice qb ycP.length qd, .int .i64 yU, .string yB] 32) = W := ⟨_, rfl⟩
   rw [hW] at hbxX hbX hbXs hg1
   obtain ⟨f0, f1, f2, f3, f4, f5, f6, f7, f8, f9, f10, f11⟩ := fr12 hbxX.out
   obtain ⟨x0, x1, x2, x3, x4, x5, x6, x7, x8, x9, x10, x11⟩ := cells12 hbxX.out
   have hs12 : IsC (set12 W w.heap.size (.int .i64 0) (.int .u64 0) (.int .i64 0) (.slice none 0 0) (.int .u32 0) (.int .u32 0) (.int .i64 0) (.int .u64 0) (.int .i64 0) (.slice none 0 0) (.int .i64 0) (.string ⟨#[]⟩)) w.heap.size 32 #[.int .i64 0, .int .u64 0, .int .i64 0, .slice none 0 0, .int .u32 0, .int .u32 0, .int .i64 0, .int .u64 0, .int .i64 0, .slice none 0 0, .int .i64 0, .string ⟨#[]⟩] := isC_set12 (w := W) hbxX.out
   have t0 := Hd (hs12.cell 0)
   have t1 := Hd (hs12.cell 1)
   have t2 := Hd (hs12.cell 2)
   have t3 := Hd (hs12.cell 3)
   have t4 := Hd (hs12.cell 4)
   have t5 := Hd (hs12.cell 5)
   have t6 := Hd (hs12.cell 6)
   have t7 := Hd (hs12.cell 7)
   have t8 := Hd (hs12.cell 8)
   have t9 := Hd (hs12.cell 9)
   have t10 := Hd (hs12.cell 10)
   have t11 := Hd (hs12.cell 11)
   have hfin := Hd (show Below w.heap.size w (set12 W w.heap.size (.int .i64 0) (.int .u64 0) (.int .i64 0) (.slice none 0 0) (.int .u32 0) (.int .u32 0) (.int .i64 0) (.int .u64 0) (.int .i64 0) (.slice none 0 0) (.int .i64 0) (.string ⟨#[]⟩)) from below_set12 (w := W) hbX.out (Nat.le_refl _))
   clear hs12 hbxX hbX
   go_wp2_with fail
   obtain ⟨wf, hwf⟩ : ∃ wf, set12 W w.heap.size (.int .i64 0) (.int .u64 0) (.int .i64 0) (.slice none 0 0) (.int .u32 0) (.int .u32 0) (.int .i64 0) (.int .u64 0) (.int .i64 0) (.slice none 0 0) (.int .i64 0) (.string ⟨#[]⟩) = wf := ⟨_, rfl⟩
   have s0 := t0.out
   have s1 := t1.out
   have s2 := t2.out
   have s3 := t3.out
   have s4 := t4.out
   have s5 := t5.out
   have s6 := t6.out
   have s7 := t7.out
   have s8 := t8.out
   have s9 := t9.out
   have s10 := t10.out
   have s11 := t11.out
   have r0 := hfin.out
   rw [hwf] at s0 s1 s2 s3 s4 s5 s6 s7 s8 s9 s10 s11 r0
   rw [show ((((((((((((W.setCell ⟨w.heap.size, 0, none⟩ (.int .i64 0)).setCell ⟨w.heap.size, 1, none⟩ (.int .u64 0)).setCell ⟨w.heap.size, 2, none⟩ (.int .i64 0)).setCell ⟨w.heap.size, 3, none⟩ (.slice none 0 0)).setCell ⟨w.heap.size, 4, none⟩ (.int .u32 0)).setCell ⟨w.heap.size, 5, none⟩ (.int .u32 0)).setCell ⟨w.heap.size, 6, none⟩ (.int .i64 0)).setCell ⟨w.heap.size, 7, none⟩ (.int .u64 0)).setCell ⟨w.heap.size, 8, none⟩ (.int .i64 0)).setCell ⟨w.heap.size, 9, none⟩ (.slice none 0 0)).setCell ⟨w.heap.size, 10, none⟩ (.int .i64 0)).setCell ⟨w.heap.size, 11, none⟩ (.string ⟨#[]⟩)) = wf from hwf]
   (try simp only [Exit.inBlock, Exit.then])
   refine bodyPost_ret (by simp [results, Tryz.results13, go_sem, s0, s1, s2, s3, s4, s5, s6, s7, s8, s9, s10, s11]; try rfl) rfl ?_
   rw [hR2.out]
   exact ⟨⟨none, 0, none, 0, rfl, OwnQ.nil _ _, OwnQ.nil _ _⟩, r0⟩
 | cons bc br =>
   have e1 : (s.toList == []) = false := by rw [e0, hby]; rfl
   have hnn : ¬ byts s = [] := by rw [hby]; simp
   clear e0 hby
   by_cases hE : T = byts s
   ·rw [if_neg (by rintro (h | h); exact hnn h; exact h hE)] at hR
    rw [decide_eq_true hE] at hcmp
    have hR2 := Hd hR.symm
    clear hR hE hnn
    obtain ⟨j0, j1, j2, j3, j4, j5, j6, j7, j8, j9, j10, j11⟩ := cells12 hprX.out
    go_wp2_with fail
    refine cL3.out.mono ?_
    rintro x w2 ⟨rfl, hb2⟩
    replace hbxX := Hd (isC_of hb2 hbxX.out)
    replace hprX := Hd (isC_of hb2 hprX.out)
    replace hbX := Hd (below_up hbX.out hbXs hb2)
    replace hQ1 := Hd (hQ1.out.below hb2)
    replace hQ2 := Hd (hQ2.out.below hb2)
    clear hb2 hbXs cL3
    obtain ⟨f0, f1, f2, f3, f4, f5, f6, f7, f8, f9, f10, f11⟩ := fr12 hbxX.out
    obtain ⟨x0, x1, x2, x3, x4, x5, x6, x7, x8, x9, x10, x11⟩ := cells12 hbxX.out
    obtain ⟨y0, y1, y2, y3, y4, y5, y6, y7, y8, y9, y10, y11⟩ := cells12 hprX.out
    have hs12 : IsC (set12 w2 w.heap.size (.int .i64 yK) (.int .u64 yE) (.int .i64 yC) (.slice qa yP.length qc) (.int .u32 yA) (.int .u32 yN) (.int .i64 ycK) (.int .u64 ycE) (.int .i64 ycC) (.slice qb ycP.length qd) (.int .i64 yU) (.string yB)) w.heap.size 32 #[.int .i64 yK, .int .u64 yE, .int .i64 yC, .slice qa yP.length qc, .int .u32 yA, .int .u32 yN, .int .i64 ycK, .int .u64 ycE, .int .i64 ycC, .slice qb ycP.length qd, .int .i64 yU, .string yB] := isC_set12 (w := w2) hbxX.out
    have t0 := Hd (hs12.cell 0)
    have t1 := Hd (hs12.cell 1)
    have t2 := Hd (hs12.cell 2)
    have t3 := Hd (hs12.cell 3)
    have t4 := Hd (hs12.cell 4)
    have t5 := Hd (hs12.cell 5)
    have t6 := Hd (hs12.cell 6)
    have t7 := Hd (hs12.cell 7)
    have t8 := Hd (hs12.cell 8)
    have t9 := Hd (hs12.cell 9)
    have t10 := Hd (hs12.cell 10)
    have t11 := Hd (hs12.cell 11)
    have hfin := Hd (show Below w.heap.size w (set12 w2 w.heap.size (.int .i64 yK) (.int .u64 yE) (.int .i64 yC) (.slice qa yP.length qc) (.int .u32 yA) (.int .u32 yN) (.int .i64 ycK) (.int .u64 ycE) (.int .i64 ycC) (.slice qb ycP.length qd) (.int .i64 yU) (.string yB)) from below_set12 (w := w2) hbX.out (Nat.le_refl _))
    have hq1 := Hd (OwnQ.mono (OwnQ.set12 (w := w2) (v0 := .int .i64 yK) (v1 := .int .u64 yE) (v2 := .int .i64 yC) (v3 := .slice qa yP.length qc) (v4 := .int .u32 yA) (v5 := .int .u32 yN) (v6 := .int .i64 ycK) (v7 := .int .u64 ycE) (v8 := .int .i64 ycC) (v9 := .slice qb ycP.length qd) (v10 := .int .i64 yU) (v11 := .string yB) hQ1.out hqw) hqle)
    have hq2 := Hd (OwnQ.mono (OwnQ.set12 (w := w2) (v0 := .int .i64 yK) (v1 := .int .u64 yE) (v2 := .int .i64 yC) (v3 := .slice qa yP.length qc) (v4 := .int .u32 yA) (v5 := .int .u32 yN) (v6 := .int .i64 ycK) (v7 := .int .u64 ycE) (v8 := .int .i64 ycC) (v9 := .slice qb ycP.length qd) (v10 := .int .i64 yU) (v11 := .string yB) hQ2.out hqw) hqle)
    clear hs12 hprX hbxX hbX
    go_wp2_with fail
    obtain ⟨wf, hwf⟩ : ∃ wf, set12 w2 w.heap.size (.int .i64 yK) (.int .u64 yE) (.int .i64 yC) (.slice qa yP.length qc) (.int .u32 yA) (.int .u32 yN) (.int .i64 ycK) (.int .u64 ycE) (.int .i64 ycC) (.slice qb ycP.length qd) (.int .i64 yU) (.string yB) = wf := ⟨_, rfl⟩
    have s0 := t0.out
    have s1 := t1.out
    have s2 := t2.out
    have s3 := t3.out
    have s4 := t4.out
    have s5 := t5.out
    have s6 := t6.out
    have s7 := t7.out
    have s8 := t8.out
    have s9 := t9.out
    have s10 := t10.out
    have s11 := t11.out
    have r0 := hfin.out
    have hq1' := hq1.out
    have hq2' := hq2.out
    rw [hwf] at s0 s1 s2 s3 s4 s5 s6 s7 s8 s9 s10 s11 r0 hq1' hq2'
    rw [show ((((((((((((w2.setCell ⟨w.heap.size, 0, none⟩ (.int .i64 yK)).setCell ⟨w.heap.size, 1, none⟩ (.int .u64 yE)).setCell ⟨w.heap.size, 2, none⟩ (.int .i64 yC)).setCell ⟨w.heap.size, 3, none⟩ (.slice qa yP.length qc)).setCell ⟨w.heap.size, 4, none⟩ (.int .u32 yA)).setCell ⟨w.heap.size, 5, none⟩ (.int .u32 yN)).setCell ⟨w.heap.size, 6, none⟩ (.int .i64 ycK)).setCell ⟨w.heap.size, 7, none⟩ (.int .u64 ycE)).setCell ⟨w.heap.size, 8, none⟩ (.int .i64 ycC)).setCell ⟨w.heap.size, 9, none⟩ (.slice qb ycP.length qd)).setCell ⟨w.heap.size, 10, none⟩ (.int .i64 yU)).setCell ⟨w.heap.size, 11, none⟩ (.string yB)) = wf from hwf]
    (try simp only [Exit.inBlock, Exit.then])
    refine bodyPost_ret (by simp [results, Tryz.results13, go_sem, s0, s1, s2, s3, s4, s5, s6, s7, s8, s9, s10, s11]; try rfl) rfl ?_
    rw [hR2.out]
    exact ⟨⟨qa, qc, qb, qd, rfl, hq1', hq2'⟩, r0⟩
   ·rw [if_pos (.inr hE)] at hR
    rw [decide_eq_false hE] at hcmp
    have hR2 := Hd hR.symm
    clear hR hE hnn
    obtain ⟨j0, j1, j2, j3, j4, j5, j6, j7, j8, j9, j10, j11⟩ := cells12 hprX.out
    go_wp2_with fail
    refine cL3.out.mono ?_
    rintro x w2 ⟨rfl, hb2⟩
    replace hbxX := Hd (isC_of hb2 hbxX.out)
    replace hprX := Hd (isC_of hb2 hprX.out)
    replace hbX := Hd (below_up hbX.out hbXs hb2)
    replace hQ1 := Hd (hQ1.out.below hb2)
    replace hQ2 := Hd (hQ2.out.below hb2)
    clear hb2 hbXs cL3
    obtain ⟨f0, f1, f2, f3, f4, f5, f6, f7, f8, f9, f10, f11⟩ := fr12 hbxX.out
    obtain ⟨x0, x1, x2, x3, x4, x5, x6, x7, x8, x9, x10, x11⟩ := cells12 hbxX.out
    have hs12 : IsC (set12 w2 w.heap.size (.int .i64 0) (.int .u64 0) (.int .i64 0) (.slice none 0 0) (.int .u32 0) (.int .u32 0) (.int .i64 0) (.int .u64 0) (.int .i64 0) (.slice none 0 0) (.int .i64 0) (.string ⟨#[]⟩)) w.heap.size 32 #[.int .i64 0, .int .u64 0, .int .i64 0, .slice none 0 0, .int .u32 0, .int .u32 0, .int .i64 0, .int .u64 0, .int .i64 0, .slice none 0 0, .int .i64 0, .string ⟨#[]⟩] := isC_set12 (w := w2) hbxX.out
    have t0 := Hd (hs12.cell 0)
    have t1 := Hd (hs12.cell 1)
    have t2 := Hd (hs12.cell 2)
    have t3 := Hd (hs12.cell 3)
    have t4 := Hd (hs12.cell 4)
    have t5 := Hd (hs12.cell 5)
    have t6 := Hd (hs12.cell 6)
    have t7 := Hd (hs12.cell 7)
    have t8 := Hd (hs12.cell 8)
    have t9 := Hd (hs12.cell 9)
    have t10 := Hd (hs12.cell 10)
    have t11 := Hd (hs12.cell 11)
    have hfin := Hd (show Below w.heap.size w (set12 w2 w.heap.size (.int .i64 0) (.int .u64 0) (.int .i64 0) (.slice none 0 0) (.int .u32 0) (.int .u32 0) (.int .i64 0) (.int .u64 0) (.int .i64 0) (.slice none 0 0) (.int .i64 0) (.string ⟨#[]⟩)) from below_set12 (w := w2) hbX.out (Nat.le_refl _))
    clear hs12 hprX hbxX hbX
    go_wp2_with fail
    obtain ⟨wf, hwf⟩ : ∃ wf, set12 w2 w.heap.size (.int .i64 0) (.int .u64 0) (.int .i64 0) (.slice none 0 0) (.int .u32 0) (.int .u32 0) (.int .i64 0) (.int .u64 0) (.int .i64 0) (.slice none 0 0) (.int .i64 0) (.string ⟨#[]⟩) = wf := ⟨_, rfl⟩
    have s0 := t0.out
    have s1 := t1.out
    have s2 := t2.out
    have s3 := t3.out
    have s4 := t4.out
    have s5 := t5.out
    have s6 := t6.out
    have s7 := t7.out
    have s8 := t8.out
    have s9 := t9.out
    have s10 := t10.out
    have s11 := t11.out
    have r0 := hfin.out
    rw [hwf] at s0 s1 s2 s3 s4 s5 s6 s7 s8 s9 s10 s11 r0
    rw [show ((((((((((((w2.setCell ⟨w.heap.size, 0, none⟩ (.int .i64 0)).setCell ⟨w.heap.size, 1, none⟩ (.int .u64 0)).setCell ⟨w.heap.size, 2, none⟩ (.int .i64 0)).setCell ⟨w.heap.size, 3, none⟩ (.slice none 0 0)).setCell ⟨w.heap.size, 4, none⟩ (.int .u32 0)).setCell ⟨w.heap.size, 5, none⟩ (.int .u32 0)).setCell ⟨w.heap.size, 6, none⟩ (.int .i64 0)).setCell ⟨w.heap.size, 7, none⟩ (.int .u64 0)).setCell ⟨w.heap.size, 8, none⟩ (.int .i64 0)).setCell ⟨w.heap.size, 9, none⟩ (.slice none 0 0)).setCell ⟨w.heap.size, 10, none⟩ (.int .i64 0)).setCell ⟨w.heap.size, 11, none⟩ (.string ⟨#[]⟩)) = wf from hwf]
    (try simp only [Exit.inBlock, Exit.then])
    refine bodyPost_ret (by simp [results, Tryz.results13, go_sem, s0, s1, s2, s3, s4, s5, s6, s7, s8, s9, s10, s11]; try rfl) rfl ?_
    rw [hR2.out]
    exact ⟨⟨none, 0, none, 0, rfl, OwnQ.nil _ _, OwnQ.nil _ _⟩, r0⟩
namespace Tl
/-- where an op's parts lie, and its command's -/
abbrev Pl := (Option Addr × Nat) × (Option Addr × Nat)
def ocs (x : OpD × Pl) : List Value := [.int .i64 x.1.K, .int .u64 x.1.E, .int .i64 x.1.C, .slice x.2.1.1 x.1.P.length x.2.1.2, .int .u32 x.1.A, .int .u32 x.1.N, .int .i64 x.1.cK, .int .u64 x.1.cE, .int .i64 x.1.cC, .slice x.2.2.1 x.1.cP.length x.2.2.2, .int .i64 x.1.U, .string x.1.B]
def ovs (q : List (OpD × Pl)) : List Value := q.flatMap ocs
theorem ovs_append (l m : List (OpD × Pl)) : ovs (l ++ m) = ovs l ++ ovs m := by unfold ovs; rw [List.flatMap_append]
theorem ovs_get : ∀ (l : List (OpD × Pl)) (j : Nat) (hj : j < l.length) (i : Nat), i < 12 → (ovs l)[j * 12 + i]? = (ocs l[j])[i]?
 | x :: l, 0, _, i, hi => by
   have e : ovs (x :: l) = ocs x ++ ovs l := rfl
   rw [e, Nat.zero_mul, Nat.zero_add, List.getElem?_append_left (show i < (ocs x).length from hi)]
   rfl
 | x :: l, j + 1, hj, i, hi => by
   have e : ovs (x :: l) = ocs x ++ ovs l := rfl
   have el : (ocs x).length = 12 := rfl
   rw [e, List.getElem?_append_right (by rw [el]; omega), el, show (j + 1) * 12 + i - 12 = j * 12 + i by omega, ovs_get l j (by simpa using hj) i hi]
   simp only [List.getElem_cons_succ]
end Tl
/-- a row of ops that can be read -/
def InOps (w : World) (v : Value) (os : List OpD) : Prop := ∃ a c, v = .slice a os.length c ∧ (os = [] ∨ ∃ g o, a = some ⟨g, o, none⟩ ∧ g < w.heap.size ∧ ∀ j (hj : j < os.length), ∃ s t, (∀ i u, (opc os[j] s t)[i]? = some u → w.cell? ⟨g, o + j * 12 + i, none⟩ = some u) ∧ OpIn w os[j] s t)
theorem InOps.below {w w' : World} {v : Value} {os : List OpD} (h : InOps w v os) (hb : Below w.heap.size w w') : InOps w' v os := by
 obtain ⟨a, c, rfl, h⟩ := h
 refine ⟨a, c, rfl, ?_⟩
 rcases h with rfl | ⟨g, o, rfl, hg, hc⟩
 ·exact .inl rfl
 ·refine .inr ⟨g, o, rfl, Nat.lt_of_lt_of_le hg hb.size, fun j hj => ?_⟩
  obtain ⟨s, t, h0, h1⟩ := hc j hj
  exact ⟨s, t, fun i u hu => (hb.cell (p := ⟨g, o + j * 12 + i, none⟩) hg).trans (h0 i u hu), h1.below hb⟩
theorem InOps.at {w : World} {a : Option Addr} {n c : Nat} {os : List OpD} (h : InOps w (.slice a n c) os) (j : Nat) (hj : j < os.length) : ∃ g o s t, a = some ⟨g, o, none⟩ ∧ g < w.heap.size ∧ OpIn w os[j] s t ∧
 w.cell? ⟨g, o + j * 12, none⟩ = some (.int .i64 os[j].K) ∧ w.cell? ⟨g, o + j * 12 + 1, none⟩ = some (.int .u64 os[j].E) ∧ w.cell? ⟨g, o + j * 12 + 2, none⟩ = some (.int .i64 os[j].C) ∧ w.cell? ⟨g, o + j * 12 + 3, none⟩ = some s ∧ w.cell? ⟨g, o + j * 12 + 4, none⟩ = some (.int .u32 os[j].A) ∧ w.cell? ⟨g, o + j * 12 + 5, none⟩ = some (.int .u32 os[j].N) ∧ w.cell? ⟨g, o + j * 12 + 6, none⟩ = some (.int .i64 os[j].cK) ∧ w.cell? ⟨g, o + j * 12 + 7, none⟩ = some (.int .u64 os[j].cE) ∧ w.cell? ⟨g, o + j * 12 + 8, none⟩ = some (.int .i64 os[j].cC) ∧ w.cell? ⟨g, o + j * 12 + 9, none⟩ = some t ∧ w.cell? ⟨g, o + j * 12 + 10, none⟩ = some (.int .i64 os[j].U) ∧ w.cell? ⟨g, o + j * 12 + 11, none⟩ = some (.string os[j].B) := by
 obtain ⟨a', c', e, h⟩ := h
 cases e
 rcases h with rfl | ⟨g, o, h1, h2, h3⟩
 ·cases hj
 ·obtain ⟨s, t, k0, k1⟩ := h3 j hj
  exact ⟨g, o, s, t, h1, h2, k1, k0 0 _ rfl, k0 1 _ rfl, k0 2 _ rfl, k0 3 _ rfl, k0 4 _ rfl, k0 5 _ rfl, k0 6 _ rfl, k0 7 _ rfl, k0 8 _ rfl, k0 9 _ rfl, k0 10 _ rfl, k0 11 _ rfl⟩
/-- parts of the call's own are kept where a row of another type grows -/
theorem OwnV.kept {w w' : World} {B B' : Nat} {a : Option Addr} {c : Nat} {l : List WI} {T : TypeId} {k : Nat} {v : Value} {n : Nat} {xs : List Value} (h : OwnV w B a c l) (hr : w.ownsRow B' T k v n xs) (hT : 61 ≠ T) (hg : w.grownBy w' v.ownBlock) : OwnV w' B a c l :=
 World.ownsRow.kept h hg (own_apart h hr hT)
theorem OwnQ.kept {w w' : World} {B B' : Nat} {a : Option Addr} {c : Nat} {l : List PartD} {T : TypeId} {k : Nat} {v : Value} {n : Nat} {xs : List Value} (h : OwnQ w B a c l) (hr : w.ownsRow B' T k v n xs) (hT : 61 ≠ T) (hT2 : 65 ≠ T) (hg : w.grownBy w' v.ownBlock) : OwnQ w' B a c l := by
 obtain ⟨q, h1, h2, h3⟩ := h
 exact ⟨q, h1, World.ownsRow.kept h2 hg (own_apart h2 hr hT2), fun x hx => (h3 x hx).kept hr hT hg⟩
/-- ops of the call's own -/
def OwnO (w : World) (B : Nat) (a : Option Addr) (c : Nat) (l : List OpD) : Prop := ∃ q : List (OpD × Pl), q.map Prod.fst = l ∧ w.ownsRow B 32 12 (.slice a l.length c) l.length (ovs q) ∧ ∀ x ∈ q, OwnQ w B x.2.1.1 x.2.1.2 x.1.P ∧ OwnQ w B x.2.2.1 x.2.2.2 x.1.cP
theorem OwnO.nil (w : World) (B : Nat) : OwnO w B none 0 [] := ⟨[], rfl, World.ownsRow_nil w B 32 12, by simp⟩
theorem OwnO.below {w w' : World} {B : Nat} {a : Option Addr} {c : Nat} {l : List OpD} (h : OwnO w B a c l) (hb : Below w.heap.size w w') : OwnO w' B a c l := by
 obtain ⟨q, h1, h2, h3⟩ := h
 exact ⟨q, h1, World.ownsRow.kept (row := none) h2 ⟨hb.os, hb.tape, hb.output, hb.size, fun k hk _ => hb.block k hk⟩ (by cases (Value.slice a l.length c).ownBlock <;> simp), fun x hx => ⟨(h3 x hx).1.below hb, (h3 x hx).2.below hb⟩⟩
theorem OwnO.in {w : World} {B : Nat} {a : Option Addr} {c : Nat} {l : List OpD} (h : OwnO w B a c l) : InOps w (.slice a l.length c) l := by
 obtain ⟨q, h1, h2, h3⟩ := h
 have hql : q.length = l.length := by rw [← h1, List.length_map]
 rcases Nat.eq_zero_or_pos l.length with h0 | h0
 ·exact ⟨_, _, rfl, .inl (List.eq_nil_of_length_eq_zero h0)⟩
 ·rcases h2.2 with ⟨hv, hn⟩ | ⟨g, cap, cur, hv, hb, hg, hc⟩
  ·rw [hn] at h0; exact absurd h0 (by decide)
  ·obtain ⟨rfl, rfl⟩ : a = some ⟨g, 0, none⟩ ∧ c = cap := by cases hv; exact ⟨rfl, rfl⟩
   refine ⟨_, _, rfl, .inr ⟨g, 0, rfl, lt_of_block hg, fun j hj => ?_⟩⟩
   have key : ∀ i u, (ovs q)[i]? = some u → w.cell? ⟨g, i, none⟩ = some u := fun i u hu => by
    have := World.ownsRow.cells h2 (g := g) rfl i u hu
    rw [addr_add, Nat.zero_add] at this
    exact this
   have hjq : j < q.length := by omega
   have he : l[j] = q[j].1 := by
    subst h1
    exact List.getElem_map _
   obtain ⟨k1, k2⟩ := h3 _ (List.getElem_mem hjq)
   refine ⟨.slice q[j].2.1.1 q[j].1.P.length q[j].2.1.2, .slice q[j].2.2.1 q[j].1.cP.length q[j].2.2.2, fun i u hu => ?_, ?_⟩
   ·rw [Nat.zero_add]
    rw [he] at hu
    have hi : i < 12 := by
     rcases Nat.lt_or_ge i 12 with h | h
     ·exact h
     ·rw [Array.getElem?_eq_none (by show 12 ≤ i; exact h)] at hu; cases hu
    refine key _ _ ?_
    rw [ovs_get q j hjq i hi, ← hu]
    show (ocs q[j])[i]? = (ocs q[j]).toArray[i]?
    rw [List.getElem?_toArray]
   ·rw [he]
    exact ⟨OwnQ.in k1, OwnQ.in k2⟩
/-- one more -/
theorem OwnO.more {w w' : World} {B : Nat} {a : Option Addr} {c : Nat} {l : List OpD} {q : List (OpD × Pl)} (hq : q.map Prod.fst = l) (x : OpD) (p : Pl) (hrow : w.ownsRow B 32 12 (.slice a l.length c) l.length (ovs q)) (hold : ∀ x ∈ q, OwnQ w B x.2.1.1 x.2.1.2 x.1.P ∧ OwnQ w B x.2.2.1 x.2.2.2 x.1.cP)
 (h1 : OwnQ w B p.1.1 p.1.2 x.P) (h2 : OwnQ w B p.2.1 p.2.2 x.cP) {b' : Option Addr} {c' : Nat} (hg : w.grownBy w' (Value.slice a l.length c).ownBlock) (hr' : w'.ownsRow B 32 12 (.slice b' (l.length + 1) c') (l.length + 1) (ovs q ++ ocs (x, p))) : OwnO w' B b' c' (l ++ [x]) := by
 refine ⟨q ++ [(x, p)], by rw [List.map_append, hq]; rfl, ?_, fun y hy => ?_⟩
 ·rw [List.length_append, ovs_append]
  have e : ovs [(x, p)] = ocs (x, p) := by unfold ovs; simp
  rw [e]
  exact hr'
 ·rcases List.mem_append.1 hy with hy | hy
  ·exact ⟨(hold y hy).1.kept hrow (by decide) (by decide) hg, (hold y hy).2.kept hrow (by decide) (by decide) hg⟩
  ·rw [List.mem_singleton.1 hy]
   exact ⟨h1.kept hrow (by decide) (by decide) hg, h2.kept hrow (by decide) (by decide) hg⟩
theorem src_od (w : World) (x : OpD) (p : Pl) : Src Tryz.prog 12 55 (.slice (some ⟨w.heap.size, 0, none⟩) 1 1) 1 (ocs (x, p)) (w.alloc (.cells (opc x (.slice p.1.1 x.P.length p.1.2) (.slice p.2.1 x.cP.length p.2.2)) 32)) :=
 Src.ofSlice _ Tryz.underlying55 ⟨w.heap.size, 0, none⟩ 1 1 _ rfl (by
  intro j u hj
  rw [addr_add, Nat.zero_add]
  have hc := (IsC.new w 32 (opc x (.slice p.1.1 x.P.length p.1.2) (.slice p.2.1 x.cP.length p.2.2))).cell j
  have hlt : j < 12 := by
   rcases Nat.lt_or_ge j 12 with h | h
   ·exact h
   ·rw [List.getElem?_eq_none (by show 12 ≤ j; exact h)] at hj; cases hj
  rw [hc, ← hj]
  show (ocs (x, p)).toArray[j]? = _
  rw [List.getElem?_toArray]) (by
  intro u hu
  simp [ocs] at hu
  rcases hu with h | h | h | h | h | h | h | h | h | h | h | h <;> subst h <;> rfl)
end Go.Proofs.YtjjgbillihedgaaGreatDoor
