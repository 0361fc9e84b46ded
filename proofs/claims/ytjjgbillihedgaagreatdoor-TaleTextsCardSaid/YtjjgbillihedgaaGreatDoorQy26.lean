/- parts of the proof, merged: TlC5, TlC6, TlD1, TlD2, TlD3, TlZ2 -/
import Derived.Test.YtjjgbillihedgaaGreatDoorQy25
set_option linter.unusedSimpArgs false
set_option linter.unusedVariables false
set_option maxHeartbeats 64000000
set_option maxRecDepth 100000
namespace Go.Proofs.YtjjgbillihedgaaGreatDoor
open Go.RowKit
open Rf
open Sg
open Wide
open Tl
namespace Tl
/-- the op of a line; its error -/
def parseOF (l : List UInt8) : OpD × Int := if l = [] ∨ lineF (guessF l) ≠ l then (zeroO, 4) else (guessF l, 0)
theorem small_mem {l : List UInt8} (hl : l.length ≤ 99900) : u64 (cutF l).1 ∧ Tl.Small (cutF l).2.1 ∧ (cutF l).2.1.length ≤ 100000 := by
 unfold cutF
 dsimp only
 split
 ·refine ⟨entF_u64 _ _, ⟨?_, fun p hp => ?_⟩, ?_⟩
  ·dsimp only
   rw [List.length_map, List.length_map, List.length_drop]
   have := segsQ_len 32 l
   omega
  ·rw [List.map_map] at hp
   obtain ⟨x, hx, rfl⟩ := List.mem_map.1 hp
   refine ⟨cutPart_ok x, ?_⟩
   have h1 := cutPart_len x
   have h2 := segsQ_mem 32 l x (List.mem_of_mem_drop hx)
   show (cutPartF x).1.V.length ≤ _
   omega
  ·dsimp only
   rw [List.length_map, List.length_map, List.length_drop]
   have := segsQ_len 32 l
   omega
 ·exact ⟨by unfold u64; dsimp only; omega, small_nil, by simp⟩
theorem parseQ_u32 (l : List UInt8) : u32 (parseQF l).1 ∧ u32 (parseQF l).2.1 := by
 unfold parseQF
 dsimp only
 have h1 := parseS_lt (text (Lib.cut l notL).1)
 have h2 := parseS_lt (text (Lib.cut l notL).2.1)
 split
 ·unfold u32; dsimp only; omega
 ·unfold u32; dsimp only; omega
theorem unhex_len : ∀ (l d : List UInt8), unhexF l = some d → d.length ≤ l.length
 | [], d, h => by cases h; exact Nat.le_refl _
 | [_], d, h => by cases h
 | a :: b :: r, d, h => by
   rw [unhexF] at h
   split at h
   ·cases h
   ·obtain ⟨x, hx, rfl⟩ := Option.map_eq_some_iff.1 h
    have := unhex_len r x hx
    simp
    omega
theorem bytesF_len (l : List UInt8) : (bytesF l).1.length ≤ l.length := by
 unfold bytesF
 cases h : unhexF l with
 | none => simp
 | some d => exact unhex_len l d h
theorem gO_small (k : Int) (hk : 0 ≤ k ∧ k ≤ 11) (t : List UInt8) (ht : t.length ≤ 99500) : OpSmall (gO k t) ∧ (gO k t).cP = [] := by
 have hz : i64 0 ∧ u64 0 ∧ u32 0 := by unfold i64 u64 u32; omega
 have hik : i64 k := by unfold i64; omega
 have hm : sS.size ≤ maxLen := by unfold maxLen; show 0 ≤ _; omega
 have mk : ∀ (E C : Int) (P : List PartD) (A N U : Int) (B : ByteArray), u64 E → i64 C → Tl.Small P → P.length ≤ 100000 → u32 A → u32 N → i64 U → B.size ≤ maxLen → OpSmall ⟨k, E, C, P, A, N, 0, 0, 0, [], U, B⟩ :=
  fun E C P A N U B h1 h2 h3 h4 h5 h6 h7 h8 => ⟨⟨hik, h1, h2, fun p hp => (h3.2 p hp).1, h5, h6, hz.1, hz.2.1, hz.1, by simp, h7⟩, h3, h4, small_nil, by simp, h8⟩
 have hb := behF_len t
 obtain ⟨c1, c2, c3⟩ := small_mem (l := [101, 32, 49, 32, 49] ++ behF t) (by rw [List.length_append]; simp; omega)
 obtain ⟨d1, d2, d3⟩ := small_mem (l := [101, 32] ++ t) (by rw [List.length_append]; simp; omega)
 obtain ⟨q1, q2⟩ := parseQ_u32 t
 have hbl := bytesF_len t
 unfold gO
 by_cases k1 : k = 1
 ·rw [if_pos k1]; exact ⟨mk 0 0 _ 0 0 0 sS hz.2.1 hz.1 c2 (by omega) hz.2.2 hz.2.2 hz.1 hm, rfl⟩
 rw [if_neg k1]
 by_cases k2 : k = 2
 ·rw [if_pos k2]; exact ⟨mk _ 0 _ 0 0 0 sS d1 hz.1 d2 (by omega) hz.2.2 hz.2.2 hz.1 hm, rfl⟩
 rw [if_neg k2]
 by_cases k3 : k = 3
 ·rw [if_pos k3]; exact ⟨mk _ 0 _ 0 0 0 sS d1 hz.1 d2 (by omega) hz.2.2 hz.2.2 hz.1 hm, rfl⟩
 rw [if_neg k3]
 by_cases k5 : k = 5
 ·rw [if_pos k5]; exact ⟨mk _ 0 _ 0 0 0 sS d1 hz.1 d2 (by omega) hz.2.2 hz.2.2 hz.1 hm, rfl⟩
 rw [if_neg k5]
 by_cases k4 : k = 4
 ·rw [if_pos k4]; exact ⟨mk _ _ _ 0 0 0 sS (entF_u64 _ _) (atoi_bd _) small_nil (by simp) hz.2.2 hz.2.2 hz.1 hm, rfl⟩
 rw [if_neg k4]
 by_cases k6 : k = 6
 ·rw [if_pos k6]; exact ⟨mk _ _ _ 0 0 0 sS (entF_u64 _ _) (atoi_bd _) small_nil (by simp) hz.2.2 hz.2.2 hz.1 hm, rfl⟩
 rw [if_neg k6]
 by_cases k7 : k = 7
 ·rw [if_pos k7]; exact ⟨mk 0 0 _ _ _ 0 sS hz.2.1 hz.1 small_nil (by simp) q1 q2 hz.1 hm, rfl⟩
 rw [if_neg k7]
 by_cases k9 : k = 9
 ·rw [if_pos k9]; exact ⟨mk 0 0 _ 0 0 _ sS hz.2.1 hz.1 small_nil (by simp) hz.2.2 hz.2.2 (atoi_bd _) hm, rfl⟩
 rw [if_neg k9]
 by_cases k10 : k = 10
 ·rw [if_pos k10]; exact ⟨mk 0 0 _ 0 0 0 _ hz.2.1 hz.1 small_nil (by simp) hz.2.2 hz.2.2 hz.1 (by rw [text_size]; unfold maxLen; omega), rfl⟩
 rw [if_neg k10]
 exact ⟨mk 0 0 _ 0 0 0 sS hz.2.1 hz.1 small_nil (by simp) hz.2.2 hz.2.2 hz.1 hm, rfl⟩
theorem guess1_small (l : List UInt8) (hl : l.length ≤ 99500) : OpSmall (guess1F l) :=
 (gO_small _ (kindOf_bd _) _ (Nat.le_trans (cut_le l [32]).2 hl)).1
theorem guess_small (l : List UInt8) (hl : l.length ≤ 99500) : OpSmall (guessF l) := by
 have ht := Nat.le_trans (cut_le l [32]).2 hl
 have hz : i64 0 ∧ u64 0 ∧ u32 0 := by unfold i64 u64 u32; omega
 have hm : sS.size ≤ maxLen := by unfold maxLen; show 0 ≤ _; omega
 unfold guessF
 dsimp only
 split
 ·have h1 := guess1_small (Lib.cut l [32]).2.1 ht
  have hk := asCmdK_bd (guess1F (Lib.cut l [32]).2.1).K
  exact ⟨⟨by unfold i64; dsimp only; omega, hz.2.1, hz.1, by simp, hz.2.2, hz.2.2, by unfold i64; dsimp only; omega, h1.ok.E, h1.ok.C, h1.ok.P, hz.1⟩, small_nil, by simp, h1.P, h1.L, hm⟩
 ·exact guess1_small l hl
end Tl
theorem parseO_c (s : ByteArray) (hs : s.size ≤ 99500) (w : World) (hg : GlobT w) :
 Calls Tryz.prog 13 #[.string s] w fun e w' => (∃ a c b d, e = .returned (.tuple #[opv (parseOF (byts s)).1 (.slice a (parseOF (byts s)).1.P.length c) (.slice b (parseOF (byts s)).1.cP.length d), .int .i64 (parseOF (byts s)).2]) ∧ OwnQ w' w.heap.size a c (parseOF (byts s)).1.P ∧ OwnQ w' w.heap.size b d (parseOF (byts s)).1.cP) ∧ Below w.heap.size w w' := by
 have hb0 := below1 w (.cells #[.int .i64 0, .int .u64 0, .int .i64 0, .slice none 0 0, .int .u32 0, .int .u32 0, .int .i64 0, .int .u64 0, .int .i64 0, .slice none 0 0, .int .i64 0, .string ⟨#[]⟩] 32)
 have hbox := IsC.new w 32 #[.int .i64 0, .int .u64 0, .int .i64 0, .slice none 0 0, .int .u32 0, .int .u32 0, .int .i64 0, .int .u64 0, .int .i64 0, .slice none 0 0, .int .i64 0, .string ⟨#[]⟩]
 have hg0 := hg.on hb0
 have hsz0 := size_alloc w (.cells #[.int .i64 0, .int .u64 0, .int .i64 0, .slice none 0 0, .int .u32 0, .int .u32 0, .int .i64 0, .int .u64 0, .int .i64 0, .slice none 0 0, .int .i64 0, .string ⟨#[]⟩] 32)
 have cG := guess_c s hs _ hg0
 have hsm := guess_small (byts s) (by rw [byts_length]; omega)
 obtain ⟨R, hR⟩ : ∃ R, parseOF (byts s) = R := ⟨_, rfl⟩
 rw [hR]
 unfold parseOF at hR
 have cL2 := fun st tt w' (hi : OpIn w' (guessF (byts s)) st tt) (hg : GlobT w') => line_c (guessF (byts s)) hsm st tt w' hi hg
 have hcmp := bytes_eq (text (lineF (guessF (byts s)))) s
 rw [byts_text] at hcmp
 have e0 := str_empty s
 generalize lineF (guessF (byts s)) = T at *
 generalize guessF (byts s) = y at *
 obtain ⟨yK, yE, yC, yP, yA, yN, ycK, ycE, ycC, ycP, yU, yB⟩ := y
 unfold Guessed opv at cG
 unfold opv at cL2
 dsimp only at cG cL2
 rw [hsz0] at cG
 replace cG := Hd cG
 replace cL2 := Hd cL2
 replace hb0 := Hd hb0
 replace hbox := Hd hbox
 clear hsm
 have hb0s := hb0.out.size
 go_enter Tryz.func13, Tryz.ntmps13
 go_wp2_with fail
 refine cG.out.mono ?_
 rintro x w1 ⟨⟨qa, qc, qb, qd, rfl, hQ1, hQ2⟩, hb1⟩
 have hbq := below1 w1 (.cells #[.int .i64 yK, .int .u64 yE, .int .i64 yC, .slice qa yP.length qc, .int .u32 yA, .int .u32 yN, .int .i64 ycK, .int .u64 ycE, .int .i64 ycC, .slice qb ycP.length qd, .int .i64 yU, .string yB] 32)
 rw [← hsz0] at hb1
 have hg1 := (hg0.on hb1).on hbq
 have hbX2 := below_up hb0.out hb0s hb1
 have hbxX := Hd ((isC_of hb1 hbox.out).alloc (.cells #[.int .i64 yK, .int .u64 yE, .int .i64 yC, .slice qa yP.length qc, .int .u32 yA, .int .u32 yN, .int .i64 ycK, .int .u64 ycE, .int .i64 ycC, .slice qb ycP.length qd, .int .i64 yU, .string yB] 32))
 have hlt1 := (isC_of hb1 hbox.out).lt
 have hprX := Hd (IsC.new w1 32 #[.int .i64 yK, .int .u64 yE, .int .i64 yC, .slice qa yP.length qc, .int .u32 yA, .int .u32 yN, .int .i64 ycK, .int .u64 ycE, .int .i64 ycC, .slice qb ycP.length qd, .int .i64 yU, .string yB])
 have hbX := Hd (hbX2.alloc hbX2.size (.cells #[.int .i64 yK, .int .u64 yE, .int .i64 yC, .slice qa yP.length qc, .int .u32 yA, .int .u32 yN, .int .i64 ycK, .int .u64 ycE, .int .i64 ycC, .slice qb ycP.length qd, .int .i64 yU, .string yB] 32))
 replace hQ1 := Hd (hQ1.below hbq)
 replace hQ2 := Hd (hQ2.below hbq)
 have hqw : w.heap.size < w.heap.size + 1 := Nat.lt_succ_self _
 have hqle : w.heap.size ≤ w.heap.size + 1 := Nat.le_succ _
 have cL3 := Hd (cL2.out (.slice qa yP.length qc) (.slice qb ycP.length qd) _ ⟨OwnQ.in hQ1.out, OwnQ.in hQ2.out⟩ hg1)
 clear hb1 hbq hbX2 cG hb0 hbox cL2 hb0s
 have hbXs := hbX.out.size
 cases hby : byts s with
 | nil =>
   have e1 : (s.toList == []) = true := by rw [e0, hby]; rfl
   clear e0
   rw [hby, if_pos (.inl rfl)] at hR
   have hR2 := Hd hR.symm
   clear hR cL3 hby
   clear hprX hlt1 hQ1 hQ2
   obtain ⟨W, hW⟩ : ∃ W, w1.alloc (.cells #[.int .i64 yK, .int .u64 yE, .int .i64 yC, .slice qa yP.length qc, .int .u32 yA, .int .u32 yN, .int .i64 ycK, .int .u64 ycE, .int .i64 ycC, .slice qb ycP.length qd, .int .i64 yU, .string yB] 32) = W := ⟨_, rfl⟩
   rw [hW] at hbxX hbX hbXs hg1
   obtain ⟨f0, f1, f2, f3, f4, f5, f6, f7, f8, f9, f10, f11⟩ := fr12 hbxX.out
   obtain ⟨x0, x1, x2, x3, x4, x5, x6, x7, x8, x9, x10, x11⟩ := cells12 hbxX.out
   have hs12 : IsC (set12 W w.heap.size (.int .i64 0) (.int .u64 0) (.int .i64 0) (.slice none 0 0) (.int .u32 0) (.int .u32 0) (.int .i64 0) (.int .u64 0) (.int .i64 0) (.slice none 0 0) (.int .i64 0) (.string ⟨#[]⟩)) w.heap.size 32 #[.int .i64 0, .int .u64 0, .int .i64 0, .slice none 0 0, .int .u32 0, .int .u32 0, .int .i64 0, .int .u64 0, .int .i64 0, .slice none 0 0, .int .i64 0, .string ⟨#[]⟩] := isC_set12 (w := W) hbxX.out
   have t0 := Hd (hs12.cell 0)
   have t1 := Hd (hs12.cell 1)
   have t2 := Hd (hs12.cell 2)
   have t3 := Hd (hs12.cell 3)
   have t4 := Hd (hs12.cell 4)
   have t5 := Hd (hs12.cell 5)
   have t6 := Hd (hs12.cell 6)
   have t7 := Hd (hs12.cell 7)
   have t8 := Hd (hs12.cell 8)
   have t9 := Hd (hs12.cell 9)
   have t10 := Hd (hs12.cell 10)
   have t11 := Hd (hs12.cell 11)
   have hfin := Hd (show Below w.heap.size w (set12 W w.heap.size (.int .i64 0) (.int .u64 0) (.int .i64 0) (.slice none 0 0) (.int .u32 0) (.int .u32 0) (.int .i64 0) (.int .u64 0) (.int .i64 0) (.slice none 0 0) (.int .i64 0) (.string ⟨#[]⟩)) from below_set12 (w := W) hbX.out (Nat.le_refl _))
   clear hs12 hbxX hbX
   go_wp2_with fail
   obtain ⟨wf, hwf⟩ : ∃ wf, set12 W w.heap.size (.int .i64 0) (.int .u64 0) (.int .i64 0) (.slice none 0 0) (.int .u32 0) (.int .u32 0) (.int .i64 0) (.int .u64 0) (.int .i64 0) (.slice none 0 0) (.int .i64 0) (.string ⟨#[]⟩) = wf := ⟨_, rfl⟩
   have s0 := t0.out
   have s1 := t1.out
   have s2 := t2.out
   have s3 := t3.out
   have s4 := t4.out
   have s5 := t5.out
   have s6 := t6.out
   have s7 := t7.out
   have s8 := t8.out
   have s9 := t9.out
   have s10 := t10.out
   have s11 := t11.out
   have r0 := hfin.out
   rw [hwf] at s0 s1 s2 s3 s4 s5 s6 s7 s8 s9 s10 s11 r0
   rw [show ((((((((((((W.setCell ⟨w.heap.size, 0, none⟩ (.int .i64 0)).setCell ⟨w.heap.size, 1, none⟩ (.int .u64 0)).setCell ⟨w.heap.size, 2, none⟩ (.int .i64 0)).setCell ⟨w.heap.size, 3, none⟩ (.slice none 0 0)).setCell ⟨w.heap.size, 4, none⟩ (.int .u32 0)).setCell ⟨w.heap.size, 5, none⟩ (.int .u32 0)).setCell ⟨w.heap.size, 6, none⟩ (.int .i64 0)).setCell ⟨w.heap.size, 7, none⟩ (.int .u64 0)).setCell ⟨w.heap.size, 8, none⟩ (.int .i64 0)).setCell ⟨w.heap.size, 9, none⟩ (.slice none 0 0)).setCell ⟨w.heap.size, 10, none⟩ (.int .i64 0)).setCell ⟨w.heap.size, 11, none⟩ (.string ⟨#[]⟩)) = wf from hwf]
   (try simp only [Exit.inBlock, Exit.then])
   refine bodyPost_ret (by simp [results, Tryz.results13, go_sem, s0, s1, s2, s3, s4, s5, s6, s7, s8, s9, s10, s11]; try rfl) rfl ?_
   rw [hR2.out]
   exact ⟨⟨none, 0, none, 0, rfl, OwnQ.nil _ _, OwnQ.nil _ _⟩, r0⟩
 | cons bc br =>
   have e1 : (s.toList == []) = false := by rw [e0, hby]; rfl
   have hnn : ¬ byts s = [] := by rw [hby]; simp
   clear e0 hby
   by_cases hE : T = byts s
   ·rw [if_neg (by rintro (h | h); exact hnn h; exact h hE)] at hR
    rw [decide_eq_true hE] at hcmp
    have hR2 := Hd hR.symm
    clear hR hE hnn
    obtain ⟨j0, j1, j2, j3, j4, j5, j6, j7, j8, j9, j10, j11⟩ := cells12 hprX.out
    go_wp2_with fail
    refine cL3.out.mono ?_
    rintro x w2 ⟨rfl, hb2⟩
    replace hbxX := Hd (isC_of hb2 hbxX.out)
    replace hprX := Hd (isC_of hb2 hprX.out)
    replace hbX := Hd (below_up hbX.out hbXs hb2)
    replace hQ1 := Hd (hQ1.out.below hb2)
    replace hQ2 := Hd (hQ2.out.below hb2)
    clear hb2 hbXs cL3
    obtain ⟨f0, f1, f2, f3, f4, f5, f6, f7, f8, f9, f10, f11⟩ := fr12 hbxX.out
    obtain ⟨x0, x1, x2, x3, x4, x5, x6, x7, x8, x9, x10, x11⟩ := cells12 hbxX.out
    obtain ⟨y0, y1, y2, y3, y4, y5, y6, y7, y8, y9, y10, y11⟩ := cells12 hprX.out
    have hs12 : IsC (set12 w2 w.heap.size (.int .i64 yK) (.int .u64 yE) (.int .i64 yC) (.slice qa yP.length qc) (.int .u32 yA) (.int .u32 yN) (.int .i64 ycK) (.int .u64 ycE) (.int .i64 ycC) (.slice qb ycP.length qd) (.int .i64 yU) (.string yB)) w.heap.size 32 #[.int .i64 yK, .int .u64 yE, .int .i64 yC, .slice qa yP.length qc, .int .u32 yA, .int .u32 yN, .int .i64 ycK, .int .u64 ycE, .int .i64 ycC, .slice qb ycP.length qd, .int .i64 yU, .string yB] := isC_set12 (w := w2) hbxX.out
    have t0 := Hd (hs12.cell 0)
    have t1 := Hd (hs12.cell 1)
    have t2 := Hd (hs12.cell 2)
    have t3 := Hd (hs12.cell 3)
    have t4 := Hd (hs12.cell 4)
    have t5 := Hd (hs12.cell 5)
    have t6 := Hd (hs12.cell 6)
    have t7 := Hd (hs12.cell 7)
    have t8 := Hd (hs12.cell 8)
    have t9 := Hd (hs12.cell 9)
    have t10 := Hd (hs12.cell 10)
    have t11 := Hd (hs12.cell 11)
    have hfin := Hd (show Below w.heap.size w (set12 w2 w.heap.size (.int .i64 yK) (.int .u64 yE) (.int .i64 yC) (.slice qa yP.length qc) (.int .u32 yA) (.int .u32 yN) (.int .i64 ycK) (.int .u64 ycE) (.int .i64 ycC) (.slice qb ycP.length qd) (.int .i64 yU) (.string yB)) from below_set12 (w := w2) hbX.out (Nat.le_refl _))
    have hq1 := Hd (OwnQ.mono (OwnQ.set12 (w := w2) (v0 := .int .i64 yK) (v1 := .int .u64 yE) (v2 := .int .i64 yC) (v3 := .slice qa yP.length qc) (v4 := .int .u32 yA) (v5 := .int .u32 yN) (v6 := .int .i64 ycK) (v7 := .int .u64 ycE) (v8 := .int .i64 ycC) (v9 := .slice qb ycP.length qd) (v10 := .int .i64 yU) (v11 := .string yB) hQ1.out hqw) hqle)
    have hq2 := Hd (OwnQ.mono (OwnQ.set12 (w := w2) (v0 := .int .i64 yK) (v1 := .int .u64 yE) (v2 := .int .i64 yC) (v3 := .slice qa yP.length qc) (v4 := .int .u32 yA) (v5 := .int .u32 yN) (v6 := .int .i64 ycK) (v7 := .int .u64 ycE) (v8 := .int .i64 ycC) (v9 := .slice qb ycP.length qd) (v10 := .int .i64 yU) (v11 := .string yB) hQ2.out hqw) hqle)
    clear hs12 hprX hbxX hbX
    go_wp2_with fail
    obtain ⟨wf, hwf⟩ : ∃ wf, set12 w2 w.heap.size (.int .i64 yK) (.int .u64 yE) (.int .i64 yC) (.slice qa yP.length qc) (.int .u32 yA) (.int .u32 yN) (.int .i64 ycK) (.int .u64 ycE) (.int .i64 ycC) (.slice qb ycP.length qd) (.int .i64 yU) (.string yB) = wf := ⟨_, rfl⟩
    have s0 := t0.out
    have s1 := t1.out
    have s2 := t2.out
    have s3 := t3.out
    have s4 := t4.out
    have s5 := t5.out
    have s6 := t6.out
    have s7 := t7.out
    have s8 := t8.out
    have s9 := t9.out
    have s10 := t10.out
    have s11 := t11.out
    have r0 := hfin.out
    have hq1' := hq1.out
    have hq2' := hq2.out
    rw [hwf] at s0 s1 s2 s3 s4 s5 s6 s7 s8 s9 s10 s11 r0 hq1' hq2'
    rw [show ((((((((((((w2.setCell ⟨w.heap.size, 0, none⟩ (.int .i64 yK)).setCell ⟨w.heap.size, 1, none⟩ (.int .u64 yE)).setCell ⟨w.heap.size, 2, none⟩ (.int .i64 yC)).setCell ⟨w.heap.size, 3, none⟩ (.slice qa yP.length qc)).setCell ⟨w.heap.size, 4, none⟩ (.int .u32 yA)).setCell ⟨w.heap.size, 5, none⟩ (.int .u32 yN)).setCell ⟨w.heap.size, 6, none⟩ (.int .i64 ycK)).setCell ⟨w.heap.size, 7, none⟩ (.int .u64 ycE)).setCell ⟨w.heap.size, 8, none⟩ (.int .i64 ycC)).setCell ⟨w.heap.size, 9, none⟩ (.slice qb ycP.length qd)).setCell ⟨w.heap.size, 10, none⟩ (.int .i64 yU)).setCell ⟨w.heap.size, 11, none⟩ (.string yB)) = wf from hwf]
    (try simp only [Exit.inBlock, Exit.then])
    refine bodyPost_ret (by simp [results, Tryz.results13, go_sem, s0, s1, s2, s3, s4, s5, s6, s7, s8, s9, s10, s11]; try rfl) rfl ?_
    rw [hR2.out]
    exact ⟨⟨qa, qc, qb, qd, rfl, hq1', hq2'⟩, r0⟩
   ·rw [if_pos (.inr hE)] at hR
    rw [decide_eq_false hE] at hcmp
    have hR2 := Hd hR.symm
    clear hR hE hnn
    obtain ⟨j0, j1, j2, j3, j4, j5, j6, j7, j8, j9, j10, j11⟩ := cells12 hprX.out
    go_wp2_with fail
    refine cL3.out.mono ?_
    rintro x w2 ⟨rfl, hb2⟩
    replace hbxX := Hd (isC_of hb2 hbxX.out)
    replace hprX := Hd (isC_of hb2 hprX.out)
    replace hbX := Hd (below_up hbX.out hbXs hb2)
    replace hQ1 := Hd (hQ1.out.below hb2)
    replace hQ2 := Hd (hQ2.out.below hb2)
    clear hb2 hbXs cL3
    obtain ⟨f0, f1, f2, f3, f4, f5, f6, f7, f8, f9, f10, f11⟩ := fr12 hbxX.out
    obtain ⟨x0, x1, x2, x3, x4, x5, x6, x7, x8, x9, x10, x11⟩ := cells12 hbxX.out
    have hs12 : IsC (set12 w2 w.heap.size (.int .i64 0) (.int .u64 0) (.int .i64 0) (.slice none 0 0) (.int .u32 0) (.int .u32 0) (.int .i64 0) (.int .u64 0) (.int .i64 0) (.slice none 0 0) (.int .i64 0) (.string ⟨#[]⟩)) w.heap.size 32 #[.int .i64 0, .int .u64 0, .int .i64 0, .slice none 0 0, .int .u32 0, .int .u32 0, .int .i64 0, .int .u64 0, .int .i64 0, .slice none 0 0, .int .i64 0, .string ⟨#[]⟩] := isC_set12 (w := w2) hbxX.out
    have t0 := Hd (hs12.cell 0)
    have t1 := Hd (hs12.cell 1)
    have t2 := Hd (hs12.cell 2)
    have t3 := Hd (hs12.cell 3)
    have t4 := Hd (hs12.cell 4)
    have t5 := Hd (hs12.cell 5)
    have t6 := Hd (hs12.cell 6)
    have t7 := Hd (hs12.cell 7)
    have t8 := Hd (hs12.cell 8)
    have t9 := Hd (hs12.cell 9)
    have t10 := Hd (hs12.cell 10)
    have t11 := Hd (hs12.cell 11)
    have hfin := Hd (show Below w.heap.size w (set12 w2 w.heap.size (.int .i64 0) (.int .u64 0) (.int .i64 0) (.slice none 0 0) (.int .u32 0) (.int .u32 0) (.int .i64 0) (.int .u64 0) (.int .i64 0) (.slice none 0 0) (.int .i64 0) (.string ⟨#[]⟩)) from below_set12 (w := w2) hbX.out (Nat.le_refl _))
    clear hs12 hprX hbxX hbX
    go_wp2_with fail
    obtain ⟨wf, hwf⟩ : ∃ wf, set12 w2 w.heap.size (.int .i64 0) (.int .u64 0) (.int .i64 0) (.slice none 0 0) (.int .u32 0) (.int .u32 0) (.int .i64 0) (.int .u64 0) (.int .i64 0) (.slice none 0 0) (.int .i64 0) (.string ⟨#[]⟩) = wf := ⟨_, rfl⟩
    have s0 := t0.out
    have s1 := t1.out
    have s2 := t2.out
    have s3 := t3.out
    have s4 := t4.out
    have s5 := t5.out
    have s6 := t6.out
    have s7 := t7.out
    have s8 := t8.out
    have s9 := t9.out
    have s10 := t10.out
    have s11 := t11.out
    have r0 := hfin.out
    rw [hwf] at s0 s1 s2 s3 s4 s5 s6 s7 s8 s9 s10 s11 r0
    rw [show ((((((((((((w2.setCell ⟨w.heap.size, 0, none⟩ (.int .i64 0)).setCell ⟨w.heap.size, 1, none⟩ (.int .u64 0)).setCell ⟨w.heap.size, 2, none⟩ (.int .i64 0)).setCell ⟨w.heap.size, 3, none⟩ (.slice none 0 0)).setCell ⟨w.heap.size, 4, none⟩ (.int .u32 0)).setCell ⟨w.heap.size, 5, none⟩ (.int .u32 0)).setCell ⟨w.heap.size, 6, none⟩ (.int .i64 0)).setCell ⟨w.heap.size, 7, none⟩ (.int .u64 0)).setCell ⟨w.heap.size, 8, none⟩ (.int .i64 0)).setCell ⟨w.heap.size, 9, none⟩ (.slice none 0 0)).setCell ⟨w.heap.size, 10, none⟩ (.int .i64 0)).setCell ⟨w.heap.size, 11, none⟩ (.string ⟨#[]⟩)) = wf from hwf]
    (try simp only [Exit.inBlock, Exit.then])
    refine bodyPost_ret (by simp [results, Tryz.results13, go_sem, s0, s1, s2, s3, s4, s5, s6, s7, s8, s9, s10, s11]; try rfl) rfl ?_
    rw [hR2.out]
    exact ⟨⟨none, 0, none, 0, rfl, OwnQ.nil _ _, OwnQ.nil _ _⟩, r0⟩
namespace Tl
/-- where an op's parts lie, and its command's -/
abbrev Pl := (Option Addr × Nat) × (Option Addr × Nat)
def ocs (x : OpD × Pl) : List Value := [.int .i64 x.1.K, .int .u64 x.1.E, .int .i64 x.1.C, .slice x.2.1.1 x.1.P.length x.2.1.2, .int .u32 x.1.A, .int .u32 x.1.N, .int .i64 x.1.cK, .int .u64 x.1.cE, .int .i64 x.1.cC, .slice x.2.2.1 x.1.cP.length x.2.2.2, .int .i64 x.1.U, .string x.1.B]
def ovs (q : List (OpD × Pl)) : List Value := q.flatMap ocs
theorem ovs_append (l m : List (OpD × Pl)) : ovs (l ++ m) = ovs l ++ ovs m := by unfold ovs; rw [List.flatMap_append]
theorem ovs_get : ∀ (l : List (OpD × Pl)) (j : Nat) (hj : j < l.length) (i : Nat), i < 12 → (ovs l)[j * 12 + i]? = (ocs l[j])[i]?
 | x :: l, 0, _, i, hi => by
   have e : ovs (x :: l) = ocs x ++ ovs l := rfl
   rw [e, Nat.zero_mul, Nat.zero_add, List.getElem?_append_left (show i < (ocs x).length from hi)]
   rfl
 | x :: l, j + 1, hj, i, hi => by
   have e : ovs (x :: l) = ocs x ++ ovs l := rfl
   have el : (ocs x).length = 12 := rfl
   rw [e, List.getElem?_append_right (by rw [el]; omega), el, show (j + 1) * 12 + i - 12 = j * 12 + i by omega, ovs_get l j (by simpa using hj) i hi]
   simp only [List.getElem_cons_succ]
end Tl
/-- a row of ops that can be read -/
def InOps (w : World) (v : Value) (os : List OpD) : Prop := ∃ a c, v = .slice a os.length c ∧ (os = [] ∨ ∃ g o, a = some ⟨g, o, none⟩ ∧ g < w.heap.size ∧ ∀ j (hj : j < os.length), ∃ s t, (∀ i u, (opc os[j] s t)[i]? = some u → w.cell? ⟨g, o + j * 12 + i, none⟩ = some u) ∧ OpIn w os[j] s t)
theorem InOps.below {w w' : World} {v : Value} {os : List OpD} (h : InOps w v os) (hb : Below w.heap.size w w') : InOps w' v os := by
 obtain ⟨a, c, rfl, h⟩ := h
 refine ⟨a, c, rfl, ?_⟩
 rcases h with rfl | ⟨g, o, rfl, hg, hc⟩
 ·exact .inl rfl
 ·refine .inr ⟨g, o, rfl, Nat.lt_of_lt_of_le hg hb.size, fun j hj => ?_⟩
  obtain ⟨s, t, h0, h1⟩ := hc j hj
  exact ⟨s, t, fun i u hu => (hb.cell (p := ⟨g, o + j * 12 + i, none⟩) hg).trans (h0 i u hu), h1.below hb⟩
theorem InOps.at {w : World} {a : Option Addr} {n c : Nat} {os : List OpD} (h : InOps w (.slice a n c) os) (j : Nat) (hj : j < os.length) : ∃ g o s t, a = some ⟨g, o, none⟩ ∧ g < w.heap.size ∧ OpIn w os[j] s t ∧
 w.cell? ⟨g, o + j * 12, none⟩ = some (.int .i64 os[j].K) ∧ w.cell? ⟨g, o + j * 12 + 1, none⟩ = some (.int .u64 os[j].E) ∧ w.cell? ⟨g, o + j * 12 + 2, none⟩ = some (.int .i64 os[j].C) ∧ w.cell? ⟨g, o + j * 12 + 3, none⟩ = some s ∧ w.cell? ⟨g, o + j * 12 + 4, none⟩ = some (.int .u32 os[j].A) ∧ w.cell? ⟨g, o + j * 12 + 5, none⟩ = some (.int .u32 os[j].N) ∧ w.cell? ⟨g, o + j * 12 + 6, none⟩ = some (.int .i64 os[j].cK) ∧ w.cell? ⟨g, o + j * 12 + 7, none⟩ = some (.int .u64 os[j].cE) ∧ w.cell? ⟨g, o + j * 12 + 8, none⟩ = some (.int .i64 os[j].cC) ∧ w.cell? ⟨g, o + j * 12 + 9, none⟩ = some t ∧ w.cell? ⟨g, o + j * 12 + 10, none⟩ = some (.int .i64 os[j].U) ∧ w.cell? ⟨g, o + j * 12 + 11, none⟩ = some (.string os[j].B) := by
 obtain ⟨a', c', e, h⟩ := h
 cases e
 rcases h with rfl | ⟨g, o, h1, h2, h3⟩
 ·cases hj
 ·obtain ⟨s, t, k0, k1⟩ := h3 j hj
  exact ⟨g, o, s, t, h1, h2, k1, k0 0 _ rfl, k0 1 _ rfl, k0 2 _ rfl, k0 3 _ rfl, k0 4 _ rfl, k0 5 _ rfl, k0 6 _ rfl, k0 7 _ rfl, k0 8 _ rfl, k0 9 _ rfl, k0 10 _ rfl, k0 11 _ rfl⟩
/-- parts of the call's own are kept where a row of another type grows -/
theorem OwnV.kept {w w' : World} {B B' : Nat} {a : Option Addr} {c : Nat} {l : List WI} {T : TypeId} {k : Nat} {v : Value} {n : Nat} {xs : List Value} (h : OwnV w B a c l) (hr : w.ownsRow B' T k v n xs) (hT : 61 ≠ T) (hg : w.grownBy w' v.ownBlock) : OwnV w' B a c l :=
 World.ownsRow.kept h hg (own_apart h hr hT)
theorem OwnQ.kept {w w' : World} {B B' : Nat} {a : Option Addr} {c : Nat} {l : List PartD} {T : TypeId} {k : Nat} {v : Value} {n : Nat} {xs : List Value} (h : OwnQ w B a c l) (hr : w.ownsRow B' T k v n xs) (hT : 61 ≠ T) (hT2 : 65 ≠ T) (hg : w.grownBy w' v.ownBlock) : OwnQ w' B a c l := by
 obtain ⟨q, h1, h2, h3⟩ := h
 exact ⟨q, h1, World.ownsRow.kept h2 hg (own_apart h2 hr hT2), fun x hx => (h3 x hx).kept hr hT hg⟩
/-- ops of the call's own -/
def OwnO (w : World) (B : Nat) (a : Option Addr) (c : Nat) (l : List OpD) : Prop := ∃ q : List (OpD × Pl), q.map Prod.fst = l ∧ w.ownsRow B 32 12 (.slice a l.length c) l.length (ovs q) ∧ ∀ x ∈ q, OwnQ w B x.2.1.1 x.2.1.2 x.1.P ∧ OwnQ w B x.2.2.1 x.2.2.2 x.1.cP
theorem OwnO.nil (w : World) (B : Nat) : OwnO w B none 0 [] := ⟨[], rfl, World.ownsRow_nil w B 32 12, by simp⟩
theorem OwnO.below {w w' : World} {B : Nat} {a : Option Addr} {c : Nat} {l : List OpD} (h : OwnO w B a c l) (hb : Below w.heap.size w w') : OwnO w' B a c l := by
 obtain ⟨q, h1, h2, h3⟩ := h
 exact ⟨q, h1, World.ownsRow.kept (row := none) h2 ⟨hb.os, hb.tape, hb.output, hb.size, fun k hk _ => hb.block k hk⟩ (by cases (Value.slice a l.length c).ownBlock <;> simp), fun x hx => ⟨(h3 x hx).1.below hb, (h3 x hx).2.below hb⟩⟩
theorem OwnO.in {w : World} {B : Nat} {a : Option Addr} {c : Nat} {l : List OpD} (h : OwnO w B a c l) : InOps w (.slice a l.length c) l := by
 obtain ⟨q, h1, h2, h3⟩ := h
 have hql : q.length = l.length := by rw [← h1, List.length_map]
 rcases Nat.eq_zero_or_pos l.length with h0 | h0
 ·exact ⟨_, _, rfl, .inl (List.eq_nil_of_length_eq_zero h0)⟩
 ·rcases h2.2 with ⟨hv, hn⟩ | ⟨g, cap, cur, hv, hb, hg, hc⟩
  ·rw [hn] at h0; exact absurd h0 (by decide)
  ·obtain ⟨rfl, rfl⟩ : a = some ⟨g, 0, none⟩ ∧ c = cap := by cases hv; exact ⟨rfl, rfl⟩
   refine ⟨_, _, rfl, .inr ⟨g, 0, rfl, lt_of_block hg, fun j hj => ?_⟩⟩
   have key : ∀ i u, (ovs q)[i]? = some u → w.cell? ⟨g, i, none⟩ = some u := fun i u hu => by
    have := World.ownsRow.cells h2 (g := g) rfl i u hu
    rw [addr_add, Nat.zero_add] at this
    exact this
   have hjq : j < q.length := by omega
   have he : l[j] = q[j].1 := by
    subst h1
    exact List.getElem_map _
   obtain ⟨k1, k2⟩ := h3 _ (List.getElem_mem hjq)
   refine ⟨.slice q[j].2.1.1 q[j].1.P.length q[j].2.1.2, .slice q[j].2.2.1 q[j].1.cP.length q[j].2.2.2, fun i u hu => ?_, ?_⟩
   ·rw [Nat.zero_add]
    rw [he] at hu
    have hi : i < 12 := by
     rcases Nat.lt_or_ge i 12 with h | h
     ·exact h
     ·rw [Array.getElem?_eq_none (by show 12 ≤ i; exact h)] at hu; cases hu
    refine key _ _ ?_
    rw [ovs_get q j hjq i hi, ← hu]
    show (ocs q[j])[i]? = (ocs q[j]).toArray[i]?
    rw [List.getElem?_toArray]
   ·rw [he]
    exact ⟨OwnQ.in k1, OwnQ.in k2⟩
/-- one more -/
theorem OwnO.more {w w' : World} {B : Nat} {a : Option Addr} {c : Nat} {l : List OpD} {q : List (OpD × Pl)} (hq : q.map Prod.fst = l) (x : OpD) (p : Pl) (hrow : w.ownsRow B 32 12 (.slice a l.length c) l.length (ovs q)) (hold : ∀ x ∈ q, OwnQ w B x.2.1.1 x.2.1.2 x.1.P ∧ OwnQ w B x.2.2.1 x.2.2.2 x.1.cP)
 (h1 : OwnQ w B p.1.1 p.1.2 x.P) (h2 : OwnQ w B p.2.1 p.2.2 x.cP) {b' : Option Addr} {c' : Nat} (hg : w.grownBy w' (Value.slice a l.length c).ownBlock) (hr' : w'.ownsRow B 32 12 (.slice b' (l.length + 1) c') (l.length + 1) (ovs q ++ ocs (x, p))) : OwnO w' B b' c' (l ++ [x]) := by
 refine ⟨q ++ [(x, p)], by rw [List.map_append, hq]; rfl, ?_, fun y hy => ?_⟩
 ·rw [List.length_append, ovs_append]
  have e : ovs [(x, p)] = ocs (x, p) := by unfold ovs; simp
  rw [e]
  exact hr'
 ·rcases List.mem_append.1 hy with hy | hy
  ·exact ⟨(hold y hy).1.kept hrow (by decide) (by decide) hg, (hold y hy).2.kept hrow (by decide) (by decide) hg⟩
  ·rw [List.mem_singleton.1 hy]
   exact ⟨h1.kept hrow (by decide) (by decide) hg, h2.kept hrow (by decide) (by decide) hg⟩
theorem src_od (w : World) (x : OpD) (p : Pl) : Src Tryz.prog 12 55 (.slice (some ⟨w.heap.size, 0, none⟩) 1 1) 1 (ocs (x, p)) (w.alloc (.cells (opc x (.slice p.1.1 x.P.length p.1.2) (.slice p.2.1 x.cP.length p.2.2)) 32)) :=
 Src.ofSlice _ Tryz.underlying55 ⟨w.heap.size, 0, none⟩ 1 1 _ rfl (by
  intro j u hj
  rw [addr_add, Nat.zero_add]
  have hc := (IsC.new w 32 (opc x (.slice p.1.1 x.P.length p.1.2) (.slice p.2.1 x.cP.length p.2.2))).cell j
  have hlt : j < 12 := by
   rcases Nat.lt_or_ge j 12 with h | h
   ·exact h
   ·rw [List.getElem?_eq_none (by show 12 ≤ j; exact h)] at hj; cases hj
  rw [hc, ← hj]
  show (ocs (x, p)).toArray[j]? = _
  rw [List.getElem?_toArray]) (by
  intro u hu
  simp [ocs] at hu
  rcases hu with h | h | h | h | h | h | h | h | h | h | h | h <;> subst h <;> rfl)
namespace Tl
def flatF (os : List OpD) : List UInt8 := os.flatMap fun o => lineF o ++ [10]
def textsF (os : List OpD) : List UInt8 × Int := if os.any (fun o => (lineF o).isEmpty) = true then ([], 4) else (flatF os, 0)
theorem flatF_len (os : List OpD) (h : ∀ o ∈ os, o.Ok) : (flatF os).length ≤ 3000001 * os.length := by
 induction os with
 | nil => simp [flatF]
 | cons o os ih =>
   have h1 := ih (fun x hx => h x (List.mem_cons_of_mem _ hx))
   have h2 := line_len o (h o (List.mem_cons_self ..))
   have e : flatF (o :: os) = (lineF o ++ [10]) ++ flatF os := rfl
   rw [e, List.length_append, List.length_append]
   simp only [List.length_cons, List.length_nil]
   omega
theorem byteCells_str (l : List UInt8) : Lib.strCells (text l) = Lib.byteCells l := rfl
theorem byteCells_app (l m : List UInt8) : Lib.byteCells (l ++ m) = Lib.byteCells l ++ Lib.byteCells m := Lib.byteCells_append l m
end Tl
theorem bof_below {T e : TypeId} {B b : Nat} {bs : List Value} {w w' : World} (h : Lib.IsBuilderF T e B b bs w) (hb : Below w.heap.size w w') : Lib.IsBuilderF T e B b bs w' := by
 have one : ∀ p, Lib.BuilderAtF T e B b p bs w → Lib.BuilderAtF T e B b p bs w' := by
  intro p h
  have hlt := h.lt
  obtain ⟨hB, v, h1, h2, h3⟩ := h
  refine ⟨hB, v, (hb.block b hlt).trans h1, ?_, h3⟩
  exact h2.kept (row := none) ⟨hb.os, hb.tape, hb.output, hb.size, fun k hk _ => hb.block k hk⟩ (by cases v.ownBlock <;> simp)
 rcases h with h | h
 ·exact .inl (one _ h)
 ·exact .inr (one _ h)
theorem bwrite_c (B b : Nat) (l : List UInt8) (m : List UInt8) (w : World) (h : Lib.IsBuilderF 91 5 B b (Lib.byteCells l) w) (hlen : l.length + m.length ≤ 140737488355328) (hBw : B ≤ w.heap.size) :
 Calls Tryz.prog 45 #[.pointer (some ⟨b, 0, none⟩), .string (text m)] w fun e w' => e = .returned (.tuple #[.int .i64 (text m).size, .nilIface]) ∧ (Lib.IsBuilderF 91 5 B b (Lib.byteCells (l ++ m)) w' ∧ Below B w w') := by
 have h1 := Any.Builder_WriteString_f (ρ := Tryz.lays156_ren) { Tryz.lays156 with } Tryz.Builder_Extra_156 B b (Lib.byteCells l) (text m) w h (by rw [Lib.byteCells_length, text_size]; exact hlen) hBw
 refine Calls.mono h1 ?_
 rintro e w' ⟨rfl, h2, h3⟩
 refine ⟨rfl, .inr ?_, h3⟩
 rw [byteCells_app, ← byteCells_str m]
 exact h2
theorem bstr_c (B b : Nat) (l : List UInt8) (w : World) (h : Lib.IsBuilderF 91 5 B b (Lib.byteCells l) w) (hBw : B ≤ w.heap.size) :
 Calls Tryz.prog 46 #[.pointer (some ⟨b, 0, none⟩)] w fun e w' => e = .returned (.string (text l)) ∧ Below B w w' := by
 have h1 := Any.Builder_String_any_f (ρ := Tryz.lays156_ren) { Tryz.lays156 with } Tryz.Builder_Extra_156 B b l w h hBw
 refine Calls.mono h1 ?_
 rintro e w' ⟨rfl, h2, h3⟩
 exact ⟨rfl, h3⟩
theorem bfresh (w : World) : Lib.IsBuilderF 91 5 w.heap.size w.heap.size (Lib.byteCells []) (w.alloc (.cells #[.pointer none, .slice none 0 0] 91)) :=
 Lib.IsBuilderF.of (Lib.fresh_isBuilder _ _ w)
theorem tells_c (os : List OpD) (hn : os.length ≤ 4096) (hs : ∀ o ∈ os, OpSmall o) (v : Value) (w : World) (hin0 : InOps w v os) (hg : GlobT w) :
 Calls Tryz.prog 20 #[v] w fun e w' => e = .returned (.tuple #[.string (text (textsF os).1), .int .i64 (textsF os).2]) ∧ Below w.heap.size w w' := by
 obtain ⟨R, hR⟩ : ∃ R, textsF os = R := ⟨_, rfl⟩
 rw [hR]
 unfold textsF at hR
 have hfl := flatF_len os (fun o h => (hs o h).ok)
 obtain ⟨a, c, rfl, _⟩ := id hin0
 obtain ⟨n, hnn⟩ : ∃ n, os.length = n := ⟨_, rfl⟩
 rw [hnn] at hin0 hn ⊢
 have hb1 := below1 w (.cells #[.pointer none, .slice none 0 0] 91)
 have hB1 := bfresh w
 have hnI : (n : Int) ≤ 4096 := by omega
 have hnG : ¬ ((4096 : Int) < (n : Int)) := by omega
 replace hb1 := Hd hb1
 replace hB1 := Hd hB1
 replace hR := Hd hR
 replace hin0 := Hd hin0
 replace hs := Hd hs
 replace hfl := Hd hfl
 replace hnn := Hd hnn
 go_enter Tryz.func20, Tryz.ntmps20
 go_wp2_with fail
 go_loopw [13] (fun i wr => ∃ k : Nat, k ≤ n ∧ i = .int .i64 k ∧ (os.take k).any (fun o => (lineF o).isEmpty) = false ∧ Lib.IsBuilderF 91 5 w.heap.size w.heap.size (Lib.byteCells (flatF (os.take k))) wr ∧ Below w.heap.size w wr) (fun i _ => n - (intOf i).toNat)
 case atStart => exact ⟨0, Nat.zero_le _, rfl, rfl, hB1.out, hb1.out⟩
 case round =>
  obtain ⟨k, hk, rfl, hany, hB, hb⟩ := hrel
  have hbz := hb.size
  have hBw := hB
  by_cases hlt : k < n
  ·have hko : k < os.length := by rw [hnn.out]; exact hlt
   obtain ⟨g, o, s, t, rfl, hgz, hop, k0, k1, k2, k3, k4, k5, k6, k7, k8, k9, k10, k11⟩ := (hin0.out.below hb).at k hko
   have hst : os.take (k + 1) = os.take k ++ [os[k]] := List.take_succ_eq_append_getElem hko
   have hsm := hs.out os[k] (List.getElem_mem hko)
   have hmem := List.getElem_mem hko
   have hL0 : (flatF (os.take k)).length ≤ 3000001 * 4096 := by
    have := flatF_len (os.take k) (fun o h => (hs.out o (List.mem_of_mem_take h)).ok)
    rw [List.length_take] at this
    have h2 := Nat.mul_le_mul_left 3000001 (show min k os.length ≤ 4096 by omega)
    omega
   have hltI : (k : Int) < (n : Int) := by omega
   obtain ⟨x, hx⟩ : ∃ x, os[k] = x := ⟨_, rfl⟩
   rw [hx] at hop k0 k1 k2 k4 k5 k6 k7 k8 k10 k11 hst hsm hmem
   obtain ⟨sa, sc, rfl, _⟩ := id hop.1
   obtain ⟨ta, tc, rfl, _⟩ := id hop.2
   have hbq := below1 wr (.cells (opc x (.slice sa x.P.length sc) (.slice ta x.cP.length tc)) 32)
   have hb2 := hb.alloc hbz (.cells (opc x (.slice sa x.P.length sc) (.slice ta x.cP.length tc)) 32)
   have hB2 := hB.alloc (.cells (opc x (.slice sa x.P.length sc) (.slice ta x.cP.length tc)) 32)
   have cL := line_c x hsm _ _ _ (hop.below hbq) (hg.on hb2)
   have hll := line_len x hsm.ok
   have hflat1 : flatF (os.take k ++ [x]) = flatF (os.take k) ++ (lineF x ++ [10]) := by unfold flatF; rw [List.flatMap_append]; simp
   have hany1 : (os.take k ++ [x]).any (fun o => (lineF o).isEmpty) = ((os.take k).any (fun o => (lineF o).isEmpty) || (lineF x).isEmpty) := by rw [List.any_append]; simp
   have hall : (lineF x).isEmpty = true → os.any (fun o => (lineF o).isEmpty) = true := fun h => List.any_eq_true.2 ⟨x, hmem, h⟩
   rw [← hst] at hany1 hflat1
   generalize hF : flatF (os.take k) = F at *
   generalize hA : os.take (k + 1) = T1 at *
   generalize os.take k = T0 at *
   obtain ⟨xK, xE, xC, xP, xA, xN, xcK, xcE, xcC, xcP, xU, xB⟩ := x
   generalize hT : lineF ⟨xK, xE, xC, xP, xA, xN, xcK, xcE, xcC, xcP, xU, xB⟩ = T at *
   unfold opv at cL
   unfold opc at hb2 hB2 cL
   dsimp only at *
   have hpr := IsC.new wr 32 #[.int .i64 xK, .int .u64 xE, .int .i64 xC, .slice sa xP.length sc, .int .u32 xA, .int .u32 xN, .int .i64 xcK, .int .u64 xcE, .int .i64 xcC, .slice ta xcP.length tc, .int .i64 xU, .string xB]
   obtain ⟨j0, j1, j2, j3, j4, j5, j6, j7, j8, j9, j10, j11⟩ := cells12 hpr
   have hbz2 := hb2.size
   have e0 := str_empty (text T)
   rw [byts_text] at e0
   clear hB hop hbq hb hpr hx hsm hmem
   replace cL := Hd cL
   replace hb2 := Hd hb2
   replace hB2 := Hd hB2
   replace hany := Hd hany
   replace hany1 := Hd hany1
   replace hflat1 := Hd hflat1
   replace hall := Hd hall
   replace hF := Hd hF
   replace hst := Hd hst
   replace hA := Hd hA
   replace hT := Hd hT
   go_wp2_with fail
   refine cL.out.mono ?_
   rintro e w2 ⟨rfl, hb3⟩
   have hB3 := Hd (bof_below hB2.out hb3)
   have hb4 := Hd (below_up hb2.out hbz2 hb3)
   clear hb3 hb2 hB2 cL j0 j1 j2 j3 j4 j5 j6 j7 j8 j9 j10 j11 k0 k1 k2 k3 k4 k5 k6 k7 k8 k9 k10 k11 hbz2
   have hbz4 := hb4.out.size
   cases T with
   | nil =>
     have hr := hR.out
     rw [if_pos (hall.out rfl)] at hr
     subst hr
     clear hall
     go_wp2_with fail
     (try simp only [Exit.inBlock, Exit.then])
     refine bodyPost_ret (by simp [results, Tryz.results20, go_sem]; try rfl) rfl ?_
     exact ⟨rfl, hb4.out⟩
   | cons t0 tr =>
     have e1 : ((text (t0 :: tr)).toList == []) = false := e0
     clear e0
     have hm : text (t0 :: tr) ++ ⟨#[10]⟩ = text ((t0 :: tr) ++ [10]) := by rw [← text_append]; rfl
     have cW := bwrite_c w.heap.size w.heap.size F ((t0 :: tr) ++ [10]) w2 hB3.out (by rw [List.length_append]; simp only [List.length_cons, List.length_nil] at hll ⊢; omega) hbz4
     rw [← hm] at cW
     have q9 : ¬ 9223372036854775807 < (text (t0 :: tr)).size + 1 := by rw [text_size]; omega
     replace cW := Hd cW
     replace hm := Hd hm
     clear hB3
     go_wp2_with fail
     refine cW.out.mono ?_
     rintro e w3 ⟨rfl, hB5, hb5⟩
     replace hB5 := Hd hB5
     have hb6 := Hd (hb4.out.trans hb5)
     clear hb5 hb4 cW
     go_wp2_with fail
     go_roundw
     case rel => exact ⟨k + 1, by omega, by go_num, by rw [hA.out, hany1.out, hany.out]; rfl, by rw [hA.out, hflat1.out]; exact hB5.out, hb6.out⟩
     case measure => simp [intOf]; omega
  ·obtain rfl : k = n := by omega
   have hto : os.take k = os := List.take_of_length_le (by rw [hnn.out]; exact Nat.le_refl _)
   rw [hto] at hany hB
   have hr := hR.out
   rw [hany, if_neg (by decide)] at hr
   subst hr
   have cS := Hd (bstr_c w.heap.size w.heap.size (flatF os) wr hB hbz)
   clear hany hB hBw hto
   replace hb := Hd hb
   go_wp2_with fail
   refine cS.out.mono ?_
   rintro e w2 ⟨rfl, hb2⟩
   have hb3 := Hd (hb.out.trans hb2)
   clear hb2 cS
   go_wp2_with fail
   (try simp only [Exit.inBlock, Exit.then])
   refine bodyPost_ret (by simp [results, Tryz.results20, go_sem]; try rfl) rfl ?_
   exact ⟨rfl, hb3.out⟩
namespace Tl
def readF : Nat → List OpD → List UInt8 → List OpD × Int
 | 0, acc, _ => (acc, 0)
 | f + 1, acc, l => if l = [] then (acc, 0) else if (Lib.cut l [10]).2.2 = false ∨ (parseOF (Lib.cut l [10]).1).2 ≠ 0 then ([], 4) else if acc.length = 4096 then ([], 5) else readF f (acc ++ [(parseOF (Lib.cut l [10]).1).1]) (Lib.cut l [10]).2.1
def readsF (l : List UInt8) : List OpD × Int := readF (l.length + 1) [] l
/-- each line is short -/
def LinesLe (n : Nat) (l : List UInt8) : Prop := ∀ a x b, l = a ++ x ++ b → (10 : UInt8) ∉ x → x.length ≤ n
theorem LinesLe.tail {n : Nat} {x l : List UInt8} (h : LinesLe n (x ++ l)) : LinesLe n l := fun a y b e hy => h (x ++ a) y b (by rw [e]; simp) hy
theorem LinesLe.head {n : Nat} {x l : List UInt8} (h : LinesLe n (x ++ l)) (hx : (10 : UInt8) ∉ x) : x.length ≤ n := h [] x l (by simp) hx
theorem LinesLe.short {n : Nat} {l : List UInt8} (h : l.length ≤ n) : LinesLe n l := fun a x b e _ => by
 have := congrArg List.length e
 simp only [List.length_append] at this
 omega
theorem LinesLe.cons {n : Nat} {x l : List UInt8} (hx : x.length ≤ n) (hn : (10 : UInt8) ∉ x) (h : LinesLe n l) : LinesLe n (x ++ 10 :: l) := by
 intro a y b e hy
 have e' : x ++ 10 :: l = a ++ (y ++ b) := by rw [e, List.append_assoc]
 rcases List.append_eq_append_iff.1 e' with ⟨d, rfl, h2⟩ | ⟨d, rfl, h2⟩
 ·cases d with
  | nil =>
    cases y with
    | nil => exact Nat.zero_le _
    | cons q y => simp at h2; rw [← h2.1] at hy; simp at hy
  | cons q d =>
    simp at h2
    exact h d y b (by rw [h2.2]; simp) hy
 ·rcases List.append_eq_append_iff.1 h2 with ⟨d2, rfl, h3⟩ | ⟨d2, rfl, h3⟩
  ·simp only [List.length_append] at hx; omega
  ·cases d2 with
   | nil => simp only [List.length_append, List.append_nil] at hx ⊢; omega
   | cons q d2 => simp at h3; rw [← h3.1] at hy; simp at hy
theorem cut_cases (l : List UInt8) : ((10 : UInt8) ∉ l ∧ Lib.cut l [10] = (l, [], false)) ∨ ∃ x y, l = x ++ 10 :: y ∧ (10 : UInt8) ∉ x ∧ Lib.cut l [10] = (x, y, true) := by
 by_cases h : (10 : UInt8) ∈ l
 ·obtain ⟨x, y, rfl, hx⟩ := List.eq_append_cons_of_mem h
  exact .inr ⟨x, y, rfl, hx, cut_one x y 10 hx⟩
 ·exact .inl ⟨h, cut_no l 10 h⟩
theorem dg_nl {l : List UInt8} (h : ∀ c ∈ l, Dg c) : (10 : UInt8) ∉ l := dg_ne h 10 (not_dg (by decide) (by decide))
theorem itoa_nl (n : Int) : (10 : UInt8) ∉ Lib.itoa n := dg_nl (itoa_dg n)
theorem partT_nl (p : PartD) : (10 : UInt8) ∉ partT p := fun h => by
 rcases partT_mem h with h | h | h
 ·revert h; decide
 ·revert h; decide
 ·revert h; unfold Dg; decide
theorem hx_nl (n : Nat) : hx n ≠ 10 := by
 by_cases h : n < 16
 ·have hh : ∀ m : Fin 16, hx m.val ≠ 10 := by decide
  exact hh ⟨n, h⟩
 ·have : hx n = 0 := by
   unfold hx
   rw [List.getD_eq_getElem?_getD, List.getElem?_eq_none (by show hexL.length ≤ _; have : hexL.length = 16 := rfl; omega)]
   rfl
  rw [this]
  decide
theorem hexF_nl (l : List UInt8) : (10 : UInt8) ∉ hexF l := by
 intro h
 unfold hexF at h
 obtain ⟨c, _, h⟩ := List.mem_flatMap.1 h
 rcases List.mem_cons.1 h with h | h
 ·exact hx_nl _ h.symm
 ·exact hx_nl _ (List.mem_singleton.1 h).symm
theorem textS_nl (s : Nat) : (10 : UInt8) ∉ textS s := by
 intro h
 unfold textS at h
 split at h
 ·exact absurd h (by decide)
 ·rcases mem_joinQ h with h | ⟨x, hx, hc⟩
  ·exact absurd h (by decide)
  ·obtain ⟨i, _, rfl⟩ := List.mem_map.1 hx
   exact not_dg (by decide) (by decide) (digs_dg _ _ hc)
theorem qText_nl (a n : Int) : (10 : UInt8) ∉ qText a n := by
 unfold qText
 intro h
 rcases List.mem_append.1 h with h | h
 ·rcases List.mem_append.1 h with h | h
  ·exact textS_nl _ h
  ·revert h; decide
 ·exact textS_nl _ h
theorem wordB_nl (k : Int) : (10 : UInt8) ∉ wordB k := by
 unfold wordB
 by_cases h : k.toNat < 12
 ·have hh : ∀ n : Fin 12, (10 : UInt8) ∉ byts (wordL.getD n.val sS) := by decide
  exact hh ⟨k.toNat, h⟩
 ·have : wordL.getD k.toNat sS = sS := by
   rw [List.getD_eq_getElem?_getD, List.getElem?_eq_none (by show wordL.length ≤ _; have : wordL.length = 12 := rfl; omega)]
   rfl
  rw [this]
  decide
theorem join_nl (l : List (List UInt8)) (h : ∀ x ∈ l, (10 : UInt8) ∉ x) : (10 : UInt8) ∉ Lib.join l [32] := fun hm => by
 rcases mem_joinQ hm with h' | ⟨x, hx, h'⟩
 ·revert h'; decide
 ·exact h x hx h'
theorem hand_nl (e : Int) (ps : List PartD) : ∀ x ∈ handF e ps, (10 : UInt8) ∉ x := by
 intro x hx
 unfold handF at hx
 rcases List.mem_cons.1 hx with rfl | hx
 ·exact itoa_nl _
 rcases List.mem_cons.1 hx with rfl | hx
 ·exact itoa_nl _
 ·obtain ⟨p, _, rfl⟩ := List.mem_map.1 hx
  exact partT_nl p
theorem rest1_nl (o : OpD) : ∀ x ∈ rest1F o, (10 : UInt8) ∉ x := by
 intro x hx
 unfold rest1F at hx
 split at hx
 ·obtain ⟨p, _, rfl⟩ := List.mem_map.1 hx
  exact partT_nl p
 split at hx
 ·exact hand_nl _ _ x hx
 split at hx
 ·exact hand_nl _ _ x hx
 split at hx
 ·exact hand_nl _ _ x hx
 split at hx
 ·rcases List.mem_append.1 hx with hx | hx
  ·exact hand_nl _ _ x hx
  ·rw [List.mem_singleton.1 hx]; exact itoa_nl _
 split at hx
 ·rcases List.mem_append.1 hx with hx | hx
  ·exact hand_nl _ _ x hx
  ·rw [List.mem_singleton.1 hx]; exact itoa_nl _
 split at hx
 ·rw [List.mem_singleton.1 hx]; exact qText_nl _ _
 split at hx
 ·rw [List.mem_singleton.1 hx]; exact itoa_nl _
 split at hx
 ·split at hx
  ·cases hx
  ·rw [List.mem_singleton.1 hx]; exact hexF_nl _
 ·cases hx
theorem line1_nl (o : OpD) : (10 : UInt8) ∉ line1F o := by
 unfold line1F
 split
 ·unfold told1F
  refine join_nl _ fun x hx => ?_
  rcases List.mem_cons.1 hx with rfl | hx
  ·exact wordB_nl _
  ·exact rest1_nl o x hx
 ·simp
theorem line_nl (o : OpD) : (10 : UInt8) ∉ lineF o := by
 unfold lineF
 split
 ·refine join_nl _ fun x hx => ?_
  rcases List.mem_cons.1 hx with rfl | hx
  ·exact wordB_nl _
  ·unfold restF at hx
   split at hx
   ·rw [List.mem_singleton.1 hx]; exact line1_nl _
   ·exact rest1_nl o x hx
 ·simp
theorem isOp_kind {o : OpD} (h : isOpF o = true) : 1 ≤ o.K ∧ o.K ≤ 11 := by
 by_cases k8 : o.K = 8
 ·omega
 ·rw [show isOpF o = is1F o from if_neg k8] at h
  exact is1_kind h
theorem wordB_ne (k : Int) (h0 : 1 ≤ k) (h1 : k ≤ 11) : wordB k ≠ [] := by
 unfold wordB
 have hh : ∀ n : Fin 12, n.val ≠ 0 → byts (wordL.getD n.val sS) ≠ [] := by decide
 exact hh ⟨k.toNat, by omega⟩ (by show k.toNat ≠ 0; omega)
theorem line_ne {o : OpD} (h : isOpF o = true) : lineF o ≠ [] := by
 obtain ⟨h0, h1⟩ := isOp_kind h
 unfold lineF
 rw [if_pos h]
 intro e
 have hc := cut_join (wordB o.K) (restF o) (kind_word o.K h0 h1).2
 rw [e, cut_no [] 32 (by simp)] at hc
 exact wordB_ne o.K h0 h1 (congrArg Prod.fst hc).symm
theorem parse_back (o : OpD) (ok : o.Ok) (h : isOpF o = true) : parseOF (lineF o) = (o, 0) := by
 unfold parseOF
 rw [line_back o ok h, if_neg (by rintro (h' | h'); exact line_ne h h'; exact h' rfl)]
theorem read_back : ∀ (os acc : List OpD) (f : Nat), (∀ o ∈ os, o.Ok ∧ isOpF o = true) → acc.length + os.length ≤ 4096 → os.length < f → readF f acc (flatF os) = (acc ++ os, 0)
 | [], acc, f + 1, _, _, _ => by
   rw [readF, if_pos (show flatF [] = [] from rfl), List.append_nil]
 | o :: os, acc, f + 1, h, hn, hf => by
   obtain ⟨ok, ho⟩ := h o (List.mem_cons_self ..)
   have e : flatF (o :: os) = lineF o ++ 10 :: flatF os := by
    show (lineF o ++ [10]) ++ flatF os = _
    simp
   have hc := cut_one (lineF o) (flatF os) 10 (line_nl o)
   rw [readF, e, if_neg (by simp), hc]
   dsimp only
   rw [parse_back o ok ho]
   simp only [List.length_cons] at hn hf
   rw [if_neg (by simp), if_neg (by omega)]
   rw [read_back os (acc ++ [o]) f (fun x hx => h x (List.mem_cons_of_mem _ hx)) (by simp only [List.length_append, List.length_cons, List.length_nil]; omega) (by omega)]
   simp
 | _, _, 0, _, _, hf => absurd hf (Nat.not_lt_zero _)
theorem flat_count (os : List OpD) : os.length ≤ (flatF os).length := by
 induction os with
 | nil => exact Nat.le_refl _
 | cons o os ih =>
   have e : flatF (o :: os) = lineF o ++ 10 :: flatF os := by
    show (lineF o ++ [10]) ++ flatF os = _
    simp
   rw [e, List.length_append]
   simp only [List.length_cons]
   omega
theorem reads_back (os : List OpD) (h : ∀ o ∈ os, o.Ok ∧ isOpF o = true) (hn : os.length ≤ 4096) : readsF (flatF os) = (os, 0) := by
 have := flat_count os
 exact read_back os [] _ h (by simpa using hn) (by omega)
/-- a line of what can be told -/
theorem join_cons_le (q : UInt8) (x : List UInt8) (r : List (List UInt8)) : (Lib.join (x :: r) [q]).length ≤ x.length + 1 + (Lib.join r [q]).length := by
 cases r with
 | nil => rw [Lib.join_one]; omega
 | cons y r => rw [join_two, List.length_append]; simp only [List.length_cons]; omega
theorem rest1J_le (o : OpD) (ok : o.Ok) (hf : is1F o = true) : (Lib.join (rest1F o) [32]).length ≤ 99020 := by
 obtain ⟨hl, hv⟩ := parts_bound (is1_parts hf)
 have hpj : (Lib.join (o.P.map partT) [32]).length ≤ 98976 := by
  have := join_le 4123 32 (o.P.map partT) (fun x hx => by
   obtain ⟨p, hp, rfl⟩ := List.mem_map.1 hx
   have := partT_len (ok.P p hp)
   have := hv p hp
   omega)
  rw [List.length_map] at this
  omega
 have hh : ∀ ls : List (List UInt8), (Lib.join (Lib.itoa (idF o.E) :: Lib.itoa (genF o.E) :: ls) [32]).length ≤ 44 + (Lib.join ls [32]).length := fun ls => by
  have h1 := join_cons_le 32 (Lib.itoa (idF o.E)) (Lib.itoa (genF o.E) :: ls)
  have h2 := join_cons_le 32 (Lib.itoa (genF o.E)) ls
  have h3 := itoa_le (idF_i64 ok.E)
  have h4 := itoa_le (genF_i64 ok.E)
  omega
 have h1 : ∀ x : List UInt8, (Lib.join [x] [32]).length = x.length := fun x => by rw [Lib.join_one]
 have hcc := itoa_le ok.C
 have hcu := itoa_le ok.U
 unfold rest1F
 split
 ·omega
 split
 ·unfold handF; have := hh (o.P.map partT); omega
 split
 ·unfold handF; have := hh (o.P.map partT); omega
 split
 ·unfold handF; have := hh (o.P.map partT); omega
 split
 ·have := hh [Lib.itoa o.C]
  rw [h1] at this
  show (Lib.join (Lib.itoa (idF o.E) :: Lib.itoa (genF o.E) :: [Lib.itoa o.C]) [32]).length ≤ _
  omega
 split
 ·have := hh [Lib.itoa o.C]
  rw [h1] at this
  show (Lib.join (Lib.itoa (idF o.E) :: Lib.itoa (genF o.E) :: [Lib.itoa o.C]) [32]).length ≤ _
  omega
 split
 ·rw [h1]; have := qText_len o.A o.N; omega
 split
 ·rw [h1]; omega
 split
 ·rename_i k10
  have hb := is1_bytes hf k10
  split
  ·simp [Lib.join]
  ·rw [h1, hexF_len, byts_length]; omega
 ·simp [Lib.join]
theorem line_le (o : OpD) (ok : o.Ok) : (lineF o).length ≤ 99500 := by
 have one : ∀ o : OpD, o.Ok → (line1F o).length ≤ 99030 := fun o ok => by
  unfold line1F
  split
  ·rename_i hf
   unfold told1F
   have h1 := join_cons_le 32 (wordB o.K) (rest1F o)
   have h2 := rest1J_le o ok hf
   have h3 := wordB_len o.K
   omega
  ·simp
 unfold lineF
 split
 ·rename_i hf
  have h1 := join_cons_le 32 (wordB o.K) (restF o)
  have h3 := wordB_len o.K
  unfold restF at h1 ⊢
  by_cases k8 : o.K = 8
  ·rw [if_pos k8] at h1 ⊢
   rw [Lib.join_one] at h1
   have := one (asOpF o.cK o.cE o.cC o.cP) (asOp_ok ok)
   omega
  ·rw [if_neg k8] at h1 ⊢
   rw [show isOpF o = is1F o from if_neg k8] at hf
   have := rest1J_le o ok hf
   omega
 ·simp
end Tl
theorem partsL_c (l m : List PartD) (hN : l.length ≤ 1000000) (hL : ∀ p ∈ l, p.V.length ≤ 1000000) (s t : Value) (w : World) (hin : InS w s l) (hjn : InS w t m) :
 Calls Tryz.prog 42 #[s, t] w fun e w' => e = .returned (.bool (decide (l = m))) ∧ Below w.heap.size w w' := by
 obtain ⟨a, c, rfl, _⟩ := id hin
 obtain ⟨b, d, rfl, _⟩ := id hjn
 obtain ⟨R, hR⟩ : ∃ R, decide (l = m) = R := ⟨_, rfl⟩
 rw [hR]
 replace hR := Hd hR
 replace hin := Hd hin
 replace hjn := Hd hjn
 by_cases hlen : l.length = m.length
 ·have e0 : ((l.length : Int) != (m.length : Int)) = false := by rw [hlen]; simp
  go_enter Tryz.func42, Tryz.ntmps42
  go_wp2_with fail
  go_loopw [5] (fun i wr => ∃ j : Nat, j ≤ l.length ∧ i = .int .i64 j ∧ l.take j = m.take j ∧ Below w.heap.size w wr) (fun i _ => l.length - (intOf i).toNat)
  case atStart => exact ⟨0, Nat.zero_le _, rfl, rfl, Below.refl _ _⟩
  case round =>
   obtain ⟨j, hj, rfl, hno, hb⟩ := hrel
   by_cases hlt : j < l.length
   ·have hlt2 : j < m.length := by omega
    obtain ⟨g, o, ts, hga, hgz, h0, h1, hv⟩ := (hin.out.below hb).at j hlt
    obtain ⟨g', o', ts', hga', hgz', h0', h1', hv'⟩ := (hjn.out.below hb).at j hlt2
    subst hga
    subst hga'
    obtain ⟨va, vc, rfl, _⟩ := id hv
    obtain ⟨ua, uc, rfl, _⟩ := id hv'
    have hltI : (j : Int) < (l.length : Int) := by omega
    have hltJ : (j : Int) < (m.length : Int) := by omega
    have hst : l.take (j + 1) = l.take j ++ [l[j]] := List.take_succ_eq_append_getElem hlt
    have hsu : m.take (j + 1) = m.take j ++ [m[j]] := List.take_succ_eq_append_getElem hlt2
    have hne : l[j] ≠ m[j] → l ≠ m := take_ne hlt hlt2
    have hVL := hL l[j] (List.getElem_mem hlt)
    generalize l[j] = x at *
    generalize m[j] = y at *
    obtain ⟨xC, v⟩ := x
    obtain ⟨yC, u⟩ := y
    dsimp only at *
    by_cases hC : xC = yC
    ·subst hC
     by_cases hvl : v.length = u.length
     ·have e1 : ((v.length : Int) != (u.length : Int)) = false := by rw [hvl]; simp
      replace hv := Hd hv
      replace hv' := Hd hv'
      replace hb := Hd hb
      replace hne := Hd hne
      replace hst := Hd hst
      replace hsu := Hd hsu
      replace hno := Hd hno
      go_wp2_with fail
      go_quiet (fail)
      go_wp2_with fail
      go_loopw [6] (fun i wr2 => ∃ k : Nat, k ≤ v.length ∧ i = .int .i64 k ∧ v.take k = u.take k ∧ Below wr.heap.size wr wr2) (fun i _ => v.length - (intOf i).toNat)
      case atStart => exact ⟨0, Nat.zero_le _, rfl, rfl, below_drewN (Below.refl _ _)⟩
      case round =>
       obtain ⟨k, hk, rfl, hko, hb2⟩ := hrel
       have hbs := hb.out.size
       have hball := below_up hb.out hbs hb2
       have k1 := (hb2.cell (p := ⟨g, o + j * 2 + 1, none⟩) hgz).trans h1
       have k1' := (hb2.cell (p := ⟨g', o' + j * 2 + 1, none⟩) hgz').trans h1'
       clear h0 h0'
       by_cases hlk : k < v.length
       ·have hlk2 : k < u.length := by omega
        obtain ⟨g2, o2, rfl, hgz2, c0, c1, c2⟩ := (hv.out.below hb2).at k hlk
        obtain ⟨g3, o3, rfl, hgz3, c0', c1', c2'⟩ := (hv'.out.below hb2).at k hlk2
        have hlkI : (k : Int) < (v.length : Int) := by omega
        have hlkJ : (k : Int) < (u.length : Int) := by omega
        have hsv : v.take (k + 1) = v.take k ++ [v[k]] := List.take_succ_eq_append_getElem hlk
        have hsw : u.take (k + 1) = u.take k ++ [u[k]] := List.take_succ_eq_append_getElem hlk2
        have hne2 : v[k] ≠ u[k] → l ≠ m := fun h => hne.out (fun e => take_ne hlk hlk2 h (PartD.mk.inj e).2)
        generalize v[k] = x at *
        generalize u[k] = y at *
        clear h1 h1'
        replace hb2 := Hd hb2
        by_cases hxy : x = y
        ·subst hxy
         have hno' : v.take (k + 1) = u.take (k + 1) := by rw [hsv, hsw, hko]
         clear hsv hsw hko hne2
         replace hno' := Hd hno'
         replace hball := Hd hball
         go_wp2_with fail
         go_quiet (fail)
         go_wp2_with fail
         go_roundw
         case rel => exact ⟨k + 1, by omega, by go_num, hno'.out, below_drewN hb2.out⟩
         case measure => simp [intOf]; omega
        ·have hr := hR.out
         rw [decide_eq_false (hne2 hxy)] at hr
         subst hr
         clear hsv hsw hko hne2 hR
         replace hball := Hd hball
         by_cases e1 : x.n = y.n
         ·by_cases e2 : x.h = y.h
          ·have e3 : ¬ x.l = y.l := fun e3 => hxy (WI.ext' e1 e2 e3)
           clear hxy
           obtain ⟨xn, xh, xl⟩ := x
           obtain ⟨yn, yh, yl⟩ := y
           dsimp only at *
           subst e1 e2
           go_wp2_with fail
           go_quiet (fail)
           go_wp2_with fail
           go_ret
           exact ⟨rfl, below_drewN hball.out⟩
          ·clear hxy
           obtain ⟨xn, xh, xl⟩ := x
           obtain ⟨yn, yh, yl⟩ := y
           dsimp only at *
           subst e1
           go_wp2_with fail
           go_quiet (fail)
           go_wp2_with fail
           go_ret
           exact ⟨rfl, below_drewN hball.out⟩
         ·clear hxy
          obtain ⟨xn, xh, xl⟩ := x
          obtain ⟨yn, yh, yl⟩ := y
          dsimp only at *
          go_wp2_with fail
          go_quiet (fail)
          go_wp2_with fail
          go_ret
          exact ⟨rfl, below_drewN hball.out⟩
       ·obtain rfl : k = v.length := by omega
        rw [List.take_length, hvl, List.take_length] at hko
        subst hko
        have hno' : l.take (j + 1) = m.take (j + 1) := by rw [hst.out, hsu.out, hno.out]
        replace hno' := Hd hno'
        replace hball := Hd hball
        clear h1 h1' hb2
        go_wp2_with fail
        go_roundw
        case rel => exact ⟨j + 1, by omega, by go_num, hno'.out, hball.out⟩
        case measure => simp [intOf]; omega
     ·have e1 : ((v.length : Int) != (u.length : Int)) = true := bne_iff_ne.2 (by omega)
      have hr := hR.out
      rw [decide_eq_false (hne (fun e => hvl (by rw [(PartD.mk.inj e).2])))] at hr
      subst hr
      clear hst hsu hno hne hR
      replace hv := Hd hv
      replace hv' := Hd hv'
      replace hb := Hd hb
      go_wp2_with fail
      go_quiet (fail)
      go_wp2_with fail
      go_ret
      exact ⟨rfl, below_drewN hb.out⟩
    ·have hr := hR.out
     rw [decide_eq_false (hne (fun e => hC (PartD.mk.inj e).1))] at hr
     subst hr
     clear hst hsu hno hne hR
     replace hv := Hd hv
     replace hv' := Hd hv'
     replace hb := Hd hb
     go_wp2_with fail
     go_quiet (fail)
     go_wp2_with fail
     go_ret
     exact ⟨rfl, below_drewN hb.out⟩
   ·obtain rfl : j = l.length := by omega
    rw [List.take_length, hlen, List.take_length] at hno
    have hr := hR.out
    rw [decide_eq_true hno] at hr
    subst hr
    clear hno hR
    replace hb := Hd hb
    go_wp2_with fail
    go_ret
    exact ⟨rfl, hb.out⟩
 ·have e0 : ((l.length : Int) != (m.length : Int)) = true := bne_iff_ne.2 (by omega)
  have hr := hR.out
  rw [decide_eq_false (fun e => hlen (by rw [e]))] at hr
  subst hr
  clear hR
  go_enter Tryz.func42, Tryz.ntmps42
  go_wp2_with fail
  go_ret
  exact ⟨rfl, Below.refl _ _⟩
end Go.Proofs.YtjjgbillihedgaaGreatDoor
