/- parts of the proof, merged: TlV8, TlVS, TlVP, TlQ0, TlZ4 -/
import Derived.Test.YtjjgbillihedgaaGreatDoorQy37
import Derived.Test.YtjjgbillihedgaaGreatDoorQy41
set_option linter.unusedSimpArgs false
set_option linter.unusedVariables false
set_option maxHeartbeats 64000000
set_option maxRecDepth 100000
namespace Go.Proofs.YtjjgbillihedgaaGreatDoor
open Go.RowKit
open Rf
open Sg
open Wide
open Tl
namespace Tl
theorem rcmd_kind (k : Int) (h : isCmd k = true) : rcmdK (kindF k) = k := by
 unfold isCmd at h
 rw [Bool.and_eq_true] at h
 have h1 := of_decide_eq_true h.1
 have h2 := of_decide_eq_true h.2
 have hh : ∀ n : Fin 5, rcmdK (kindF ((n.val : Int) + 1)) = (n.val : Int) + 1 := by decide +kernel
 have := hh ⟨(k - 1).toNat, by omega⟩
 have e : (((k - 1).toNat : Int)) + 1 = k := by omega
 dsimp only at this
 rw [e] at this
 exact this
theorem rline_back (o : OpD) (ok : o.Ok) (h : isOpF o = true) : rguessF (lineF o) = o := by
 unfold lineF
 rw [if_pos h]
 unfold restF
 by_cases k8 : o.K = 8
 ·rw [if_pos k8]
  unfold isOpF at h
  rw [if_pos k8, Bool.and_eq_true, Bool.and_eq_true, Bool.and_eq_true] at h
  obtain ⟨⟨hn, hp⟩, hc, h1⟩ := h
  have hne := named_eq hn
  have hx := rtold_back _ (asOp_ok ok) h1
  have hl : line1F (asOpF o.cK o.cE o.cC o.cP) = told1F (asOpF o.cK o.cE o.cC o.cP) := if_pos h1
  have hcut : bcut (Lib.join [wordB o.K, line1F (asOpF o.cK o.cE o.cC o.cP)] [32]) = (wordB 8, told1F (asOpF o.cK o.cE o.cC o.cP)) := by
   rw [bcut_join _ _ (kind_word _ (by omega) (by omega)).2, Lib.join_one, hl, k8]
  unfold rguessF
  simp only [hcut, hx]
  rw [if_pos (kind_word 8 (by decide) (by decide)).1]
  have e : asOpF o.cK o.cE o.cC o.cP = ⟨kindF o.cK, o.cE, o.cC, o.cP, 0, 0, 0, 0, 0, [], 0, sS⟩ := if_pos hc
  rw [e]
  dsimp only
  rw [rcmd_kind _ hc]
  conv => rhs; rw [← hne]
  unfold namedF
  simp [k8]
 ·rw [if_neg k8]
  rw [show isOpF o = is1F o from if_neg k8] at h
  have hk := is1_kind h
  have hb := rtold_back o ok h
  unfold told1F at hb
  have hcut : (bcut (Lib.join (wordB o.K :: rest1F o) [32])).1 = wordB o.K := by rw [bcut_join _ _ (kind_word _ hk.1 hk.2).2]
  unfold rguessF
  rw [hcut, if_neg (by rw [(kind_word _ hk.1 hk.2).1]; exact k8), hb]
/-- the document's op of a line -/
def rparseF (l : List UInt8) : OpD × Bool := if l = [] ∨ lineF (rguessF l) ≠ l then (zeroO, false) else (rguessF l, true)
/-- both readings say the same -/
theorem parses_same (l : List UInt8) (h1 : (guessF l).Ok) (h2 : (rguessF l).Ok) : rparseF l = ((parseOF l).1, decide ((parseOF l).2 = 0)) := by
 unfold rparseF
 by_cases hl : l = []
 ·unfold parseOF
  rw [if_pos (.inl hl), if_pos (.inl hl)]
  rfl
 by_cases ha : lineF (guessF l) = l
 ·have hi := line_is (o := guessF l) (by rw [ha]; exact hl)
  have hg : rguessF l = guessF l := by
   have := rline_back (guessF l) h1 hi
   rw [ha] at this
   exact this
  unfold parseOF
  have hn : ¬ (l = [] ∨ lineF (guessF l) ≠ l) := by rintro (h | h); exact hl h; exact h ha
  rw [hg, if_neg hn, if_neg hn]
  rfl
 ·have hb : lineF (rguessF l) ≠ l := by
   intro hb
   have hi := line_is (o := rguessF l) (by rw [hb]; exact hl)
   have := line_back (rguessF l) h2 hi
   rw [hb] at this
   rw [this] at ha
   exact ha hb
  unfold parseOF
  rw [if_pos (.inr hb), if_pos (.inr ha)]
  rfl
end Tl
namespace Tl
theorem rpart_small (prev : Int) (w : List UInt8) (p : PartD) (h : rpartF prev w = some p) : p.Ok ∧ p.V.length ≤ 100 := by
 unfold rpartF at h
 split at h
 ·split at h
  ·rename_i h1
   split at h
   ·cases h
    exact ⟨⟨by dsimp only; omega, by dsimp only; omega, by simp⟩, by simp⟩
   ·split at h
    ·rename_i h2
     cases h
     refine ⟨⟨by dsimp only; omega, by dsimp only; omega, fun x hx => ?_⟩, ?_⟩
     ·obtain ⟨t, _, rfl⟩ := List.mem_map.1 hx
      exact parseF_ok t
     ·show (valsR _).length ≤ 100
      unfold valsR
      rw [List.length_map]
      exact h2.1
    ·cases h
  ·cases h
 ·cases h
theorem rparts_small : ∀ (l : List (List UInt8)) (prev : Int) (ps : List PartD), rpartsL prev l = some ps → ps.length ≤ l.length ∧ ∀ p ∈ ps, p.Ok ∧ p.V.length ≤ 100
 | [], prev, ps, h => by cases h; simp
 | w :: r, prev, ps, h => by
   rw [rpartsL] at h
   split at h
   ·cases h
   ·rename_i p hp
    obtain ⟨qs, hq, rfl⟩ := Option.map_eq_some_iff.1 h
    obtain ⟨h1, h2⟩ := rparts_small r _ qs hq
    refine ⟨by simp; omega, fun q hq => ?_⟩
    rcases List.mem_cons.1 hq with rfl | hq
    ·exact rpart_small _ _ _ hp
    ·exact h2 q hq
theorem rcut_small {l : List UInt8} (hl : l.length ≤ 99900) : u64 (rcE (rcutF l)) ∧ Tl.Small (rcP (rcutF l)) ∧ (rcP (rcutF l)).length ≤ 100000 := by
 have hz : u64 0 := by unfold u64; omega
 unfold rcutF
 split
 ·cases h : rpartsL 0 ((segsQ 32 l).drop 3) with
  | none => exact ⟨hz, small_nil, by simp [rcP]⟩
  | some ps =>
    obtain ⟨h1, h2⟩ := rparts_small _ _ _ h
    have h3 := segsQ_len 32 l
    have h4 := num19_bd ((segsQ 32 l).getD 1 [])
    have h5 := num19_bd ((segsQ 32 l).getD 2 [])
    rw [List.length_drop] at h1
    refine ⟨?_, ⟨?_, fun p hp => ⟨(h2 p hp).1, ?_⟩⟩, ?_⟩
    ·show u64 (num19F ((segsQ 32 l).getD 2 []) * 4294967296 + num19F ((segsQ 32 l).getD 1 []))
     unfold u64
     omega
    ·show ps.length ≤ _
     omega
    ·have := (h2 p hp).2
     omega
    ·show ps.length ≤ _
     omega
 ·exact ⟨hz, small_nil, by simp [rcP]⟩
theorem refP_lt (l : List UInt8) : (refP l).1 < 4294967296 := by
 have h := parse_ref (text l)
 have h2 := parseS_lt (text l)
 rw [byts_text] at h
 rw [h] at h2
 exact h2
theorem rq_u32 (l : List UInt8) : ∀ f i, u32 ((rqFrom l f i).1 : Int) ∧ u32 ((rqFrom l f i).2.1 : Int)
 | 0, i => by unfold rqFrom u32; dsimp only; omega
 | f + 1, i => by
   rw [rqFrom]
   split
   ·split
    ·unfold rqBoth
     have h1 := refP_lt (l.take i)
     have h2 := refP_lt (l.drop (i + 5))
     split
     ·unfold u32; dsimp only; omega
     ·unfold u32; dsimp only; omega
    ·exact rq_u32 l f (i + 1)
   ·unfold u32; dsimp only; omega
theorem entR_u64 (a b : Int) : u64 (entR a b) := by unfold entR u64; omega
theorem numGo_i64 (l : List UInt8) : i64 (numGo 0 l) := by
 have := numGo_bd l 0 (by omega)
 unfold i64
 omega
theorem rgO_small (k : Int) (hk : 0 ≤ k ∧ k ≤ 11) (t : List UInt8) (ht : t.length ≤ 99500) : OpSmall (rgO k t) := by
 have hz : i64 0 ∧ u64 0 ∧ u32 0 := by unfold i64 u64 u32; omega
 have hik : i64 k := by unfold i64; omega
 have hm : sS.size ≤ maxLen := by unfold maxLen; show 0 ≤ _; omega
 have mk : ∀ (E C : Int) (P : List PartD) (A N U : Int) (B : ByteArray), u64 E → i64 C → Tl.Small P → P.length ≤ 100000 → u32 A → u32 N → i64 U → B.size ≤ maxLen → OpSmall ⟨k, E, C, P, A, N, 0, 0, 0, [], U, B⟩ :=
  fun E C P A N U B h1 h2 h3 h4 h5 h6 h7 h8 => ⟨⟨hik, h1, h2, fun p hp => (h3.2 p hp).1, h5, h6, hz.1, hz.2.1, hz.1, by simp, h7⟩, h3, h4, small_nil, by simp, h8⟩
 have hb := behF_len t
 obtain ⟨c1, c2, c3⟩ := rcut_small (l := [101, 32, 49, 32, 49] ++ behF t) (by rw [List.length_append]; simp; omega)
 obtain ⟨d1, d2, d3⟩ := rcut_small (l := [101, 32] ++ t) (by rw [List.length_append]; simp; omega)
 obtain ⟨q1, q2⟩ := rq_u32 t (t.length + 1) 0
 have hbl := bytesF_len t
 unfold rgO
 split
 ·exact mk 0 0 _ 0 0 0 sS hz.2.1 hz.1 c2 c3 hz.2.2 hz.2.2 hz.1 hm
 split
 ·exact mk _ 0 _ 0 0 0 sS d1 hz.1 d2 d3 hz.2.2 hz.2.2 hz.1 hm
 split
 ·exact mk _ _ _ 0 0 0 sS (entR_u64 _ _) (numGo_i64 _) small_nil (by simp) hz.2.2 hz.2.2 hz.1 hm
 split
 ·exact mk 0 0 _ _ _ 0 sS hz.2.1 hz.1 small_nil (by simp) q1 q2 hz.1 hm
 split
 ·exact mk 0 0 _ 0 0 _ sS hz.2.1 hz.1 small_nil (by simp) hz.2.2 hz.2.2 (numGo_i64 _) hm
 split
 ·exact mk 0 0 _ 0 0 0 _ hz.2.1 hz.1 small_nil (by simp) hz.2.2 hz.2.2 hz.1 (by rw [text_size]; unfold maxLen; omega)
 exact mk 0 0 _ 0 0 0 sS hz.2.1 hz.1 small_nil (by simp) hz.2.2 hz.2.2 hz.1 hm
theorem rguess1_small (l : List UInt8) (hl : l.length ≤ 99500) : OpSmall (rguess1F l) :=
 rgO_small _ (kindOf_bd _) _ (Nat.le_trans (bcut_le l).2 hl)
theorem rcmdK_bd (k : Int) : 0 ≤ rcmdK k ∧ rcmdK k ≤ 5 := by
 have h : ∀ n : Nat, 0 ≤ ([0, 1, 2, 3, 5, 4] : List Int).getD n 0 ∧ ([0, 1, 2, 3, 5, 4] : List Int).getD n 0 ≤ 5 := fun n => by
  match n with
  | 0 => decide
  | 1 => decide
  | 2 => decide
  | 3 => decide
  | 4 => decide
  | 5 => decide
  | m + 6 => simp
 exact h k.toNat
theorem rguess_small (l : List UInt8) (hl : l.length ≤ 99500) : OpSmall (rguessF l) := by
 have ht := Nat.le_trans (bcut_le l).2 hl
 have hz : i64 0 ∧ u64 0 ∧ u32 0 := by unfold i64 u64 u32; omega
 have hm : sS.size ≤ maxLen := by unfold maxLen; show 0 ≤ _; omega
 unfold rguessF
 split
 ·have h1 := rguess1_small (bcut l).2 ht
  have hk := rcmdK_bd (rguess1F (bcut l).2).K
  exact ⟨⟨by unfold i64; dsimp only; omega, hz.2.1, hz.1, by simp, hz.2.2, hz.2.2, by unfold i64; dsimp only; omega, h1.ok.E, h1.ok.C, h1.ok.P, hz.1⟩, small_nil, by simp, h1.P, h1.L, hm⟩
 ·exact rguess1_small l hl
/-- a line's op, both ways of reading -/
theorem parses (l : List UInt8) (hl : l.length ≤ 99500) : rparseF l = ((parseOF l).1, decide ((parseOF l).2 = 0)) := parses_same l (guess_small l hl).ok (rguess_small l hl).ok
end Tl
theorem rparse_c (s : ByteArray) (hs : s.size ≤ 99500) (w : World) :
 Calls Tryz.prog 14 #[.string s] w fun e w' => (∃ a c b d, e = .returned (.tuple #[opv (rparseF (byts s)).1 (.slice a (rparseF (byts s)).1.P.length c) (.slice b (rparseF (byts s)).1.cP.length d), .bool (rparseF (byts s)).2]) ∧ OwnQ w' w.heap.size a c (rparseF (byts s)).1.P ∧ OwnQ w' w.heap.size b d (rparseF (byts s)).1.cP) ∧ Below w.heap.size w w' := by
 have hb0 := below1 w (.cells #[.int .i64 0, .int .u64 0, .int .i64 0, .slice none 0 0, .int .u32 0, .int .u32 0, .int .i64 0, .int .u64 0, .int .i64 0, .slice none 0 0, .int .i64 0, .string ⟨#[]⟩] 38)
 have hbox := IsC.new w 38 #[.int .i64 0, .int .u64 0, .int .i64 0, .slice none 0 0, .int .u32 0, .int .u32 0, .int .i64 0, .int .u64 0, .int .i64 0, .slice none 0 0, .int .i64 0, .string ⟨#[]⟩]
 have hsz0 := size_alloc w (.cells #[.int .i64 0, .int .u64 0, .int .i64 0, .slice none 0 0, .int .u32 0, .int .u32 0, .int .i64 0, .int .u64 0, .int .i64 0, .slice none 0 0, .int .i64 0, .string ⟨#[]⟩] 38)
 have cG := rguess_c s hs (w.alloc (.cells #[.int .i64 0, .int .u64 0, .int .i64 0, .slice none 0 0, .int .u32 0, .int .u32 0, .int .i64 0, .int .u64 0, .int .i64 0, .slice none 0 0, .int .i64 0, .string ⟨#[]⟩] 38))
 have hsm := rguess_small (byts s) (by rw [byts_length]; omega)
 obtain ⟨R, hR⟩ : ∃ R, rparseF (byts s) = R := ⟨_, rfl⟩
 rw [hR]
 unfold rparseF at hR
 have cL2 := fun st tt w' (hi : OpIn w' (rguessF (byts s)) st tt) => rline_c (rguessF (byts s)) hsm st tt w' hi
 have hcmp := bytes_eq (text (lineF (rguessF (byts s)))) s
 rw [byts_text] at hcmp
 have hnil : byts s = [] ↔ ¬ 0 < s.size := byts0 s
 generalize lineF (rguessF (byts s)) = T at *
 generalize rguessF (byts s) = y at *
 obtain ⟨yK, yE, yC, yP, yA, yN, ycK, ycE, ycC, ycP, yU, yB⟩ := y
 unfold Guessed opv at cG
 unfold opv at cL2
 dsimp only at cG cL2
 rw [hsz0] at cG
 obtain ⟨BB, hBB⟩ : ∃ b, decide (byts s = [] ∨ T ≠ byts s) = b := ⟨_, rfl⟩
 have hR2 : R = if BB = true then (zeroO, false) else (⟨yK, yE, yC, yP, yA, yN, ycK, ycE, ycC, ycP, yU, yB⟩, true) := by
  rw [← hR, ← hBB]
  by_cases h : byts s = [] ∨ T ≠ byts s
  ·rw [if_pos h, decide_eq_true h]; rfl
  ·rw [if_neg h, decide_eq_false h]; rfl
 replace cG := Hd cG
 replace cL2 := Hd cL2
 replace hb0 := Hd hb0
 replace hbox := Hd hbox
 replace hnil := Hd hnil
 replace hBB := Hd hBB
 replace hR2 := Hd hR2
 clear hsm hR
 have hb0s := hb0.out.size
 go_enter Tryz.func14, Tryz.ntmps14
 go_wp2_with fail
 refine cG.out.mono ?_
 rintro x w1 ⟨⟨qa, qc, qb, qd, rfl, hQ1, hQ2⟩, hb1⟩
 have hbq := below1 w1 (.cells #[.int .i64 yK, .int .u64 yE, .int .i64 yC, .slice qa yP.length qc, .int .u32 yA, .int .u32 yN, .int .i64 ycK, .int .u64 ycE, .int .i64 ycC, .slice qb ycP.length qd, .int .i64 yU, .string yB] 38)
 rw [← hsz0] at hb1
 have hbX2 := below_up hb0.out hb0s hb1
 have hbx := Hd ((isC_of hb1 hbox.out).alloc (.cells #[.int .i64 yK, .int .u64 yE, .int .i64 yC, .slice qa yP.length qc, .int .u32 yA, .int .u32 yN, .int .i64 ycK, .int .u64 ycE, .int .i64 ycC, .slice qb ycP.length qd, .int .i64 yU, .string yB] 38))
 have hpr := Hd (IsC.new w1 38 #[.int .i64 yK, .int .u64 yE, .int .i64 yC, .slice qa yP.length qc, .int .u32 yA, .int .u32 yN, .int .i64 ycK, .int .u64 ycE, .int .i64 ycC, .slice qb ycP.length qd, .int .i64 yU, .string yB])
 have hbX := Hd (hbX2.alloc hbX2.size (.cells #[.int .i64 yK, .int .u64 yE, .int .i64 yC, .slice qa yP.length qc, .int .u32 yA, .int .u32 yN, .int .i64 ycK, .int .u64 ycE, .int .i64 ycC, .slice qb ycP.length qd, .int .i64 yU, .string yB] 38))
 replace hQ1 := Hd (hQ1.below hbq)
 replace hQ2 := Hd (hQ2.below hbq)
 have cL3 := Hd (cL2.out (.slice qa yP.length qc) (.slice qb ycP.length qd) _ ⟨OwnQ.in hQ1.out, OwnQ.in hQ2.out⟩)
 clear hb1 hbq hbX2 cG hb0 hbox cL2 hb0s
 obtain ⟨W, hW⟩ : ∃ W, w1.alloc (.cells #[.int .i64 yK, .int .u64 yE, .int .i64 yC, .slice qa yP.length qc, .int .u32 yA, .int .u32 yN, .int .i64 ycK, .int .u64 ycE, .int .i64 ycC, .slice qb ycP.length qd, .int .i64 yU, .string yB] 38) = W := ⟨_, rfl⟩
 rw [hW] at hbx hpr hbX hQ1 hQ2 cL3
 have hbXs := hbX.out.size
 obtain ⟨y0, y1, y2, y3, y4, y5, y6, y7, y8, y9, y10, y11⟩ := cells12 hpr.out
 replace hW := Hd hW
 go_upto_region 2 with fail
 rw [hW.out]
 go_cut [15] (fun s15 wx => s15 = .bool BB ∧ IsC wx w.heap.size 38 #[.int .i64 0, .int .u64 0, .int .i64 0, .slice none 0 0, .int .u32 0, .int .u32 0, .int .i64 0, .int .u64 0, .int .i64 0, .slice none 0 0, .int .i64 0, .string ⟨#[]⟩] ∧ IsC wx w1.heap.size 38 #[.int .i64 yK, .int .u64 yE, .int .i64 yC, .slice qa yP.length qc, .int .u32 yA, .int .u32 yN, .int .i64 ycK, .int .u64 ycE, .int .i64 ycC, .slice qb ycP.length qd, .int .i64 yU, .string yB] ∧ Below w.heap.size w wx ∧ OwnQ wx (w.heap.size + 1) qa qc yP ∧ OwnQ wx (w.heap.size + 1) qb qd ycP)
 case first =>
  by_cases hz : 0 < s.size
  ·have pz : ((s.size : Int) == 0) = false := beq_eq_false_iff_ne.2 (by omega)
   have hne : ¬ byts s = [] := fun h => hnil.out.1 h hz
   go_wp2_with fail
   refine cL3.out.mono ?_
   rintro x w2 ⟨rfl, hb2⟩
   have hbx2 := Hd (isC_of hb2 hbx.out)
   have hpr2 := Hd (isC_of hb2 hpr.out)
   have hbX2 := Hd (below_up hbX.out hbXs hb2)
   have hQ12 := Hd (hQ1.out.below hb2)
   have hQ22 := Hd (hQ2.out.below hb2)
   clear hb2 cL3
   by_cases hE : T = byts s
   ·rw [decide_eq_true hE] at hcmp
    have hv : BB = false := by rw [← hBB.out]; exact decide_eq_false (fun h => h.elim hne (fun h => h hE))
    subst hv
    replace hE := Hd hE
    replace hne := Hd hne
    go_wp2_with fail
    go_meet
    exact ⟨rfl, hbx2.out, hpr2.out, hbX2.out, hQ12.out, hQ22.out⟩
   ·rw [decide_eq_false hE] at hcmp
    have hv : BB = true := by rw [← hBB.out]; exact decide_eq_true (.inr hE)
    subst hv
    replace hE := Hd hE
    replace hne := Hd hne
    go_wp2_with fail
    go_meet
    exact ⟨rfl, hbx2.out, hpr2.out, hbX2.out, hQ12.out, hQ22.out⟩
  ·have pz : ((s.size : Int) == 0) = true := beq_iff_eq.2 (by omega)
   have hv : BB = true := by rw [← hBB.out]; exact decide_eq_true (.inl (hnil.out.2 hz))
   subst hv
   go_wp2_with fail
   go_meet
   exact ⟨rfl, hbx.out, hpr.out, hbX.out, hQ1.out, hQ2.out⟩
 case rest =>
  clear y0 y1 y2 y3 y4 y5 y6 y7 y8 y9 y10 y11 hbx hpr hbX hQ1 hQ2 cL3 hbXs hnil hBB hcmp
  obtain ⟨rfl, hbx, hpr, hbX, hQ1, hQ2⟩ := hcut
  replace hbx := Hd hbx
  replace hpr := Hd hpr
  replace hbX := Hd hbX
  replace hQ1 := Hd hQ1
  replace hQ2 := Hd hQ2
  cases BB with
  | true =>
    have hs12 := Hd (cells12 (isC_set12 (w := wc) (v0 := .int .i64 0) (v1 := .int .u64 0) (v2 := .int .i64 0) (v3 := .slice none 0 0) (v4 := .int .u32 0) (v5 := .int .u32 0) (v6 := .int .i64 0) (v7 := .int .u64 0) (v8 := .int .i64 0) (v9 := .slice none 0 0) (v10 := .int .i64 0) (v11 := .string ⟨#[]⟩) hbx.out))
    have hfin := Hd (show Below w.heap.size w (set12 wc w.heap.size (.int .i64 0) (.int .u64 0) (.int .i64 0) (.slice none 0 0) (.int .u32 0) (.int .u32 0) (.int .i64 0) (.int .u64 0) (.int .i64 0) (.slice none 0 0) (.int .i64 0) (.string ⟨#[]⟩)) from below_set12 (w := wc) hbX.out (Nat.le_refl _))
    obtain ⟨f0, f1, f2, f3, f4, f5, f6, f7, f8, f9, f10, f11⟩ := fr12 hbx.out
    obtain ⟨x0, x1, x2, x3, x4, x5, x6, x7, x8, x9, x10, x11⟩ := cells12 hbx.out
    go_wp2_with fail
    obtain ⟨wf, hwf⟩ : ∃ wf, set12 wc w.heap.size (.int .i64 0) (.int .u64 0) (.int .i64 0) (.slice none 0 0) (.int .u32 0) (.int .u32 0) (.int .i64 0) (.int .u64 0) (.int .i64 0) (.slice none 0 0) (.int .i64 0) (.string ⟨#[]⟩) = wf := ⟨_, rfl⟩
    obtain ⟨s0, s1, s2, s3, s4, s5, s6, s7, s8, s9, s10, s11⟩ := hs12.out
    have r0 := hfin.out
    rw [hwf] at s0 s1 s2 s3 s4 s5 s6 s7 s8 s9 s10 s11 r0
    unfold set12 at hwf
    rw [hwf]
    (try simp only [Exit.inBlock, Exit.then])
    refine bodyPost_ret (by simp [results, Tryz.results14, go_sem, s0, s1, s2, s3, s4, s5, s6, s7, s8, s9, s10, s11]; try rfl) rfl ?_
    rw [hR2.out]
    exact ⟨⟨none, 0, none, 0, rfl, OwnQ.nil _ _, OwnQ.nil _ _⟩, r0⟩
  | false =>
    have hs12 := Hd (cells12 (isC_set12 (w := wc) (v0 := .int .i64 yK) (v1 := .int .u64 yE) (v2 := .int .i64 yC) (v3 := .slice qa yP.length qc) (v4 := .int .u32 yA) (v5 := .int .u32 yN) (v6 := .int .i64 ycK) (v7 := .int .u64 ycE) (v8 := .int .i64 ycC) (v9 := .slice qb ycP.length qd) (v10 := .int .i64 yU) (v11 := .string yB) hbx.out))
    have hfin := Hd (show Below w.heap.size w (set12 wc w.heap.size (.int .i64 yK) (.int .u64 yE) (.int .i64 yC) (.slice qa yP.length qc) (.int .u32 yA) (.int .u32 yN) (.int .i64 ycK) (.int .u64 ycE) (.int .i64 ycC) (.slice qb ycP.length qd) (.int .i64 yU) (.string yB)) from below_set12 (w := wc) hbX.out (Nat.le_refl _))
    have hq1 := Hd (OwnQ.mono (OwnQ.set12 (w := wc) (v0 := .int .i64 yK) (v1 := .int .u64 yE) (v2 := .int .i64 yC) (v3 := .slice qa yP.length qc) (v4 := .int .u32 yA) (v5 := .int .u32 yN) (v6 := .int .i64 ycK) (v7 := .int .u64 ycE) (v8 := .int .i64 ycC) (v9 := .slice qb ycP.length qd) (v10 := .int .i64 yU) (v11 := .string yB) hQ1.out (Nat.lt_succ_self _)) (Nat.le_succ _))
    have hq2 := Hd (OwnQ.mono (OwnQ.set12 (w := wc) (v0 := .int .i64 yK) (v1 := .int .u64 yE) (v2 := .int .i64 yC) (v3 := .slice qa yP.length qc) (v4 := .int .u32 yA) (v5 := .int .u32 yN) (v6 := .int .i64 ycK) (v7 := .int .u64 ycE) (v8 := .int .i64 ycC) (v9 := .slice qb ycP.length qd) (v10 := .int .i64 yU) (v11 := .string yB) hQ2.out (Nat.lt_succ_self _)) (Nat.le_succ _))
    obtain ⟨f0, f1, f2, f3, f4, f5, f6, f7, f8, f9, f10, f11⟩ := fr12 hbx.out
    obtain ⟨x0, x1, x2, x3, x4, x5, x6, x7, x8, x9, x10, x11⟩ := cells12 hbx.out
    obtain ⟨y0, y1, y2, y3, y4, y5, y6, y7, y8, y9, y10, y11⟩ := cells12 hpr.out
    go_wp2_with fail
    obtain ⟨wf, hwf⟩ : ∃ wf, set12 wc w.heap.size (.int .i64 yK) (.int .u64 yE) (.int .i64 yC) (.slice qa yP.length qc) (.int .u32 yA) (.int .u32 yN) (.int .i64 ycK) (.int .u64 ycE) (.int .i64 ycC) (.slice qb ycP.length qd) (.int .i64 yU) (.string yB) = wf := ⟨_, rfl⟩
    obtain ⟨s0, s1, s2, s3, s4, s5, s6, s7, s8, s9, s10, s11⟩ := hs12.out
    have r0 := hfin.out
    have r1 := hq1.out
    have r2 := hq2.out
    rw [hwf] at s0 s1 s2 s3 s4 s5 s6 s7 s8 s9 s10 s11 r0 r1 r2
    unfold set12 at hwf
    rw [hwf]
    (try simp only [Exit.inBlock, Exit.then])
    refine bodyPost_ret (by simp [results, Tryz.results14, go_sem, s0, s1, s2, s3, s4, s5, s6, s7, s8, s9, s10, s11]; try rfl) rfl ?_
    rw [hR2.out]
    exact ⟨⟨qa, qc, qb, qd, rfl, r1, r2⟩, r0⟩
namespace Tl
theorem parse_err (l : List UInt8) : (parseOF l).2 = 0 ∨ (parseOF l).2 = 4 := by
 unfold parseOF
 split
 ·exact .inr rfl
 ·exact .inl rfl
theorem bytes_err (l : List UInt8) : (bytesF l).2 = 0 ∨ (bytesF l).2 = 4 := by
 unfold bytesF
 split
 ·exact .inr rfl
 ·exact .inl rfl
theorem zero_small : OpSmall zeroO := by
 have hz : i64 0 ∧ u64 0 ∧ u32 0 := by unfold i64 u64 u32; omega
 have hm : sS.size ≤ maxLen := by unfold maxLen; show 0 ≤ _; omega
 unfold zeroO
 exact ⟨⟨hz.1, hz.2.1, hz.1, by simp, hz.2.2, hz.2.2, hz.1, hz.2.1, hz.1, by simp, hz.1⟩, small_nil, by simp, small_nil, by simp, hm⟩
theorem parse_small (l : List UInt8) (hl : l.length ≤ 99500) : OpSmall (parseOF l).1 := by
 unfold parseOF
 split
 ·exact zero_small
 ·exact guess_small l hl
theorem readF_step (f : Nat) (acc : List OpD) (x y : List UInt8) (hx : (10 : UInt8) ∉ x) : readF (f + 1) acc (x ++ 10 :: y) = if (parseOF x).2 ≠ 0 then ([], 4) else if acc.length = 4096 then ([], 5) else readF f (acc ++ [(parseOF x).1]) y := by
 rw [readF, if_neg (by simp), cut_one x y 10 hx]
 simp
theorem readF_no (f : Nat) (acc : List OpD) (x : List UInt8) (hx : (10 : UInt8) ∉ x) (h0 : x ≠ []) : readF (f + 1) acc x = ([], 4) := by
 rw [readF, if_neg h0, cut_no x 10 hx]
 simp
theorem readF_nil (f : Nat) (acc : List OpD) : readF f acc [] = (acc, 0) := by
 cases f with
 | zero => rfl
 | succ f => rw [readF, if_pos rfl]
theorem readF_pre : ∀ (f : Nat) (acc : List OpD) (l : List UInt8), ((readF f acc l).2 = 0 ∧ ∃ r, (readF f acc l).1 = acc ++ r) ∨ ((readF f acc l).1 = [] ∧ (readF f acc l).2 ≠ 0)
 | 0, acc, l => .inl ⟨rfl, [], by simp [readF]⟩
 | f + 1, acc, l => by
   rw [readF]
   split
   ·exact .inl ⟨rfl, [], by simp⟩
   split
   ·exact .inr ⟨rfl, by decide⟩
   split
   ·exact .inr ⟨rfl, by decide⟩
   ·rcases readF_pre f (acc ++ [(parseOF (Lib.cut l [10]).1).1]) (Lib.cut l [10]).2.1 with ⟨h1, r, h2⟩ | h
    ·exact .inl ⟨h1, (parseOF (Lib.cut l [10]).1).1 :: r, by rw [h2]; simp⟩
    ·exact .inr h
theorem readF_err : ∀ (f : Nat) (acc : List OpD) (l : List UInt8), (readF f acc l).2 = 0 ∨ (readF f acc l).2 = 4 ∨ (readF f acc l).2 = 5
 | 0, acc, l => .inl rfl
 | f + 1, acc, l => by
   rw [readF]
   split
   ·exact .inl rfl
   split
   ·exact .inr (.inl rfl)
   split
   ·exact .inr (.inr rfl)
   ·exact readF_err f _ _
theorem goods_texts (os : List OpD) : textsF os = if os.all isOpF = true then (flatF os, 0) else ([], 4) := by
 unfold textsF
 by_cases h : os.all isOpF = true
 ·rw [if_pos h, if_neg]
  intro hh
  obtain ⟨o, ho, he⟩ := List.any_eq_true.1 hh
  exact line_ne (List.all_eq_true.1 h o ho) (List.isEmpty_iff.1 he)
 ·rw [if_neg h, if_pos]
  refine Classical.byContradiction fun hn => h (List.all_eq_true.2 fun o ho => Classical.byContradiction fun hno => hn (List.any_eq_true.2 ⟨o, ho, ?_⟩))
  unfold lineF
  rw [if_neg hno]
  rfl
end Tl
theorem formL_c (o : OpD) (s t : Value) (w : World) (hin : OpIn w o s t) : Calls Tryz.prog 8 #[opv o s t] w fun e w' => e = .returned (opv o s t) ∧ Below w.heap.size w w' := by
 obtain ⟨⟨a, c, rfl, hx1⟩, ⟨b, d, rfl, hx2⟩⟩ := hin
 clear hx1 hx2
 obtain ⟨K, E, C, P, A, N, cK, cE, cC, cP, U, B⟩ := o
 unfold opv
 dsimp only at *
 generalize P.length = n at *
 generalize cP.length = m at *
 have hb1 := (below1 w (.cells #[.int .i64 K, .int .u64 E, .int .i64 C, .slice a n c, .int .u32 A, .int .u32 N, .int .i64 cK, .int .u64 cE, .int .i64 cC, .slice b m d, .int .i64 U, .string B] 32)).alloc (by rw [size_alloc]; omega) (.cells #[.int .i64 0, .int .u64 0, .int .i64 0, .slice none 0 0, .int .u32 0, .int .u32 0, .int .i64 0, .int .u64 0, .int .i64 0, .slice none 0 0, .int .i64 0, .string ⟨#[]⟩] 38)
 have hb2 := hb1.alloc hb1.size (.cells #[.int .i64 cK, .int .u64 cE, .int .i64 cC, .slice b m d] 36)
 have hA := ((IsC.new w 32 #[.int .i64 K, .int .u64 E, .int .i64 C, .slice a n c, .int .u32 A, .int .u32 N, .int .i64 cK, .int .u64 cE, .int .i64 cC, .slice b m d, .int .i64 U, .string B]).alloc (.cells #[.int .i64 0, .int .u64 0, .int .i64 0, .slice none 0 0, .int .u32 0, .int .u32 0, .int .i64 0, .int .u64 0, .int .i64 0, .slice none 0 0, .int .i64 0, .string ⟨#[]⟩] 38)).alloc (.cells #[.int .i64 cK, .int .u64 cE, .int .i64 cC, .slice b m d] 36)
 have hZ := (IsC.new (w.alloc (.cells #[.int .i64 K, .int .u64 E, .int .i64 C, .slice a n c, .int .u32 A, .int .u32 N, .int .i64 cK, .int .u64 cE, .int .i64 cC, .slice b m d, .int .i64 U, .string B] 32)) 38 #[.int .i64 0, .int .u64 0, .int .i64 0, .slice none 0 0, .int .u32 0, .int .u32 0, .int .i64 0, .int .u64 0, .int .i64 0, .slice none 0 0, .int .i64 0, .string ⟨#[]⟩]).alloc (.cells #[.int .i64 cK, .int .u64 cE, .int .i64 cC, .slice b m d] 36)
 have hD := IsC.new ((w.alloc (.cells #[.int .i64 K, .int .u64 E, .int .i64 C, .slice a n c, .int .u32 A, .int .u32 N, .int .i64 cK, .int .u64 cE, .int .i64 cC, .slice b m d, .int .i64 U, .string B] 32)).alloc (.cells #[.int .i64 0, .int .u64 0, .int .i64 0, .slice none 0 0, .int .u32 0, .int .u32 0, .int .i64 0, .int .u64 0, .int .i64 0, .slice none 0 0, .int .i64 0, .string ⟨#[]⟩] 38)) 36 #[.int .i64 cK, .int .u64 cE, .int .i64 cC, .slice b m d]
 rw [size_alloc] at hZ
 rw [size_alloc, size_alloc] at hD
 have hA1 := (IsC.new w 32 #[.int .i64 K, .int .u64 E, .int .i64 C, .slice a n c, .int .u32 A, .int .u32 N, .int .i64 cK, .int .u64 cE, .int .i64 cC, .slice b m d, .int .i64 U, .string B]).alloc (.cells #[.int .i64 0, .int .u64 0, .int .i64 0, .slice none 0 0, .int .u32 0, .int .u32 0, .int .i64 0, .int .u64 0, .int .i64 0, .slice none 0 0, .int .i64 0, .string ⟨#[]⟩] 38)
 have k6 := hA1.cell 6
 have k7 := hA1.cell 7
 have k8 := hA1.cell 8
 have k9 := hA1.cell 9
 clear hA1 hb1
 replace hA := Hd hA
 replace hZ := Hd hZ
 replace hD := Hd hD
 replace hb2 := Hd hb2
 go_enter Tryz.func8, Tryz.ntmps8
 go_upto_region 2 with fail
 obtain ⟨W, hW⟩ : ∃ W, ((w.alloc (.cells #[.int .i64 K, .int .u64 E, .int .i64 C, .slice a n c, .int .u32 A, .int .u32 N, .int .i64 cK, .int .u64 cE, .int .i64 cC, .slice b m d, .int .i64 U, .string B] 32)).alloc (.cells #[.int .i64 0, .int .u64 0, .int .i64 0, .slice none 0 0, .int .u32 0, .int .u32 0, .int .i64 0, .int .u64 0, .int .i64 0, .slice none 0 0, .int .i64 0, .string ⟨#[]⟩] 38)).alloc (.cells #[.int .i64 cK, .int .u64 cE, .int .i64 cC, .slice b m d] 36) = W := ⟨_, rfl⟩
 rw [hW] at hA hZ hD hb2
 rw [hW]
 replace hW := Hd hW
 clear k6 k7 k8 k9
 obtain ⟨x0, x1, x2, x3, x4, x5, x6, x7, x8, x9, x10, x11⟩ := cells12 hA.out
 obtain ⟨z0, z1, z2, z3, z4, z5, z6, z7, z8, z9, z10, z11⟩ := cells12 hZ.out
 obtain ⟨f0, f1, f2, f3, f4, f5, f6, f7, f8, f9, f10, f11⟩ := fr12 hZ.out
 have d0 := hD.out.cell 0
 have d1 := hD.out.cell 1
 have d2 := hD.out.cell 2
 have d3 := hD.out.cell 3
 have hs12 : IsC (set12 W (w.heap.size + 1) (.int .i64 K) (.int .u64 E) (.int .i64 C) (.slice a n c) (.int .u32 A) (.int .u32 N) (.int .i64 cK) (.int .u64 cE) (.int .i64 cC) (.slice b m d) (.int .i64 U) (.string B)) (w.heap.size + 1) 38 #[.int .i64 K, .int .u64 E, .int .i64 C, .slice a n c, .int .u32 A, .int .u32 N, .int .i64 cK, .int .u64 cE, .int .i64 cC, .slice b m d, .int .i64 U, .string B] := isC_set12 hZ.out
 have t0 := Hd (hs12.cell 0)
 have t1 := Hd (hs12.cell 1)
 have t2 := Hd (hs12.cell 2)
 have t3 := Hd (hs12.cell 3)
 have t4 := Hd (hs12.cell 4)
 have t5 := Hd (hs12.cell 5)
 have t6 := Hd (hs12.cell 6)
 have t7 := Hd (hs12.cell 7)
 have t8 := Hd (hs12.cell 8)
 have t9 := Hd (hs12.cell 9)
 have t10 := Hd (hs12.cell 10)
 have t11 := Hd (hs12.cell 11)
 have hfin := Hd (show Below w.heap.size w (set12 W (w.heap.size + 1) (.int .i64 K) (.int .u64 E) (.int .i64 C) (.slice a n c) (.int .u32 A) (.int .u32 N) (.int .i64 cK) (.int .u64 cE) (.int .i64 cC) (.slice b m d) (.int .i64 U) (.string B)) from below_set12 (w := W) hb2.out (by omega))
 clear hs12 hA hZ hD hb2
 go_wp2_with fail
 obtain ⟨wf, hwf⟩ : ∃ wf, set12 W (w.heap.size + 1) (.int .i64 K) (.int .u64 E) (.int .i64 C) (.slice a n c) (.int .u32 A) (.int .u32 N) (.int .i64 cK) (.int .u64 cE) (.int .i64 cC) (.slice b m d) (.int .i64 U) (.string B) = wf := ⟨_, rfl⟩
 have s0 := t0.out
 have s1 := t1.out
 have s2 := t2.out
 have s3 := t3.out
 have s4 := t4.out
 have s5 := t5.out
 have s6 := t6.out
 have s7 := t7.out
 have s8 := t8.out
 have s9 := t9.out
 have s10 := t10.out
 have s11 := t11.out
 have r0 := hfin.out
 rw [hwf] at s0 s1 s2 s3 s4 s5 s6 s7 s8 s9 s10 s11 r0
 rw [show (((((((((((W.setCell ⟨w.heap.size + 1, 0, none⟩ (.int .i64 K)).setCell ⟨w.heap.size + 1, 1, none⟩ (.int .u64 E)).setCell ⟨w.heap.size + 1, 2, none⟩ (.int .i64 C)).setCell ⟨w.heap.size + 1, 3, none⟩ (.slice a n c)).setCell ⟨w.heap.size + 1, 4, none⟩ (.int .u32 A)).setCell ⟨w.heap.size + 1, 5, none⟩ (.int .u32 N)).setCell ⟨w.heap.size + 1, 6, none⟩ (.int .i64 cK)).setCell ⟨w.heap.size + 1, 7, none⟩ (.int .u64 cE)).setCell ⟨w.heap.size + 1, 8, none⟩ (.int .i64 cC)).setCell ⟨w.heap.size + 1, 9, none⟩ (.slice b m d)).setCell ⟨w.heap.size + 1, 10, none⟩ (.int .i64 U)).setCell ⟨w.heap.size + 1, 11, none⟩ (.string B) = wf from hwf]
 (try simp only [Exit.inBlock, Exit.then])
 refine bodyPost_ret (by simp [results, Tryz.results8, go_sem, s0, s1, s2, s3, s4, s5, s6, s7, s8, s9, s10, s11]; try rfl) rfl ?_
 exact ⟨rfl, r0⟩
end Go.Proofs.YtjjgbillihedgaaGreatDoor
