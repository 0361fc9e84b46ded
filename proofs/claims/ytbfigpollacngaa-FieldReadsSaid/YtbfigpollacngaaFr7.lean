/- retrofitref04's number of bytes put together, and the plain laws of FieldReads -/
import Derived.Test.YtbfigpollacngaaFr6
namespace Go.Proofs.Ytbfigpollacngaa
open Go.RowKit
open Rf
open Wide

theorem last_byte (s : ByteArray) (h' : s.size - 1 < s.size) : (byts s).getLast?.getD 0 = s[s.size - 1] := by
  have e : (byts s).getLast? = some (s[s.size - 1]) := by
    rw [List.getLast?_eq_getElem?, byts_length, List.getElem?_eq_getElem (by rw [byts_length]; omega)]
    simp [byts]
    rfl
  rw [e]; rfl
theorem snoc_of {l : List UInt8} (h : l.isEmpty = false) : ∃ init c, l = init ++ [c] := by
  rcases List.eq_nil_or_concat l with h' | ⟨i, c, h'⟩
  · rw [h'] at h; cases h
  · exact ⟨i, c, by rw [h', List.concat_eq_append]⟩
/-- the last byte counts most -/
theorem num_snoc (init : List UInt8) (c : UInt8) : (c.toNat : Int) ≤ num (init ++ [c]) ∧ num (init ++ [c]) = num init + 256 ^ init.length * (c.toNat : Int) ∧ 0 ≤ num init ∧ num init < 256 ^ init.length := by
  have h1 := num_bd init
  have e : num (init ++ [c]) = num init + 256 ^ init.length * (c.toNat : Int) := by rw [num_append]; simp [num]
  refine ⟨?_, e, h1.1, h1.2⟩
  rw [e]
  have h4 : 1 * (c.toNat : Int) ≤ 256 ^ init.length * (c.toNat : Int) := Int.mul_le_mul_of_nonneg_right (by omega) (by omega)
  omega
theorem isK_lit (k : Int) : isK k = true ↔ 1 ≤ k ∧ k ≤ 10 := by
  unfold isK
  rw [Bool.and_eq_true, decide_eq_true_eq, decide_eq_true_eq]
theorem refGet_c (k : Int) (s : ByteArray) : Ret 10 #[.int .i64 k, .string s] (.tuple #[wv (refGet k (byts s)).1, .bool (refGet k (byts s)).2]) := fun w => by
  have cb := bytesR_c k
  have hl := byts_length s
  by_cases h1 : (s.size : Int) = (shp k).2.1
  · by_cases h2 : s.size = 0
    · have e : refGet k (byts s) = (zero, false) := by
        unfold refGet
        have : byts s = [] := List.eq_nil_of_length_eq_zero (by omega)
        rw [this, List.isEmpty_nil]
        simp
      rw [e]
      exact refGet_bad k s _ cb (.inr ⟨by rw [h1]; simp, by rw [h2]; rfl⟩) w
    · have hs1 : 1 ≤ s.size := by omega
      have hs8 : s.size ≤ 8 := by have := size_nat k; omega
      rw [← h1] at cb
      have hk : isK k = true := by
        have := size_zero (k := k)
        cases hq : isK k with
        | true => rfl
        | false => rw [hq] at this; have := eq_of_beq this; omega
      have hk10 := (isK_lit k).1 hk
      have hne : (byts s).isEmpty = false := by
        rw [List.isEmpty_eq_false_iff]
        intro hh; rw [hh] at hl; simp at hl; omega
      have e : refGet k (byts s) = if (!(k == 1 && decide (1 < num (byts s)))) = true then (refX k (byts s), true) else (zero, false) := by
        unfold refGet
        rw [hl, h1, hne, beq_self_eq_true, Bool.not_false, Bool.and_true, Bool.true_and]
      rw [e]
      clear e
      by_cases k1 : k = 1
      · subst k1
        have ex : refX 1 (byts s) = ⟨false, 0, num (byts s)⟩ := by unfold refX refSg; rw [if_neg (by simp)]
        by_cases hn : 1 < num (byts s)
        · rw [decide_eq_true hn, if_neg (by decide)]
          exact refGet_b2 1 s hs1 hs8 cb (by decide) rfl hn w
        · rw [decide_eq_false hn, if_pos (by decide), ex]
          exact refGet_b1 1 s hs1 hs8 cb (by decide) rfl hn w
      · have hk1 : (k == 1) = false := beq_eq_false_iff_ne.2 k1
        rw [hk1, Bool.false_and, if_pos (by decide)]
        by_cases k5 : k ≤ 5
        · have hlast := last_byte s (by omega)
          by_cases hc : 127 < ((s[s.size - 1]'(by omega)).toNat : Int)
          · have ex : refX k (byts s) = ⟨true, 0, 256 ^ s.size - num (byts s)⟩ := by
              unfold refX refSg
              rw [hlast, decide_eq_true (show 2 ≤ k by omega), decide_eq_true k5, decide_eq_true hc, if_pos (by decide), hl]
            rw [ex]
            by_cases h8 : s.size < 8
            · exact refGet_neg k s hs1 hs8 cb (by omega) k5 hk1 hc h8 w
            · have hs : s.size = 8 := by omega
              have hb := num_bd (byts s)
              rw [hl, hs, show (256 : Int) ^ 8 = 18446744073709551616 from by decide] at hb
              have hpos : 1 ≤ num (byts s) := by
                obtain ⟨init, c, hap⟩ := snoc_of hne
                have hcc : c = s[s.size - 1]'(by omega) := by rw [← hlast, hap]; simp
                have hg := num_snoc init c
                rw [← hap] at hg
                rw [← hcc] at hc
                omega
              have := refGet_max k s hs1 hs8 cb (by omega) k5 hk1 hc (by omega) (256 ^ s.size - num (byts s)) (by
                rw [hs, show (256 : Int) ^ 8 = 18446744073709551616 from by decide]
                simp [IntKind.wrap, IntKind.bits, IntKind.signed]
                omega) w
              exact this
          · have ex : refX k (byts s) = ⟨false, 0, num (byts s)⟩ := by
              unfold refX refSg
              rw [hlast, decide_eq_false hc, Bool.and_false, if_neg (by decide)]
            rw [ex]
            exact refGet_pos k s hs1 hs8 cb (by omega) k5 hk1 hc w
        · have ex : refX k (byts s) = ⟨false, 0, num (byts s)⟩ := by
            unfold refX refSg
            rw [decide_eq_false k5, Bool.and_false, Bool.false_and, if_neg (by decide)]
          rw [ex]
          exact refGet_high k s hs1 hs8 cb (by omega) k5 hk1 w
  · have e : refGet k (byts s) = (zero, false) := by
      unfold refGet
      rw [hl, beq_eq_false_iff_ne.2 h1, Bool.false_and, Bool.false_and, if_neg (by decide)]
    rw [e]
    exact refGet_bad k s _ cb (.inl (by rw [bne_iff_ne]; exact h1)) w
end Go.Proofs.Ytbfigpollacngaa
