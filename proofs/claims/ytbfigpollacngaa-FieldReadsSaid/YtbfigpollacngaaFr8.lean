/- FieldReads: the plain laws -/
import Derived.Test.YtbfigpollacngaaFr7
namespace Go.Proofs.Ytbfigpollacngaa
open Go.RowKit
open Rf
open Wide

/-- a number of n bytes is great just if its last byte is -/
theorem great_last (n : Nat) (l : List UInt8) (hl : l.length = n + 1) : (127 < ((l.getLast?.getD 0).toNat : Int)) ↔ 128 * 256 ^ n ≤ num l := by
  have hne : l.isEmpty = false := by
    rw [List.isEmpty_eq_false_iff]
    intro hh; rw [hh] at hl; cases hl
  obtain ⟨init, c, rfl⟩ := snoc_of hne
  have hi : init.length = n := by simpa using hl
  obtain ⟨_, h2, h3, h4⟩ := num_snoc init c
  rw [hi] at h2 h4
  rw [h2]
  have e : ((init ++ [c]).getLast?.getD 0) = c := by simp
  rw [e]
  constructor
  · intro h
    have : (256 : Int) ^ n * 128 ≤ 256 ^ n * (c.toNat : Int) := Int.mul_le_mul_of_nonneg_left (by omega) (by omega)
    omega
  · intro h
    by_cases hc : 127 < (c.toNat : Int)
    · exact hc
    · have : (256 : Int) ^ n * (c.toNat : Int) ≤ 256 ^ n * 127 := Int.mul_le_mul_of_nonneg_left (by omega) (by omega)
      omega
/-- what is read of as many bytes as the kind has -/
theorem rNum_whole {k : Int} (hk : isK k = true) (l : List UInt8) (hl : (l.length : Int) = (shp k).2.1) : rNum (shp k).2.1 l false = (num l, [], false) := by
  unfold rNum
  rw [if_pos ⟨rfl, isW_size hk, by omega⟩, List.take_of_length_le (by omega), List.drop_of_length_le (by omega)]
theorem rNum_not {k : Int} (l : List UInt8) (hl : (l.length : Int) ≠ (shp k).2.1) : getD k l = false := by
  unfold getD rNum
  split
  · rename_i h
    have hlen : (l.drop (shp k).2.1.toNat).length ≠ 0 := by
      rw [List.length_drop]
      have := h.2.2
      have := size_nat k
      omega
    cases hd : l.drop (shp k).2.1.toNat with
    | nil => rw [hd] at hlen; exact absurd rfl hlen
    | cons a m => rfl
  · rfl
theorem get_yes {k : Int} {l : List UInt8} (hk : isK k = true) (hl : (l.length : Int) = (shp k).2.1) {X : WI} (hX : getX k l = X) (hf : fitsF k X = true) : getR k l = (X, 0) := by
  have hr := rNum_whole hk l hl
  have hD : getD k l = true := by unfold getD; rw [hr]; rfl
  unfold getR
  rw [hk, if_pos rfl, hD, hX, hf]
  rfl
theorem get_not {k : Int} {l : List UInt8} (hk : isK k = true) (h : getD k l = false ∨ fitsF k (getX k l) = false) : getR k l = (zero, 4) := by
  unfold getR
  rw [hk, if_pos rfl]
  rcases h with h | h
  · rw [h]; rfl
  · rw [h, Bool.and_false]; rfl
theorem neg_word {a b : Int} (h1 : a < b) (h4 : b - a ≤ 18446744073709551615) : (⟨true, 0, b - a⟩ : WI) = mk (a - b) := by
  unfold mk
  rw [decide_eq_true (show a - b < 0 by omega)]
  congr 1 <;> omega
/-- a kind with a sign, whose bytes are b = 256^n -/
theorem law_sign (k : Int) (n : Nat) (g : Int) (l : List UInt8) (hk : isK k = true) (h2 : 2 ≤ k) (h5 : k ≤ 5) (hl : l.length = n + 1) (hsz : (shp k).2.1 = ((n + 1 : Nat) : Int)) (hsg : (shp k).2.2 = true) (hg : gK k = 128 * 256 ^ n - 1) (hlk : lK k = -(128 * 256 ^ n))
    (hp : powK ((shp k).2.1 * 8) = 256 * 256 ^ n - 1) (hb : (256 : Int) ^ n ≤ 72057594037927936) (hgg : g = (256 : Int) ^ n) : getR k l = (refX k l, 0) := by
  have hlen : (l.length : Int) = (shp k).2.1 := by rw [hsz, hl]
  have hr := rNum_whole hk l hlen
  have hN : getN k l = num l := by unfold getN; rw [hr]
  have hbd := num_bd l
  rw [hl, Int.pow_succ] at hbd
  have hgl := great_last n l hl
  have hg1 : 1 ≤ g := by rw [hgg]; have := (pow8 (j := n) (by have := size_nat k; omega)).1; exact this
  rw [← hgg] at hg hlk hp hb hbd hgl
  refine get_yes hk hlen ?_ ?_
  · unfold getX getM refX refSg
    rw [hN, hsg, hg, decide_eq_true h2, decide_eq_true h5, hl, Int.pow_succ, ← hgg, hp]
    by_cases hc : 127 < ((l.getLast?.getD 0).toNat : Int)
    · have := hgl.1 hc
      rw [decide_eq_true hc, decide_eq_true (show 128 * g - 1 < num l by omega), if_pos (by decide), if_pos (by decide), neg_word hbd.2 (by omega)]
      congr 1; omega
    · have : ¬ 128 * g ≤ num l := fun h => hc (hgl.2 h)
      rw [decide_eq_false hc, decide_eq_false (show ¬ 128 * g - 1 < num l by omega), if_neg (by decide), if_neg (by decide)]
  · unfold refX refSg
    rw [decide_eq_true h2, decide_eq_true h5, hl, Int.pow_succ, ← hgg]
    by_cases hc : 127 < ((l.getLast?.getD 0).toNat : Int)
    · have := hgl.1 hc
      rw [decide_eq_true hc, if_pos (by decide), neg_word hbd.2 (by omega), fit_mk hk (In_iff.2 ⟨by omega, by omega⟩), decide_eq_true (by omega), decide_eq_true (by omega)]
      rfl
    · have : ¬ 128 * g ≤ num l := fun h => hc (hgl.2 h)
      rw [decide_eq_false hc, if_neg (by decide), mk_word _ hbd.1 (by omega), fit_mk hk (In_iff.2 ⟨by omega, by omega⟩), decide_eq_true (by omega), decide_eq_true (by omega)]
      rfl
/-- a kind without a sign, all of whose bytes are numbers -/
theorem law_plain (k : Int) (l : List UInt8) (hk : isK k = true) (hk2 : decide (k ≤ 5) = false) (hlen : (l.length : Int) = (shp k).2.1) (hsg : (shp k).2.2 = false) (hg : num l ≤ gK k) (hlk : lK k = 0) : getR k l = (refX k l, 0) := by
  have hr := rNum_whole hk l hlen
  have hN : getN k l = num l := by unfold getN; rw [hr]
  have hbd := num_bd l
  have hgb := gK_bd k
  have ex : refX k l = ⟨false, 0, num l⟩ := by unfold refX refSg; rw [hk2, Bool.and_false, Bool.false_and, if_neg (by decide)]
  rw [ex]
  refine get_yes hk hlen ?_ ?_
  · unfold getX getM
    rw [hN, hsg, Bool.false_and, if_neg (by decide)]
  · rw [mk_word _ hbd.1 (by omega), fit_mk hk (In_iff.2 ⟨by omega, by omega⟩), decide_eq_true (by omega), decide_eq_true hg]
    rfl
theorem law_whole (k : Int) (l : List UInt8) (hk : isK k = true) (hlen : (l.length : Int) = (shp k).2.1) (h1 : (k == 1 && decide (1 < num l)) = false) : getR k l = (refX k l, 0) := by
  have hbd := num_bd l
  rcases kind_cases hk with rfl | rfl | rfl | rfl | rfl | rfl | rfl | rfl | rfl | rfl
  · have hn : num l ≤ 1 := by
      have := of_decide_eq_false (show decide (1 < num l) = false from h1)
      omega
    have hr := rNum_whole hk l hlen
    have hN : getN 1 l = num l := by unfold getN; rw [hr]
    have ex : refX 1 l = ⟨false, 0, num l⟩ := by unfold refX refSg; rw [if_neg (by simp)]
    rw [ex]
    refine get_yes hk hlen ?_ ?_
    · unfold getX getM
      rw [hN]; rfl
    · rw [mk_word _ hbd.1 (by omega), fit_mk hk (In_iff.2 ⟨by omega, by omega⟩), decide_eq_true (show lK 1 ≤ num l from hbd.1), decide_eq_true (show num l ≤ gK 1 from hn)]
      rfl
  · exact law_sign 2 0 1 l hk (by decide) (by decide) (by have : (l.length : Int) = 1 := hlen; omega) rfl rfl (by decide) (by decide) (by decide) (by decide) rfl
  · exact law_sign 3 1 256 l hk (by decide) (by decide) (by have : (l.length : Int) = 2 := hlen; omega) rfl rfl (by decide) (by decide) (by decide) (by decide) (by decide)
  · exact law_sign 4 3 (256 ^ 3) l hk (by decide) (by decide) (by have : (l.length : Int) = 4 := hlen; omega) rfl rfl (by decide) (by decide) (by decide) (by decide) rfl
  · exact law_sign 5 7 (256 ^ 7) l hk (by decide) (by decide) (by have : (l.length : Int) = 8 := hlen; omega) rfl rfl (by decide) (by decide) (by decide) (by decide) rfl
  · have hl : l.length = 1 := by have : (l.length : Int) = 1 := hlen; omega
    rw [hl, show (256 : Int) ^ 1 = 256 from by decide] at hbd
    exact law_plain 6 l hk (by decide) hlen rfl (show num l ≤ 255 by omega) (by decide)
  · have hl : l.length = 2 := by have : (l.length : Int) = 2 := hlen; omega
    rw [hl, show (256 : Int) ^ 2 = 65536 from by decide] at hbd
    exact law_plain 7 l hk (by decide) hlen rfl (show num l ≤ 65535 by omega) (by decide)
  · have hl : l.length = 4 := by have : (l.length : Int) = 4 := hlen; omega
    rw [hl, show (256 : Int) ^ 4 = 4294967296 from by decide] at hbd
    exact law_plain 8 l hk (by decide) hlen rfl (show num l ≤ 4294967295 by omega) (by decide)
  · have hl : l.length = 8 := by have : (l.length : Int) = 8 := hlen; omega
    rw [hl, show (256 : Int) ^ 8 = 18446744073709551616 from by decide] at hbd
    exact law_plain 9 l hk (by decide) hlen rfl (show num l ≤ 18446744073709551615 by omega) (by decide)
  · have hl : l.length = 8 := by have : (l.length : Int) = 8 := hlen; omega
    rw [hl, show (256 : Int) ^ 8 = 18446744073709551616 from by decide] at hbd
    exact law_plain 10 l hk (by decide) hlen rfl (show num l ≤ 18446744073709551615 by omega) (by decide)
/-- the two ways of reading are one -/
theorem reads_law (k : Int) (l : List UInt8) : getR k l = ((refGet k l).1, if (refGet k l).2 = true then 0 else if isK k = true then 4 else 1) ∧ ((refGet k l).2 = true → isK k = true) := by
  cases hk : isK k with
  | false =>
    have e1 : getR k l = (zero, 1) := by unfold getR; rw [hk, if_neg (by decide)]
    have hz : (shp k).2.1 = 0 := by have := size_zero (k := k); rw [hk] at this; exact eq_of_beq this
    have e2 : refGet k l = (zero, false) := by
      unfold refGet
      rw [if_neg]
      rw [hz]
      cases l with
      | nil => simp
      | cons a m => simp; intro h; omega
    rw [e1, e2]
    exact ⟨rfl, fun h => by cases h⟩
  | true =>
    refine ⟨?_, fun _ => rfl⟩
    by_cases hlen : (l.length : Int) = (shp k).2.1
    · have hne : l.isEmpty = false := by
        rw [List.isEmpty_eq_false_iff]
        intro hh
        rw [hh] at hlen
        have := size_of hk
        simp at hlen
        omega
      cases h1 : (k == 1 && decide (1 < num l)) with
      | false =>
        have e2 : refGet k l = (refX k l, true) := by unfold refGet; rw [hlen, beq_self_eq_true, hne, h1]; rfl
        rw [e2, law_whole k l hk hlen h1]
        rfl
      | true =>
        have e2 : refGet k l = (zero, false) := by unfold refGet; rw [h1, Bool.not_true, Bool.and_false, if_neg (by decide)]
        rw [e2]
        obtain ⟨hk1, hn⟩ := Bool.and_eq_true_iff.1 h1
        obtain rfl : k = 1 := by simpa using hk1
        have hn := of_decide_eq_true hn
        refine get_not hk (.inr ?_)
        have hr := rNum_whole hk l hlen
        have hN : getN 1 l = num l := by unfold getN; rw [hr]
        have hX : getX 1 l = ⟨false, 0, num l⟩ := by unfold getX getM; rw [hN]; rfl
        have hbd := num_bd l
        have hl : l.length = 1 := by have : (l.length : Int) = 1 := hlen; omega
        rw [hl, show (256 : Int) ^ 1 = 256 from by decide] at hbd
        rw [hX, mk_word _ hbd.1 (by omega), fit_mk hk (In_iff.2 ⟨by omega, by omega⟩), decide_eq_false (show ¬ num l ≤ gK 1 from fun h => by have : num l ≤ 1 := h; omega), Bool.and_false]
    · have e2 : refGet k l = (zero, false) := by unfold refGet; rw [beq_eq_false_iff_ne.2 hlen]; rfl
      rw [e2]
      exact get_not hk (.inl (rNum_not l hlen))

/-- the last of the first kinds that has the name -/
def wantF (s : ByteArray) : Nat → Int
  | 0 => 0
  | j + 1 => if (s.toList == (shp ((j + 1 : Nat) : Int)).1.toList) = true then ((j + 1 : Nat) : Int) else wantF s j
theorem want_hit (s : ByteArray) (j : Nat) (h1 : 1 ≤ j) (h10 : j ≤ 10) : (s.toList == (shp (j : Int)).1.toList) = hitB (shp (j : Int)).1 s := by
  have hne : (shp (j : Int)).1.toList.isEmpty = false := by
    rcases (show j = 1 ∨ j = 2 ∨ j = 3 ∨ j = 4 ∨ j = 5 ∨ j = 6 ∨ j = 7 ∨ j = 8 ∨ j = 9 ∨ j = 10 by omega) with rfl | rfl | rfl | rfl | rfl | rfl | rfl | rfl | rfl | rfl <;> (rw [ByteArray.toList_eq]; rfl)
  unfold hitB
  rw [Bool.beq_comm (a := s.toList)]
  cases he : ((shp (j : Int)).1.toList == s.toList) with
  | false => rfl
  | true => rw [← eq_of_beq he, hne]; rfl
theorem hit_one (s : ByteArray) (i j : Nat) (hi : 1 ≤ i ∧ i ≤ 10) (hj : 1 ≤ j ∧ j ≤ 10) (h : hitB (shp (i : Int)).1 s = true) (h' : hitB (shp (j : Int)).1 s = true) : i = j := by
  unfold hitB at h h'
  rw [Bool.and_eq_true] at h h'
  have e : (shp (i : Int)).1.toList = (shp (j : Int)).1.toList := (eq_of_beq h.1).trans (eq_of_beq h'.1).symm
  rw [ByteArray.toList_eq, ByteArray.toList_eq] at e
  rcases (show i = 1 ∨ i = 2 ∨ i = 3 ∨ i = 4 ∨ i = 5 ∨ i = 6 ∨ i = 7 ∨ i = 8 ∨ i = 9 ∨ i = 10 by omega) with rfl | rfl | rfl | rfl | rfl | rfl | rfl | rfl | rfl | rfl <;>
  rcases (show j = 1 ∨ j = 2 ∨ j = 3 ∨ j = 4 ∨ j = 5 ∨ j = 6 ∨ j = 7 ∨ j = 8 ∨ j = 9 ∨ j = 10 by omega) with rfl | rfl | rfl | rfl | rfl | rfl | rfl | rfl | rfl | rfl <;>
  first | rfl | (exfalso; revert e; decide)
theorem want_none (s : ByteArray) (n : Nat) (hn : n ≤ 10) (h : ∀ j, 1 ≤ j → j ≤ n → hitB (shp (j : Int)).1 s = false) : wantF s n = 0 := by
  induction n with
  | zero => rfl
  | succ n ih => rw [wantF, want_hit s (n + 1) (by omega) hn, h (n + 1) (by omega) (Nat.le_refl _), if_neg (by decide)]; exact ih (by omega) (fun j h1 h2 => h j h1 (by omega))
theorem want_some (s : ByteArray) (n j : Nat) (hn : n ≤ 10) (h1 : 1 ≤ j) (hj : j ≤ n) (h : hitB (shp (j : Int)).1 s = true) : wantF s n = j := by
  induction n with
  | zero => omega
  | succ n ih =>
    rw [wantF, want_hit s (n + 1) (by omega) hn]
    by_cases he : j = n + 1
    · subst he; rw [h, if_pos rfl]
    · cases hh : hitB (shp ((n + 1 : Nat) : Int)).1 s with
      | true => exact absurd (hit_one s j (n + 1) ⟨h1, by omega⟩ ⟨by omega, hn⟩ h hh) he
      | false => rw [if_neg (by decide)]; exact ih (by omega) (by omega)
theorem want_named (s : ByteArray) : wantF s 10 = namedF s := by
  by_cases h : ∃ j : Nat, 1 ≤ j ∧ j ≤ 10 ∧ hitB (shp (j : Int)).1 s = true
  · obtain ⟨j, h1, h2, h3⟩ := h
    rw [want_some s 10 j (by omega) h1 h2 h3]
    have hf : Found s j := .inl ⟨j, rfl, by omega, h3, fun q hq => by
      cases hh : hitB (shp (q : Int)).1 s with
      | false => rfl
      | true =>
        exfalso
        by_cases hq0 : q = 0
        · subst hq0; have := hit_zero s; rw [show ((0 : Nat) : Int) = 0 from rfl] at hh; rw [this] at hh; cases hh
        · have := hit_one s q j ⟨by omega, by omega⟩ ⟨h1, h2⟩ hh h3; omega⟩
    have := (found_named hf).1
    rw [if_neg (by omega)] at this
    exact this
  · have hn : ∀ j : Nat, 1 ≤ j → j ≤ 10 → hitB (shp (j : Int)).1 s = false := fun j h1 h2 => by
      cases hh : hitB (shp (j : Int)).1 s with
      | false => rfl
      | true => exact absurd ⟨j, h1, h2, hh⟩ h
    rw [want_none s 10 (by omega) hn]
    have hf : Found s (-1) := .inr ⟨rfl, fun q hq => by
      by_cases hq0 : q = 0
      · subst hq0; exact hit_zero s
      · exact hn q (by omega) (by omega)⟩
    have := (found_named hf).1
    rw [if_pos (by omega)] at this
    exact this
end Go.Proofs.Ytbfigpollacngaa
