/- sets of ids: plain laws -/
import Derived.Test.YtmikhngmclngiaaDoorSg0
namespace Go.Proofs.YtmikhngmclngiaaDoor
open Go.RowKit
open Rf
namespace Sg

/-- all ids -/
def ALL : Nat := 33554430
def isId (i : Int) : Bool := decide (1 ≤ i) && decide (i ≤ 24)
def has (s : Nat) (i : Int) : Bool := isId i && s.testBit i.toNat
/-- the ids from k on, n of them -/
def idsFrom (s : Nat) : Nat → Nat → List Int
  | _, 0 => []
  | k, n + 1 => (if s.testBit k then [(k : Int)] else []) ++ idsFrom s (k + 1) n
def ids (s : Nat) : List Int := idsFrom s 1 24
theorem idsFrom_snoc (s : Nat) (k n : Nat) : idsFrom s k (n + 1) = idsFrom s k n ++ (if s.testBit (k + n) then [((k + n : Nat) : Int)] else []) := by
  induction n generalizing k with
  | zero => simp [idsFrom]
  | succ n ih =>
    rw [idsFrom, ih (k + 1), idsFrom, List.append_assoc, show k + 1 + n = k + (n + 1) by omega]
theorem mem_idsFrom (s : Nat) (k n : Nat) (i : Int) : i ∈ idsFrom s k n ↔ ∃ j : Nat, i = j ∧ k ≤ j ∧ j < k + n ∧ s.testBit j = true := by
  induction n generalizing k with
  | zero =>
    simp [idsFrom]
    omega
  | succ n ih =>
    rw [idsFrom, List.mem_append, ih (k + 1)]
    constructor
    · rintro (h | ⟨j, h1, h2, h3, h4⟩)
      · by_cases hb : s.testBit k = true
        · rw [if_pos hb] at h
          exact ⟨k, by simpa using h, Nat.le_refl _, by omega, hb⟩
        · rw [if_neg hb] at h
          cases h
      · exact ⟨j, h1, by omega, by omega, h4⟩
    · rintro ⟨j, h1, h2, h3, h4⟩
      by_cases hj : j = k
      · subst hj
        exact .inl (by rw [if_pos h4]; simp [h1])
      · exact .inr ⟨j, h1, by omega, by omega, h4⟩
theorem mem_ids (s : Nat) (i : Int) : i ∈ ids s ↔ has s i = true := by
  unfold ids has isId
  rw [mem_idsFrom]
  constructor
  · rintro ⟨j, rfl, h1, h2, h3⟩
    simp [h3]
    omega
  · intro h
    simp at h
    exact ⟨i.toNat, by omega, by omega, by omega, h.2⟩
theorem all_bit (j : Nat) : ALL.testBit j = (decide (1 ≤ j) && decide (j ≤ 24)) := by
  have h := Nat.testBit_two_pow_sub_succ (n := 25) (x := 1) (by decide) j
  rw [show (2 : Nat) ^ 25 - (1 + 1) = ALL by decide] at h
  rw [h]
  cases j with
  | zero => rfl
  | succ j =>
    have e : (1 : Nat).testBit (j + 1) = false := by rw [Nat.testBit_succ]; exact Nat.zero_testBit j
    rw [e]
    simp
    omega
theorem not_bit (t j : Nat) (ht : t < 4294967296) : (4294967295 - t).testBit j = (decide (j < 32) && !t.testBit j) := by
  have h := Nat.testBit_two_pow_sub_succ (n := 32) (x := t) (by omega) j
  rw [show (2 : Nat) ^ 32 - (t + 1) = 4294967295 - t by omega] at h
  exact h
theorem zero_bits {x : Nat} : x = 0 ↔ ∀ j, x.testBit j = false := ⟨fun h j => by rw [h]; exact Nat.zero_testBit j, fun h => Nat.eq_of_testBit_eq (fun j => by rw [h j, Nat.zero_testBit])⟩
theorem high_bit {s : Nat} (hs : s < 4294967296) (j : Nat) (hj : 32 ≤ j) : s.testBit j = false := Nat.testBit_lt_two_pow (Nat.lt_of_lt_of_le hs (by have := Nat.pow_le_pow_right (n := 2) (by decide) hj; simpa using this))
/-- with an id, without it -/
def withF (s : Nat) (i : Int) : Nat := if isId i = true then s ||| 2 ^ i.toNat else s
def withoutF (s : Nat) (i : Int) : Nat := if isId i = true then s &&& (4294967295 - 2 ^ i.toNat) else s
def isF (s : Nat) : Bool := decide (s &&& (4294967295 - ALL) = 0)
def withinF (s t : Nat) : Bool := decide ((s &&& ALL) &&& (4294967295 - t) = 0)
def meetsF (s t : Nat) : Bool := !decide ((s &&& t) &&& ALL = 0)
theorem pow_lt {i : Int} (h : isId i = true) : 2 ^ i.toNat < 4294967296 := by
  unfold isId at h
  simp at h
  have := Nat.pow_lt_pow_right (a := 2) (by decide) (show i.toNat < 32 by omega)
  simpa using this
theorem with_bit (s : Nat) (i : Int) (j : Nat) : (withF s i).testBit j = (s.testBit j || (isId i && decide (i = (j : Int)))) := by
  unfold withF
  by_cases h : isId i = true
  · rw [if_pos h, h, Nat.testBit_or, Nat.testBit_two_pow]
    unfold isId at h
    simp at h
    congr 1
    rw [Bool.true_and]
    congr 1
    exact propext ⟨fun hh => by omega, fun hh => by omega⟩
  · rw [if_neg h]
    have : isId i = false := by simpa using h
    rw [this]
    simp
theorem without_bit (s : Nat) (hs : s < 4294967296) (i : Int) (j : Nat) : (withoutF s i).testBit j = (s.testBit j && !(isId i && decide (i = (j : Int)))) := by
  unfold withoutF
  by_cases h : isId i = true
  · rw [if_pos h, h, Nat.testBit_and, not_bit _ _ (pow_lt h), Nat.testBit_two_pow]
    unfold isId at h
    simp at h
    by_cases hj : j < 32
    · rw [decide_eq_true hj, Bool.true_and, Bool.true_and]
      congr 2
      congr 1
      exact propext ⟨fun hh => by omega, fun hh => by omega⟩
    · rw [high_bit hs j (by omega)]
      simp
  · rw [if_neg h]
    have : isId i = false := by simpa using h
    rw [this]
    simp
theorem with_lt {s : Nat} (hs : s < 4294967296) (i : Int) : withF s i < 4294967296 := by
  unfold withF
  split
  · exact Nat.or_lt_two_pow (n := 32) hs (pow_lt ‹_›)
  · exact hs
theorem without_lt {s : Nat} (hs : s < 4294967296) (i : Int) : withoutF s i < 4294967296 := by
  unfold withoutF
  split
  · exact Nat.lt_of_le_of_lt Nat.and_le_left hs
  · exact hs
theorem is_iff {s : Nat} (hs : s < 4294967296) : isF s = true ↔ ∀ j, s.testBit j = true → 1 ≤ j ∧ j ≤ 24 := by
  unfold isF
  rw [decide_eq_true_iff, zero_bits]
  constructor
  · intro h j hj
    have h2 := h j
    rw [Nat.testBit_and, hj, not_bit _ _ (by decide), all_bit] at h2
    by_cases h32 : j < 32
    · simp [h32] at h2
      exact h2
    · rw [high_bit hs j (by omega)] at hj
      cases hj
  · intro h j
    rw [Nat.testBit_and, not_bit _ _ (by decide), all_bit]
    cases hj : s.testBit j
    · rfl
    · have := h j hj
      simp [this]
theorem within_iff {s t : Nat} (ht : t < 4294967296) : withinF s t = true ↔ ∀ j : Nat, 1 ≤ j → j ≤ 24 → s.testBit j = true → t.testBit j = true := by
  unfold withinF
  rw [decide_eq_true_iff, zero_bits]
  constructor
  · intro h j h1 h2 hj
    have h3 := h j
    rw [Nat.testBit_and, Nat.testBit_and, hj, not_bit _ _ ht, all_bit] at h3
    simp [h1, h2, show j < 32 by omega] at h3
    exact h3
  · intro h j
    rw [Nat.testBit_and, Nat.testBit_and, not_bit _ _ ht, all_bit]
    cases hj : s.testBit j
    · simp
    · by_cases h1 : 1 ≤ j
      · by_cases h2 : j ≤ 24
        · rw [h j h1 h2 hj]
          simp
        · simp [h2]
      · simp [h1]
theorem meets_iff {s t : Nat} : meetsF s t = true ↔ ∃ j : Nat, 1 ≤ j ∧ j ≤ 24 ∧ s.testBit j = true ∧ t.testBit j = true := by
  unfold meetsF
  rw [Bool.not_eq_true', decide_eq_false_iff_not, zero_bits]
  constructor
  · intro h
    obtain ⟨j, hj⟩ := Classical.not_forall.1 h
    have hj := (Bool.not_eq_false _).mp hj
    rw [Nat.testBit_and, Nat.testBit_and, all_bit] at hj
    simp at hj
    exact ⟨j, hj.2.1, hj.2.2, hj.1.1, hj.1.2⟩
  · rintro ⟨j, h1, h2, h3, h4⟩ h
    have := h j
    rw [Nat.testBit_and, Nat.testBit_and, all_bit, h3, h4] at this
    simp [h1, h2] at this
end Sg
end Go.Proofs.YtmikhngmclngiaaDoor
