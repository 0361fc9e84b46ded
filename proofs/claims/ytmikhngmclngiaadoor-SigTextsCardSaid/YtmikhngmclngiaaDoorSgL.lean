/- the walk over a set's length -/
import Derived.Test.YtmikhngmclngiaaDoorSgO
namespace Go.Proofs.YtmikhngmclngiaaDoor
open Go.RowKit
open Rf
namespace Sg

/-- a bit as a number -/
def bt (s k : Nat) : Nat := s / 2 ^ k % 2
theorem bt_eq (s k : Nat) : bt s k = if s.testBit k = true then 1 else 0 := by
  unfold bt
  rw [Nat.testBit_eq_decide_div_mod_eq]
  have := Nat.mod_two_eq_zero_or_one (s / 2 ^ k)
  generalize s / 2 ^ k % 2 = m at *
  rcases this with rfl | rfl <;> rfl
theorem pc_byte (y : Nat) : pc (y % 256) = y % 2 + y / 2 % 2 + y / 4 % 2 + y / 8 % 2 + y / 16 % 2 + y / 32 % 2 + y / 64 % 2 + y / 128 % 2 := by unfold pc; omega
theorem bt_div (x k j : Nat) : x / 2 ^ k / 2 ^ j % 2 = bt x (k + j) := by
  unfold bt
  rw [Nat.div_div_eq_div_mul, Nat.pow_add]
theorem pc_at (x k : Nat) : pc (x / 2 ^ k % 256) = bt x k + bt x (k + 1) + bt x (k + 2) + bt x (k + 3) + bt x (k + 4) + bt x (k + 5) + bt x (k + 6) + bt x (k + 7) := by
  rw [pc_byte, ← bt_div x k 1, ← bt_div x k 2, ← bt_div x k 3, ← bt_div x k 4, ← bt_div x k 5, ← bt_div x k 6, ← bt_div x k 7]
  rfl
theorem len_step (s k n : Nat) : (idsFrom s k (n + 1)).length = bt s k + (idsFrom s (k + 1) n).length := by
  rw [idsFrom, List.length_append, bt_eq]
  split <;> rfl
theorem ids_len (s : Nat) : (ids s).length = bt s 1 + bt s 2 + bt s 3 + bt s 4 + bt s 5 + bt s 6 + bt s 7 + bt s 8 + bt s 9 + bt s 10 + bt s 11 + bt s 12 + bt s 13 + bt s 14 + bt s 15 + bt s 16 + bt s 17 + bt s 18 + bt s 19 + bt s 20 + bt s 21 + bt s 22 + bt s 23 + bt s 24 := by
  unfold ids
  rw [len_step, len_step, len_step, len_step, len_step, len_step, len_step, len_step, len_step, len_step, len_step, len_step, len_step, len_step, len_step, len_step, len_step, len_step, len_step, len_step, len_step, len_step, len_step, len_step]
  simp only [Nat.reduceAdd, idsFrom, List.length_nil]
  omega
theorem bt_all (s k : Nat) : bt (s &&& ALL) k = if 1 ≤ k ∧ k ≤ 24 then bt s k else 0 := by
  rw [bt_eq, bt_eq, Nat.testBit_and, all_bit]
  by_cases h : 1 ≤ k ∧ k ≤ 24
  · rw [if_pos h, decide_eq_true h.1, decide_eq_true h.2]
    simp
  · rw [if_neg h]
    have : (decide (1 ≤ k) && decide (k ≤ 24)) = false := by
      rw [Bool.and_eq_false_iff, decide_eq_false_iff_not, decide_eq_false_iff_not]
      omega
    rw [this]
    simp
theorem sum_len (s : Nat) (hs : s < 4294967296) :
    pc ((s &&& ALL) / 16777216) + pc ((s &&& ALL) / 65536 % 256) + pc ((s &&& ALL) / 256 % 256) + pc ((s &&& ALL) % 256) = (ids s).length := by
  have hx : (s &&& ALL) < 4294967296 := Nat.lt_of_le_of_lt Nat.and_le_left hs
  have e3 := pc_at (s &&& ALL) 24
  have e2 := pc_at (s &&& ALL) 16
  have e1 := pc_at (s &&& ALL) 8
  have e0 := pc_at (s &&& ALL) 0
  rw [show (2 : Nat) ^ 24 = 16777216 by decide, Nat.mod_eq_of_lt (show (s &&& ALL) / 16777216 < 256 by omega)] at e3
  rw [show (2 : Nat) ^ 16 = 65536 by decide] at e2
  rw [show (2 : Nat) ^ 8 = 256 by decide] at e1
  rw [show (2 : Nat) ^ 0 = 1 by decide, Nat.div_one] at e0
  rw [e3, e2, e1, e0, ids_len]
  simp only [bt_all, Nat.reduceAdd]
  simp
  omega
end Sg
open Sg
theorem len_c (s : Nat) (hs : s < 4294967296) : Ret 18 #[.int .u32 (s : Int)] (.int .i64 ((ids s).length : Int)) := fun w => by
  have co := ones_c (s &&& ALL) (Nat.lt_of_le_of_lt Nat.and_le_left hs)
  rw [sum_len s hs] at co
  have e1 : bits .and .u32 (s : Int) 33554430 = ((s &&& ALL : Nat) : Int) := u32_and_nat s ALL hs (by decide)
  generalize s &&& ALL = x at *
  generalize (ids s).length = l at *
  replace co := Lib.hid co
  go_enter Tryd.func18, Tryd.ntmps18
  go_wp2_with fail
  refine (co.out.on _).mono ?_
  rintro e w1 ⟨rfl, hb⟩
  go_wp2_with fail
  go_ret
  exact ⟨rfl, hb⟩
end Go.Proofs.YtmikhngmclngiaaDoor
