/- the walks over package sig, first part -/
import Derived.Test.YtmikhngmclngiaaDoorSgP
import Derived.Laws.ShiftsVarLaws
namespace Go.Proofs.YtmikhngmclngiaaDoor
open Go.RowKit
open Rf
open Sg

theorem isId_c (i : Int) : Still 27 #[.int .i64 i] (.bool (Sg.isId i)) := fun w => by
  unfold Sg.isId
  by_cases h1 : 1 ≤ i
  · by_cases h2 : i ≤ 24
    · rw [decide_eq_true h1, decide_eq_true h2]
      go_enter Tryd.func27, Tryd.ntmps27
      go_wp2_with fail
      go_ret
      exact ⟨rfl, rfl⟩
    · rw [decide_eq_true h1, decide_eq_false h2]
      go_enter Tryd.func27, Tryd.ntmps27
      go_wp2_with fail
      go_ret
      exact ⟨rfl, rfl⟩
  · rw [decide_eq_false h1]
    go_enter Tryd.func27, Tryd.ntmps27
    go_wp2_with fail
    go_ret
    exact ⟨rfl, rfl⟩
theorem two_pow_int (k : Nat) (h : k ≤ 24) : ((2 : Int) ^ k % 4294967296) = ((2 ^ k : Nat) : Int) := by
  have := Nat.pow_lt_pow_right (a := 2) (by decide) (show k < 32 by omega)
  rw [show (2 : Int) ^ k = ((2 ^ k : Nat) : Int) by simp]
  generalize 2 ^ k = p at *
  omega
theorem shr_int (s k : Nat) : ((s : Int) / 2 ^ k) = ((s / 2 ^ k : Nat) : Int) := by simp
theorem has_c (s : Nat) (hs : s < 4294967296) (i : Int) : Still 23 #[.int .u32 (s : Int), .int .i64 i] (.bool (has s i)) := fun w => by
  have ci := isId_c i
  unfold has
  cases hi : isId i with
  | false =>
    rw [hi] at ci
    replace ci := Lib.hid ci
    clear hi
    go_enter Tryd.func23, Tryd.ntmps23
    go_wp2_with fail
    refine (ci.out.on _).mono ?_
    rintro e w1 ⟨rfl, rfl⟩
    go_wp2_with fail
    go_ret
    exact ⟨rfl, rfl⟩
  | true =>
    rw [hi] at ci
    obtain ⟨k, rfl⟩ : ∃ k : Nat, i = k := ⟨i.toNat, by unfold isId at hi; simp at hi; omega⟩
    have hk : k ≤ 24 := by unfold isId at hi; simp at hi; omega
    replace ci := Lib.hid ci
    clear hi
    have e1 : IntKind.u64.wrap (k : Int) = (k : Int) := IntWalk.u64_in _ (by omega)
    have e2 : bits .and .u32 ((s : Int) / 2 ^ k) 1 = (s : Int) / 2 ^ k % 2 := by
      rw [shr_int]
      have h := u32_and_nat (s / 2 ^ k) 1 (Nat.lt_of_le_of_lt (Nat.div_le_self ..) hs) (by decide)
      rw [Nat.and_one_is_mod] at h
      generalize s / 2 ^ k = q at *
      exact h.trans (by omega)
    have e3 : ((s : Int) / 2 ^ k % 2 == 1) = s.testBit k := by
      rw [shr_int, Nat.testBit_eq_decide_div_mod_eq, Bool.eq_iff_iff, beq_iff_eq, decide_eq_true_iff]
      generalize s / 2 ^ k = q
      omega
    go_enter Tryd.func23, Tryd.ntmps23
    go_wp2_with fail
    refine (ci.out.on _).mono ?_
    rintro e w1 ⟨rfl, rfl⟩
    go_wp2_with fail
    go_ret
    refine ⟨?_, rfl⟩
    rw [Bool.true_and, Int.toNat_natCast, ← e3]
    rfl
theorem with_c (s : Nat) (hs : s < 4294967296) (i : Int) : Still 21 #[.int .u32 (s : Int), .int .i64 i] (.int .u32 (withF s i : Nat)) := fun w => by
  have ci := isId_c i
  unfold withF
  cases hi : isId i with
  | false =>
    rw [hi] at ci
    replace ci := Lib.hid ci
    clear hi
    rw [if_neg (by decide)]
    go_enter Tryd.func21, Tryd.ntmps21
    go_wp2_with fail
    refine (ci.out.on _).mono ?_
    rintro e w1 ⟨rfl, rfl⟩
    go_wp2_with fail
    go_ret
    exact ⟨rfl, rfl⟩
  | true =>
    rw [hi] at ci
    have hp := pow_lt hi
    obtain ⟨k, rfl⟩ : ∃ k : Nat, i = k := ⟨i.toNat, by unfold isId at hi; simp at hi; omega⟩
    have hk : k ≤ 24 := by unfold isId at hi; simp at hi; omega
    rw [if_pos rfl, Int.toNat_natCast]
    rw [Int.toNat_natCast] at hp
    replace ci := Lib.hid ci
    clear hi
    have e1 : IntKind.u64.wrap (k : Int) = (k : Int) := IntWalk.u64_in _ (by omega)
    have e2 : bits .or .u32 (s : Int) (2 ^ k % 4294967296) = ((s ||| 2 ^ k : Nat) : Int) := by
      rw [two_pow_int k hk]
      exact u32_or_nat s (2 ^ k) hs hp
    generalize s ||| 2 ^ k = r at *
    clear hp
    go_enter Tryd.func21, Tryd.ntmps21
    go_wp2_with fail
    refine (ci.out.on _).mono ?_
    rintro e w1 ⟨rfl, rfl⟩
    go_wp2_with fail
    go_ret
    refine ⟨?_, rfl⟩
    first | rfl | rw [e2]
theorem without_c (s : Nat) (hs : s < 4294967296) (i : Int) : Still 22 #[.int .u32 (s : Int), .int .i64 i] (.int .u32 (withoutF s i : Nat)) := fun w => by
  have ci := isId_c i
  unfold withoutF
  cases hi : isId i with
  | false =>
    rw [hi] at ci
    replace ci := Lib.hid ci
    clear hi
    rw [if_neg (by decide)]
    go_enter Tryd.func22, Tryd.ntmps22
    go_wp2_with fail
    refine (ci.out.on _).mono ?_
    rintro e w1 ⟨rfl, rfl⟩
    go_wp2_with fail
    go_ret
    exact ⟨rfl, rfl⟩
  | true =>
    rw [hi] at ci
    have hp := pow_lt hi
    obtain ⟨k, rfl⟩ : ∃ k : Nat, i = k := ⟨i.toNat, by unfold isId at hi; simp at hi; omega⟩
    have hk : k ≤ 24 := by unfold isId at hi; simp at hi; omega
    rw [if_pos rfl, Int.toNat_natCast]
    rw [Int.toNat_natCast] at hp
    replace ci := Lib.hid ci
    clear hi
    have e1 : IntKind.u64.wrap (k : Int) = (k : Int) := IntWalk.u64_in _ (by omega)
    have e2 : bits .andNot .u32 (s : Int) (2 ^ k % 4294967296) = ((s &&& (4294967295 - 2 ^ k) : Nat) : Int) := by
      rw [two_pow_int k hk]
      exact u32_andNot_nat s (2 ^ k) hs hp
    generalize s &&& (4294967295 - 2 ^ k) = r at *
    clear hp
    go_enter Tryd.func22, Tryd.ntmps22
    go_wp2_with fail
    refine (ci.out.on _).mono ?_
    rintro e w1 ⟨rfl, rfl⟩
    go_wp2_with fail
    go_ret
    refine ⟨?_, rfl⟩
    first | rfl | rw [e2]
theorem is_c (s : Nat) (hs : s < 4294967296) : Still 19 #[.int .u32 (s : Int)] (.bool (isF s)) := fun w => by
  have e1 : bits .andNot .u32 (s : Int) 33554430 = ((s &&& (4294967295 - ALL) : Nat) : Int) := u32_andNot_nat s ALL hs (by decide)
  have e9 : ((((s &&& (4294967295 - ALL) : Nat)) : Int) == 0) = isF s := by
    unfold isF
    rw [Bool.eq_iff_iff, beq_iff_eq, decide_eq_true_iff]
    omega
  generalize s &&& (4294967295 - ALL) = r at *
  generalize isF s = q at *
  go_enter Tryd.func19, Tryd.ntmps19
  go_wp2_with fail
  go_ret
  refine ⟨?_, rfl⟩
  first | rfl | rw [e9] | simp [e1, e9]
theorem within_c (s t : Nat) (hs : s < 4294967296) (ht : t < 4294967296) : Still 16 #[.int .u32 (s : Int), .int .u32 (t : Int)] (.bool (withinF s t)) := fun w => by
  have e1 : bits .and .u32 (s : Int) 33554430 = ((s &&& ALL : Nat) : Int) := u32_and_nat s ALL hs (by decide)
  have e2 : bits .andNot .u32 ((s &&& ALL : Nat) : Int) (t : Int) = (((s &&& ALL) &&& (4294967295 - t) : Nat) : Int) := u32_andNot_nat (s &&& ALL) t (Nat.lt_of_le_of_lt Nat.and_le_left hs) ht
  have e9 : (((((s &&& ALL) &&& (4294967295 - t) : Nat)) : Int) == 0) = withinF s t := by
    unfold withinF
    rw [Bool.eq_iff_iff, beq_iff_eq, decide_eq_true_iff]
    omega
  generalize (s &&& ALL) &&& (4294967295 - t) = r at *
  generalize s &&& ALL = p at *
  generalize withinF s t = q at *
  go_enter Tryd.func16, Tryd.ntmps16
  go_wp2_with fail
  go_ret
  refine ⟨?_, rfl⟩
  first | rfl | rw [e9] | simp [e1, e9]
theorem meets_c (s t : Nat) (hs : s < 4294967296) (ht : t < 4294967296) : Still 17 #[.int .u32 (s : Int), .int .u32 (t : Int)] (.bool (meetsF s t)) := fun w => by
  have e1 : bits .and .u32 (s : Int) (t : Int) = ((s &&& t : Nat) : Int) := u32_and_nat s t hs ht
  have e2 : bits .and .u32 ((s &&& t : Nat) : Int) 33554430 = (((s &&& t) &&& ALL : Nat) : Int) := u32_and_nat (s &&& t) ALL (Nat.lt_of_le_of_lt Nat.and_le_left hs) (by decide)
  have e9 : (((((s &&& t) &&& ALL : Nat)) : Int) != 0) = meetsF s t := by
    unfold meetsF
    rw [bne, Bool.eq_iff_iff, Bool.not_eq_true', Bool.not_eq_true', beq_eq_false_iff_ne, decide_eq_false_iff_not]
    omega
  generalize (s &&& t) &&& ALL = r at *
  generalize s &&& t = p at *
  generalize meetsF s t = q at *
  go_enter Tryd.func17, Tryd.ntmps17
  go_wp2_with fail
  go_ret
  refine ⟨?_, rfl⟩
  first | rfl | rw [e9] | simp [e1, e9]
end Go.Proofs.YtmikhngmclngiaaDoor
