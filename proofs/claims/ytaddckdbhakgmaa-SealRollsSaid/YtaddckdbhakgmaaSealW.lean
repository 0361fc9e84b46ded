/- the walks over package seal -/
import Derived.Test.YtaddckdbhakgmaaRows
import Derived.Test.YtaddckdbhakgmaaAdler
import Derived.Test.YtaddckdbhakgmaaLib
import Derived.WalkKit
import Derived.WalkSpells
import Derived.WalkLawsBesides
namespace Go.Proofs.Ytaddckdbhakgmaa
open Go.RowKit
open Rf

theorem and65535 (s : Int) (h0 : 0 ≤ s) (h1 : s ≤ 4294967295) : bits .and .u32 s 65535 = s % 65536 := by
  obtain ⟨n, rfl⟩ := Int.eq_ofNat_of_zero_le h0
  rw [show (65535 : Int) = ((65535 : Nat) : Int) from rfl, u32_and_nat n 65535 (by omega) (by omega), nat_mask16]; omega
theorem or16 (a b : Int) (h0 : 0 ≤ a) (h1 : a ≤ 65535) (h2 : 0 ≤ b) (h3 : b ≤ 65535) : bits .or .u32 (b * 65536) a = b * 65536 + a := by
  obtain ⟨n, rfl⟩ := Int.eq_ofNat_of_zero_le h0
  obtain ⟨m, rfl⟩ := Int.eq_ofNat_of_zero_le h2
  have : (m : Int) * 65536 = ((m * 65536 : Nat) : Int) := by omega
  rw [this, u32_or_nat (m * 65536) n (by omega) (by omega), nat_join 16 (m * 65536) n (by omega) (by omega)]; omega

set_option maxHeartbeats 400000 in
theorem halves_c (s : Int) (h0 : 0 ≤ s) (h1 : s ≤ 4294967295) (w : World) :
    Calls Try.prog 42 #[.int .u32 s] w fun e w' => e = .returned (.tuple #[.int .u64 (Adler.lo s), .int .u64 (Adler.hi s)]) ∧ w = w' := by
  have e1 := and65535 s h0 h1
  go_enter Try.func42, Try.ntmps42
  go_wp2
  go_ret2
  exact ⟨rfl, rfl⟩

set_option maxHeartbeats 400000 in
theorem both_c (a b : Int) (h0 : 0 ≤ a) (h1 : a ≤ 18446744073709551615) (h2 : 0 ≤ b) (h3 : b ≤ 18446744073709551615) (w : World) :
    Calls Try.prog 43 #[.int .u64 a, .int .u64 b] w fun e w' => e = .returned (.int .u32 (Adler.pack a b)) ∧ w = w' := by
  have e1 := or16 (a % 65521) (b % 65521) (by omega) (by omega) (by omega) (by omega)
  go_enter Try.func43, Try.ntmps43
  go_wp2
  go_ret
  exact ⟨rfl, rfl⟩

set_option maxHeartbeats 400000 in
theorem more_c (s : Int) (t : ByteArray) (h0 : 0 ≤ s) (h1 : s ≤ 4294967295) (ht : t.size ≤ maxLen) (w : World) :
    Calls Try.prog 13 #[.int .u32 s, .string t] w fun e w' => e = .returned (.int .u32 (Adler.more s (byts t))) ∧ w = w' := by
  unfold maxLen at ht
  have hfin : Hid (Adler.pack (Adler.run (Adler.lo s, Adler.hi s) ((byts t).take t.size)).1 (Adler.run (Adler.lo s, Adler.hi s) ((byts t).take t.size)).2 = Adler.more s (byts t)) := by
    unfold Hid Adler.more; rw [take_all]
  go_enter Try.func13, Try.ntmps13
  go_wp2_with (first | (go_at_call 42; refine (halves_c _ (by assumption) (by assumption) _).mono ?_; rintro e w' ⟨rfl, rfl⟩))
  go_loop [5, 6, 15] (fun a b i => ∃ k : Nat, k ≤ t.size ∧ i = .int .i64 k ∧ a = .int .u64 (Adler.run (Adler.lo s, Adler.hi s) ((byts t).take k)).1 ∧ b = .int .u64 (Adler.run (Adler.lo s, Adler.hi s) ((byts t).take k)).2) (fun _ _ i => t.size - (intOf i).toNat)
  case atStart => exact ⟨0, Nat.zero_le _, rfl, rfl, rfl⟩
  case round =>
    obtain ⟨k, hk, rfl, rfl, rfl⟩ := hrel
    obtain ⟨b1, b2, b3, b4⟩ := Adler.run_ok _ (Adler.start_ok s) ((byts t).take k)
    by_cases hlt : k < t.size
    · have hsn := Adler.run_snoc (Adler.lo s, Adler.hi s) ((byts t).take k) t[k]
      rw [← take_snoc t k hlt] at hsn
      have H := Lib.hid hsn
      have hbyte : t[k].toNat < 256 := t[k].toNat_lt
      clear hsn
      generalize Adler.run (Adler.lo s, Adler.hi s) ((byts t).take k) = p at *
      go_wp2
      go_round
      case rel => exact ⟨k + 1, by omega, by go_num, by rw [H.out]; rfl, by rw [H.out]; rfl⟩
      case measure => simp [intOf]; omega
    · obtain rfl : k = t.size := by omega
      generalize Adler.run (Adler.lo s, Adler.hi s) ((byts t).take t.size) = p at *
      go_wp2_with (first | (go_at_call 43; refine (both_c _ _ (by omega) (by omega) (by omega) (by omega) _).mono ?_; rintro e w' ⟨rfl, rfl⟩))
      go_ret
      exact ⟨by rw [← hfin.out]; rfl, rfl⟩

set_option maxHeartbeats 400000 in
theorem of_c (t : ByteArray) (ht : t.size ≤ maxLen) (w : World) :
    Calls Try.prog 11 #[.string t] w fun e w' => e = .returned (.int .u32 (Adler.sum (byts t))) ∧ w = w' := by
  go_enter Try.func11, Try.ntmps11
  go_wp2_with (first | (go_at_call 13; refine (more_c _ _ (by omega) (by omega) ht _).mono ?_; rintro e w' ⟨rfl, rfl⟩))
  go_ret
  exact ⟨rfl, rfl⟩


set_option maxHeartbeats 400000 in
theorem roll_no (s n out inn : Int) (h : n < 1 ∨ 2147483648 < n) (w : World) :
    Calls Try.prog 17 #[.int .u32 s, .int .i64 n, .int .u8 out, .int .u8 inn] w fun e w' => e = .returned (.int .u32 0) ∧ w = w' := by
  rcases h with h | h
  · go_enter Try.func17, Try.ntmps17
    go_wp2
    go_ret
    exact ⟨rfl, rfl⟩
  · have h' : ¬ n < 1 := by omega
    go_enter Try.func17, Try.ntmps17
    go_wp2
    go_ret
    exact ⟨rfl, rfl⟩

theorem mul_bd (a b : Int) (h0 : 0 ≤ a) (h1 : a ≤ 65520) (h2 : 0 ≤ b) (h3 : b ≤ 65520) : 0 ≤ a * b ∧ a * b ≤ 4292870400 :=
  ⟨Int.mul_nonneg h0 h2, by have := Int.mul_le_mul h1 h3 h2 (by omega : (0 : Int) ≤ 65520); omega⟩

set_option maxHeartbeats 400000 in
theorem roll_yes (s n out inn : Int) (h0 : 0 ≤ s) (h1 : s ≤ 4294967295) (ha : 1 ≤ n) (hb : n ≤ 2147483648) (ho : 0 ≤ out) (ho' : out ≤ 255) (hi : 0 ≤ inn) (hi' : inn ≤ 255) (w : World) :
    Calls Try.prog 17 #[.int .u32 s, .int .i64 n, .int .u8 out, .int .u8 inn] w fun e w' => e = .returned (.int .u32 (Adler.rollF s n out inn)) ∧ w = w' := by
  obtain ⟨b1, b2, b3, b4⟩ := Adler.start_ok s
  have hm := mul_bd (n % 65521) out (by omega) (by omega) (by omega) (by omega)
  go_enter Try.func17, Try.ntmps17
  go_wp2_with (first | (go_at_call 42; refine (halves_c _ (by assumption) (by assumption) _).mono ?_; rintro e w' ⟨rfl, rfl⟩) | (go_at_call 43; refine (both_c _ _ (by omega) (by omega) (by omega) (by omega) _).mono ?_; rintro e w' ⟨rfl, rfl⟩))
  go_ret
  exact ⟨rfl, rfl⟩

set_option maxHeartbeats 400000 in
theorem join_no (x y n : Int) (h : n < 0 ∨ 2147483648 < n) (w : World) :
    Calls Try.prog 18 #[.int .u32 x, .int .u32 y, .int .i64 n] w fun e w' => e = .returned (.int .u32 0) ∧ w = w' := by
  rcases h with h | h
  · go_enter Try.func18, Try.ntmps18
    go_wp2
    go_ret
    exact ⟨rfl, rfl⟩
  · have h' : ¬ n < 0 := by omega
    go_enter Try.func18, Try.ntmps18
    go_wp2
    go_ret
    exact ⟨rfl, rfl⟩

set_option maxHeartbeats 400000 in
theorem join_yes (x y n : Int) (h0 : 0 ≤ x) (h1 : x ≤ 4294967295) (h2 : 0 ≤ y) (h3 : y ≤ 4294967295) (ha : 0 ≤ n) (hb : n ≤ 2147483648) (w : World) :
    Calls Try.prog 18 #[.int .u32 x, .int .u32 y, .int .i64 n] w fun e w' => e = .returned (.int .u32 (Adler.joinF x y n)) ∧ w = w' := by
  obtain ⟨b1, b2, b3, b4⟩ := Adler.start_ok x
  obtain ⟨c1, c2, c3, c4⟩ := Adler.start_ok y
  have hm := mul_bd (n % 65521) ((Adler.lo x + 65521 - 1) % 65521) (by omega) (by omega) (by omega) (by omega)
  go_enter Try.func18, Try.ntmps18
  go_wp2_with (first | (go_at_call 42; refine (halves_c _ (by assumption) (by assumption) _).mono ?_; rintro e w' ⟨rfl, rfl⟩) | fail)
  refine (both_c _ _ ?_ ?_ ?_ ?_ _).mono ?_
  · omega
  · omega
  · omega
  · omega
  rintro e w' ⟨rfl, rfl⟩
  go_wp2
  go_ret
  exact ⟨rfl, rfl⟩

set_option maxHeartbeats 400000 in
theorem refOf_c (t : ByteArray) (ht : t.size ≤ maxLen) (w : World) :
    Calls Try.prog 12 #[.string t] w fun e w' => e = .returned (.int .u32 (Adler.sum (byts t))) ∧ w = w' := by
  unfold maxLen at ht
  have hfin : Hid ((Adler.run (1, 0) ((byts t).take t.size)).2 * 65536 + (Adler.run (1, 0) ((byts t).take t.size)).1 = Adler.sum (byts t)) := by
    unfold Hid; rw [Adler.sum_eq, take_all]
  go_enter Try.func12, Try.ntmps12
  go_wp2
  go_loop [3, 4, 5] (fun a b i => ∃ k : Nat, k ≤ t.size ∧ i = .int .i64 k ∧ a = .int .i64 (Adler.run (1, 0) ((byts t).take k)).1 ∧ b = .int .i64 (Adler.run (1, 0) ((byts t).take k)).2) (fun _ _ i => t.size - (intOf i).toNat)
  case atStart => exact ⟨0, Nat.zero_le _, rfl, rfl, rfl⟩
  case round =>
    obtain ⟨k, hk, rfl, rfl, rfl⟩ := hrel
    obtain ⟨b1, b2, b3, b4⟩ := Adler.run_ok (1, 0) (by unfold Adler.Ok; omega) ((byts t).take k)
    by_cases hlt : k < t.size
    · have hsn := Adler.run_snoc (1, 0) ((byts t).take k) t[k]
      rw [← take_snoc t k hlt] at hsn
      have H := Lib.hid hsn
      have hbyte : t[k].toNat < 256 := t[k].toNat_lt
      clear hsn
      generalize Adler.run (1, 0) ((byts t).take k) = p at *
      go_wp2
      go_round
      case rel => exact ⟨k + 1, by omega, by go_num, by rw [H.out]; rfl, by rw [H.out]; rfl⟩
      case measure => simp [intOf]; omega
    · obtain rfl : k = t.size := by omega
      generalize Adler.run (1, 0) ((byts t).take t.size) = p at *
      go_wp2
      go_ret
      exact ⟨by rw [← hfin.out]; rfl, rfl⟩
end Go.Proofs.Ytaddckdbhakgmaa
