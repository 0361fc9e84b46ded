/- the walks over package field, first part: what a kind is -/
import Derived.Test.YtbfigpollacngaaFdOf
namespace Go.Proofs.Ytbfigpollacngaa
open Go.RowKit
open Rf
open Wide

/-- a kind's name, its bytes, whether it has a sign -/
def shp (k : Int) : ByteArray × Int × Bool :=
  if k = 1 then (⟨#[98, 111, 111, 108]⟩, 1, false) else if k = 2 then (⟨#[105, 56]⟩, 1, true) else if k = 3 then (⟨#[105, 49, 54]⟩, 2, true)
  else if k = 4 then (⟨#[105, 51, 50]⟩, 4, true) else if k = 5 then (⟨#[105, 54, 52]⟩, 8, true) else if k = 6 then (⟨#[117, 56]⟩, 1, false)
  else if k = 7 then (⟨#[117, 49, 54]⟩, 2, false) else if k = 8 then (⟨#[117, 51, 50]⟩, 4, false) else if k = 9 then (⟨#[117, 54, 52]⟩, 8, false)
  else if k = 10 then (⟨#[114, 101, 102]⟩, 8, false) else (⟨#[]⟩, 0, false)
def isK (k : Int) : Bool := decide (1 ≤ k) && decide (k ≤ 10)
theorem kinds (k : Int) : k = 1 ∨ k = 2 ∨ k = 3 ∨ k = 4 ∨ k = 5 ∨ k = 6 ∨ k = 7 ∨ k = 8 ∨ k = 9 ∨ k = 10 ∨ (isK k = false ∧ shp k = (⟨#[]⟩, 0, false)) := by
  by_cases h : 1 ≤ k ∧ k ≤ 10
  · omega
  · refine .inr (.inr (.inr (.inr (.inr (.inr (.inr (.inr (.inr (.inr ⟨?_, ?_⟩)))))))))
    · unfold isK
      rw [Bool.and_eq_false_iff, decide_eq_false_iff_not, decide_eq_false_iff_not]
      omega
    · unfold shp
      repeat rw [if_neg (by omega)]

theorem isKind_c (k : Int) (w : World) : Calls Try.prog 32 #[.int .i64 k] w fun e w' => e = .returned (.bool (isK k)) ∧ w = w' := by
  unfold isK
  by_cases h1 : 1 ≤ k
  · rw [decide_eq_true h1, Bool.true_and]
    by_cases h2 : k ≤ 10
    · have t : decide (k ≤ 10) = true := decide_eq_true h2
      rw [t]
      go_enter Try.func32, Try.ntmps32
      go_wp2
      go_ret
      exact ⟨rfl, rfl⟩
    · have t : decide (k ≤ 10) = false := decide_eq_false h2
      rw [t]
      go_enter Try.func32, Try.ntmps32
      go_wp2
      go_ret
      exact ⟨rfl, rfl⟩
  · have t : decide (1 ≤ k) = false := decide_eq_false h1
    rw [t, Bool.false_and]
    go_enter Try.func32, Try.ntmps32
    go_wp2
    go_ret
    exact ⟨rfl, rfl⟩

set_option maxRecDepth 10000 in
set_option maxHeartbeats 2000000 in
theorem shape_1 (w : World) : Calls Try.prog 36 #[.int .i64 1] w fun e w' => e = .returned (.agg #[.string (shp 1).1, .int .i64 (shp 1).2.1, .bool (shp 1).2.2]) ∧ Below w.heap.size w w' := by
  have ci := fun w => isKind_c 1 w
  rw [show isK 1 = true from rfl] at ci
  replace ci := Lib.hid ci
  go_enter Try.func36, Try.ntmps36
  go_wp2_with (first | (go_at_call 32; refine (ci.out _).mono ?_; rintro e w' ⟨rfl, rfl⟩) | go_in)
  go_returns
  exact ⟨rfl, below2 _ _ _⟩
set_option maxRecDepth 10000 in
set_option maxHeartbeats 2000000 in
theorem shape_2 (w : World) : Calls Try.prog 36 #[.int .i64 2] w fun e w' => e = .returned (.agg #[.string (shp 2).1, .int .i64 (shp 2).2.1, .bool (shp 2).2.2]) ∧ Below w.heap.size w w' := by
  have ci := fun w => isKind_c 2 w
  rw [show isK 2 = true from rfl] at ci
  replace ci := Lib.hid ci
  go_enter Try.func36, Try.ntmps36
  go_wp2_with (first | (go_at_call 32; refine (ci.out _).mono ?_; rintro e w' ⟨rfl, rfl⟩) | go_in)
  go_returns
  exact ⟨rfl, below2 _ _ _⟩
set_option maxRecDepth 10000 in
set_option maxHeartbeats 2000000 in
theorem shape_3 (w : World) : Calls Try.prog 36 #[.int .i64 3] w fun e w' => e = .returned (.agg #[.string (shp 3).1, .int .i64 (shp 3).2.1, .bool (shp 3).2.2]) ∧ Below w.heap.size w w' := by
  have ci := fun w => isKind_c 3 w
  rw [show isK 3 = true from rfl] at ci
  replace ci := Lib.hid ci
  go_enter Try.func36, Try.ntmps36
  go_wp2_with (first | (go_at_call 32; refine (ci.out _).mono ?_; rintro e w' ⟨rfl, rfl⟩) | go_in)
  go_returns
  exact ⟨rfl, below2 _ _ _⟩
set_option maxRecDepth 10000 in
set_option maxHeartbeats 2000000 in
theorem shape_4 (w : World) : Calls Try.prog 36 #[.int .i64 4] w fun e w' => e = .returned (.agg #[.string (shp 4).1, .int .i64 (shp 4).2.1, .bool (shp 4).2.2]) ∧ Below w.heap.size w w' := by
  have ci := fun w => isKind_c 4 w
  rw [show isK 4 = true from rfl] at ci
  replace ci := Lib.hid ci
  go_enter Try.func36, Try.ntmps36
  go_wp2_with (first | (go_at_call 32; refine (ci.out _).mono ?_; rintro e w' ⟨rfl, rfl⟩) | go_in)
  go_returns
  exact ⟨rfl, below2 _ _ _⟩
set_option maxRecDepth 10000 in
set_option maxHeartbeats 2000000 in
theorem shape_5 (w : World) : Calls Try.prog 36 #[.int .i64 5] w fun e w' => e = .returned (.agg #[.string (shp 5).1, .int .i64 (shp 5).2.1, .bool (shp 5).2.2]) ∧ Below w.heap.size w w' := by
  have ci := fun w => isKind_c 5 w
  rw [show isK 5 = true from rfl] at ci
  replace ci := Lib.hid ci
  go_enter Try.func36, Try.ntmps36
  go_wp2_with (first | (go_at_call 32; refine (ci.out _).mono ?_; rintro e w' ⟨rfl, rfl⟩) | go_in)
  go_returns
  exact ⟨rfl, below2 _ _ _⟩
set_option maxRecDepth 10000 in
set_option maxHeartbeats 2000000 in
theorem shape_6 (w : World) : Calls Try.prog 36 #[.int .i64 6] w fun e w' => e = .returned (.agg #[.string (shp 6).1, .int .i64 (shp 6).2.1, .bool (shp 6).2.2]) ∧ Below w.heap.size w w' := by
  have ci := fun w => isKind_c 6 w
  rw [show isK 6 = true from rfl] at ci
  replace ci := Lib.hid ci
  go_enter Try.func36, Try.ntmps36
  go_wp2_with (first | (go_at_call 32; refine (ci.out _).mono ?_; rintro e w' ⟨rfl, rfl⟩) | go_in)
  go_returns
  exact ⟨rfl, below2 _ _ _⟩
set_option maxRecDepth 10000 in
set_option maxHeartbeats 2000000 in
theorem shape_7 (w : World) : Calls Try.prog 36 #[.int .i64 7] w fun e w' => e = .returned (.agg #[.string (shp 7).1, .int .i64 (shp 7).2.1, .bool (shp 7).2.2]) ∧ Below w.heap.size w w' := by
  have ci := fun w => isKind_c 7 w
  rw [show isK 7 = true from rfl] at ci
  replace ci := Lib.hid ci
  go_enter Try.func36, Try.ntmps36
  go_wp2_with (first | (go_at_call 32; refine (ci.out _).mono ?_; rintro e w' ⟨rfl, rfl⟩) | go_in)
  go_returns
  exact ⟨rfl, below2 _ _ _⟩
set_option maxRecDepth 10000 in
set_option maxHeartbeats 2000000 in
theorem shape_8 (w : World) : Calls Try.prog 36 #[.int .i64 8] w fun e w' => e = .returned (.agg #[.string (shp 8).1, .int .i64 (shp 8).2.1, .bool (shp 8).2.2]) ∧ Below w.heap.size w w' := by
  have ci := fun w => isKind_c 8 w
  rw [show isK 8 = true from rfl] at ci
  replace ci := Lib.hid ci
  go_enter Try.func36, Try.ntmps36
  go_wp2_with (first | (go_at_call 32; refine (ci.out _).mono ?_; rintro e w' ⟨rfl, rfl⟩) | go_in)
  go_returns
  exact ⟨rfl, below2 _ _ _⟩
set_option maxRecDepth 10000 in
set_option maxHeartbeats 2000000 in
theorem shape_9 (w : World) : Calls Try.prog 36 #[.int .i64 9] w fun e w' => e = .returned (.agg #[.string (shp 9).1, .int .i64 (shp 9).2.1, .bool (shp 9).2.2]) ∧ Below w.heap.size w w' := by
  have ci := fun w => isKind_c 9 w
  rw [show isK 9 = true from rfl] at ci
  replace ci := Lib.hid ci
  go_enter Try.func36, Try.ntmps36
  go_wp2_with (first | (go_at_call 32; refine (ci.out _).mono ?_; rintro e w' ⟨rfl, rfl⟩) | go_in)
  go_returns
  exact ⟨rfl, below2 _ _ _⟩
set_option maxRecDepth 10000 in
set_option maxHeartbeats 2000000 in
theorem shape_10 (w : World) : Calls Try.prog 36 #[.int .i64 10] w fun e w' => e = .returned (.agg #[.string (shp 10).1, .int .i64 (shp 10).2.1, .bool (shp 10).2.2]) ∧ Below w.heap.size w w' := by
  have ci := fun w => isKind_c 10 w
  rw [show isK 10 = true from rfl] at ci
  replace ci := Lib.hid ci
  go_enter Try.func36, Try.ntmps36
  go_wp2_with (first | (go_at_call 32; refine (ci.out _).mono ?_; rintro e w' ⟨rfl, rfl⟩) | go_in)
  go_returns
  exact ⟨rfl, below2 _ _ _⟩
set_option maxRecDepth 10000 in
set_option maxHeartbeats 2000000 in
theorem shape_c (k : Int) (w : World) : Calls Try.prog 36 #[.int .i64 k] w fun e w' => e = .returned (.agg #[.string (shp k).1, .int .i64 (shp k).2.1, .bool (shp k).2.2]) ∧ Below w.heap.size w w' := by
  rcases kinds k with rfl | rfl | rfl | rfl | rfl | rfl | rfl | rfl | rfl | rfl | ⟨h1, h2⟩
  · exact shape_1 w
  · exact shape_2 w
  · exact shape_3 w
  · exact shape_4 w
  · exact shape_5 w
  · exact shape_6 w
  · exact shape_7 w
  · exact shape_8 w
  · exact shape_9 w
  · exact shape_10 w
  · rw [h2]
    dsimp only
    have ci := isKind_c k
    rw [h1] at ci
    clear h1 h2
    replace ci := Lib.hid ci
    go_enter Try.func36, Try.ntmps36
    go_wp2_with (first | (go_at_call 32; refine (ci.out _).mono ?_; rintro e w' ⟨rfl, rfl⟩) | go_in)
    go_returns
    exact ⟨rfl, below1 _ _⟩
/-- two to the power of the bits, less 1 -/
def powK (n : Int) : Int := if n = 8 then 255 else if n = 16 then 65535 else if n = 32 then 4294967295 else 18446744073709551615
set_option maxRecDepth 10000 in
theorem power_c (n : Int) (h : n = 8 ∨ n = 16 ∨ n = 32 ∨ n = 64) (w : World) : Calls Try.prog 37 #[.int .i64 n] w fun e w' => e = .returned (.int .u64 (powK n)) ∧ w = w' := by
  rcases h with rfl | rfl | rfl | rfl
  all_goals
    go_enter Try.func37, Try.ntmps37
    go_wp2
    go_ret
    exact ⟨rfl, rfl⟩
end Go.Proofs.Ytbfigpollacngaa
