/- the walks over retrofitref04: bytes, names, the number of bytes -/
import Derived.Test.YtbfigpollacngaaFdBl
namespace Go.Proofs.Ytbfigpollacngaa
open Go.RowKit
open Rf
open Wide

theorem not_kind {k : Int} (h : isK k = false) : k < 1 ∨ (¬ k < 1 ∧ 10 < k) := by
  unfold isK at h
  rw [Bool.and_eq_false_iff, decide_eq_false_iff_not, decide_eq_false_iff_not] at h
  omega
set_option maxHeartbeats 8000000 in
theorem bytesR_c (k : Int) : Ret 11 #[.int .i64 k] (.int .i64 (shp k).2.1) := fun w => by
  rcases kinds k with rfl | rfl | rfl | rfl | rfl | rfl | rfl | rfl | rfl | rfl | ⟨h1, h2⟩
  iterate 10
    · go_enter Try.func11, Try.ntmps11
      go_wp2
      go_ret
      exact ⟨rfl, below1 _ _⟩
  · rw [h2]
    rcases not_kind h1 with h | ⟨h, h'⟩
    · clear h1 h2
      go_enter Try.func11, Try.ntmps11
      go_wp2
      go_ret
      exact ⟨rfl, Below.refl _ _⟩
    · clear h1 h2
      go_enter Try.func11, Try.ntmps11
      go_wp2
      go_ret
      exact ⟨rfl, Below.refl _ _⟩
set_option maxHeartbeats 8000000 in
theorem nameR_c (k : Int) : Ret 12 #[.int .i64 k] (.string (shp k).1) := fun w => by
  rcases kinds k with rfl | rfl | rfl | rfl | rfl | rfl | rfl | rfl | rfl | rfl | ⟨h1, h2⟩
  iterate 10
    · go_enter Try.func12, Try.ntmps12
      go_wp2
      go_ret
      exact ⟨rfl, below1 _ _⟩
  · rw [h2]
    rcases not_kind h1 with h | ⟨h, h'⟩
    · clear h1 h2
      go_enter Try.func12, Try.ntmps12
      go_wp2
      go_ret
      exact ⟨rfl, Below.refl _ _⟩
    · clear h1 h2
      go_enter Try.func12, Try.ntmps12
      go_wp2
      go_ret
      exact ⟨rfl, Below.refl _ _⟩
end Go.Proofs.Ytbfigpollacngaa
