/- FieldSpan: the plain law, and the walk put together -/
import Derived.Test.YtbfigpollacngaaFdS
namespace Go.Proofs.Ytbfigpollacngaa
open Go.RowKit
open Rf
open Wide

theorem R_sub {a b : Int} (ha : In a = true) (hb : In b = true) (hi : In (a - b) = true) : subF (mk a) (mk b) = (mk (a - b), 0) := by
  rw [subF_mk ha hb, R_in' hi]
theorem R_add {a b : Int} (ha : In a = true) (hb : In b = true) (hi : In (a + b) = true) : addF (mk a) (mk b) = (mk (a + b), 0) := by
  unfold addF
  rw [mk_form a ha, mk_form b hb, mk_val, mk_val]
  exact R_in' hi
theorem R_mul {a b : Int} (ha : In a = true) (hb : In b = true) (hi : In (a * b) = true) : mulF (mk a) (mk b) = (mk (a * b), 0) := by
  unfold mulF
  rw [mk_form a ha, mk_form b hb, mk_val, mk_val]
  exact R_in' hi
theorem span_law (k : Int) (h : (k == 1) = false) : gK k - lK k = (256 : Int) ^ (shp k).2.1.toNat - 1 := by
  rcases kinds k with rfl | rfl | rfl | rfl | rfl | rfl | rfl | rfl | rfl | rfl | ⟨h1, h2⟩
  · cases h
  all_goals first | decide | skip
  unfold lK
  rw [gK_none h1, h2, if_neg (by decide)]
  rfl
theorem size_nat (k : Int) : (shp k).2.1 = ((shp k).2.1.toNat : Int) ∧ (shp k).2.1.toNat ≤ 8 := by
  rcases kinds k with rfl | rfl | rfl | rfl | rfl | rfl | rfl | rfl | rfl | rfl | ⟨h1, h2⟩
  all_goals first | decide | skip
  rw [h2]; decide
theorem pow8 {j : Nat} (h : j ≤ 8) : 1 ≤ (256 : Int) ^ j ∧ (256 : Int) ^ j ≤ 18446744073709551616 := by
  rcases (show j = 0 ∨ j = 1 ∨ j = 2 ∨ j = 3 ∨ j = 4 ∨ j = 5 ∨ j = 6 ∨ j = 7 ∨ j = 8 by omega) with rfl | rfl | rfl | rfl | rfl | rfl | rfl | rfl | rfl <;> decide

theorem fieldSpan_any (k : Int) (w : World) :
    Calls Try.prog 7 #[.int .i64 k] w fun e w' => e = .returned (.bool true) ∧ Below w.heap.size w w' := by
  have cg : Ret 18 #[.int .i64 k] (wv (mk (gK k))) := fun w => greatK_c k w
  have cl : Ret 17 #[.int .i64 k] (wv (mk (lK k))) := fun w => leastK_c k w
  have g := gK_bd k
  have l0 := lK_low k
  have l1 : lK k ≤ 0 := by unfold lK; split <;> omega
  have cd : Ret 28 #[wv (mk (gK k)), wv (mk (lK k))] (.tuple #[wv (mk (gK k - lK k)), .int .i64 0]) := fun w => by
    have := sub_c (mk (gK k)) (mk (lK k)) (mk_ok _ (gK_in k)) (mk_ok _ (lK_in k)) w
    rw [R_sub (gK_in k) (lK_in k) (In_iff.2 ⟨by omega, by omega⟩)] at this
    exact this
  have c0 : Ret 27 #[.int .i64 0] (wv (mk ((256 : Int) ^ 0 - 1))) := fun w => of_c 0 (by decide) (by decide) w
  have c256 : Ret 27 #[.int .i64 256] (wv ⟨false, 0, 256⟩) := fun w => of_c 256 (by decide) (by decide) w
  have c255 : Ret 27 #[.int .i64 255] (wv ⟨false, 0, 255⟩) := fun w => of_c 255 (by decide) (by decide) w
  have c1 : Ret 27 #[.int .i64 1] (wv ⟨false, 0, 1⟩) := fun w => of_c 1 (by decide) (by decide) w
  obtain ⟨s1, s2⟩ := size_nat k
  have cs : Ret 15 #[.int .i64 k] (.int .i64 ((shp k).2.1.toNat : Int)) := fun w => by have := sizeK_c k w; rw [s1] at this; exact this
  have cm : ∀ j, j < (shp k).2.1.toNat → Ret 31 #[wv (mk ((256 : Int) ^ j - 1)), wv ⟨false, 0, 256⟩] (.tuple #[wv (mk (((256 : Int) ^ j - 1) * 256)), .int .i64 0]) := fun j hj w => by
    have hp := pow8 (j := j) (by omega)
    have := mul_c (mk ((256 : Int) ^ j - 1)) (mk 256) (mk_ok _ (In_iff.2 ⟨by omega, by omega⟩)) (mk_ok _ (by decide)) w
    rw [R_mul (In_iff.2 ⟨by omega, by omega⟩) (by decide) (In_iff.2 ⟨by omega, by omega⟩)] at this
    exact this
  have ca : ∀ j, j < (shp k).2.1.toNat → Ret 26 #[wv (mk (((256 : Int) ^ j - 1) * 256)), wv ⟨false, 0, 255⟩] (.tuple #[wv (mk ((256 : Int) ^ (j + 1) - 1)), .int .i64 0]) := fun j hj w => by
    have hp := pow8 (j := j) (by omega)
    have := add_c (mk (((256 : Int) ^ j - 1) * 256)) (mk 255) (mk_ok _ (In_iff.2 ⟨by omega, by omega⟩)) (mk_ok _ (by decide)) w
    rw [R_add (In_iff.2 ⟨by omega, by omega⟩) (by decide) (In_iff.2 ⟨by omega, by omega⟩)] at this
    rw [show (256 : Int) ^ (j + 1) - 1 = ((256 : Int) ^ j - 1) * 256 + 255 from by rw [Int.pow_succ]; omega]
    exact this
  cases h : (k == 1) with
  | true =>
    obtain rfl : k = 1 := by simpa using h
    exact fieldSpan_b 1 (mk (gK 1)) (mk (lK 1)) (mk (gK 1 - lK 1)) (shp 1).2.1.toNat (fun j => mk ((256 : Int) ^ j - 1)) (fun j => mk (((256 : Int) ^ j - 1) * 256)) cg cl cd c0 c256 c255 c1 cs s2 cm ca rfl rfl w
  | false => exact fieldSpan_n k _ _ _ (shp k).2.1.toNat (fun j => mk ((256 : Int) ^ j - 1)) (fun j => mk (((256 : Int) ^ j - 1) * 256)) cg cl cd c0 c256 c255 cs s2 cm ca h (by show mk _ = mk _; rw [span_law k h]) w
end Go.Proofs.Ytbfigpollacngaa
