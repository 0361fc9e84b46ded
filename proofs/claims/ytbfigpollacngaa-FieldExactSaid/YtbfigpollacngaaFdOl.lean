/- FieldOrder: the plain law, and the walk put together -/
import Derived.Test.YtbfigpollacngaaFdO
import Derived.Test.YtbfigpollacngaaWvO
namespace Go.Proofs.Ytbfigpollacngaa
open Go.RowKit
open Rf
open Wide

theorem kind_cases {k : Int} (h : isK k = true) : k = 1 ∨ k = 2 ∨ k = 3 ∨ k = 4 ∨ k = 5 ∨ k = 6 ∨ k = 7 ∨ k = 8 ∨ k = 9 ∨ k = 10 := by
  unfold isK at h
  rw [Bool.and_eq_true, decide_eq_true_eq, decide_eq_true_eq] at h
  omega
theorem fits_iff {k : Int} {x : WI} : fitsF k x = true ↔ isK k = true ∧ x.form = true ∧ lK k ≤ x.val ∧ x.val ≤ gK k := by
  unfold fitsF
  rw [Bool.and_eq_true, Bool.and_eq_true, Bool.and_eq_true, decide_eq_true_eq, decide_eq_true_eq]
  exact ⟨fun ⟨⟨⟨a, b⟩, c⟩, d⟩ => ⟨a, b, c, d⟩, fun ⟨a, b, c, d⟩ => ⟨⟨⟨a, b⟩, c⟩, d⟩⟩
/-- a kind with more room -/
def wider (k m : Int) : Bool := isK m && decide (lK m ≤ lK k) && decide (gK k ≤ gK m)
theorem fits_wider {k m : Int} (h : wider k m = true) {x : WI} (hf : fitsF k x = true) : fitsF m x = true := by
  unfold wider at h
  rw [Bool.and_eq_true, Bool.and_eq_true, decide_eq_true_eq, decide_eq_true_eq] at h
  obtain ⟨⟨h1, h2⟩, h3⟩ := h
  rw [fits_iff] at *
  exact ⟨h1, hf.2.1, by omega, by omega⟩
theorem wide1 {k : Int} (h : 2 ≤ k ∧ k < 5 ∨ 6 ≤ k ∧ k < 9) : wider k (k + 1) = true := by
  rcases (show k = 2 ∨ k = 3 ∨ k = 4 ∨ k = 6 ∨ k = 7 ∨ k = 8 by omega) with rfl | rfl | rfl | rfl | rfl | rfl <;> decide
theorem wide3 {k : Int} (h : 6 ≤ k ∧ k < 9) : wider k (k - 3) = true := by
  rcases (show k = 6 ∨ k = 7 ∨ k = 8 by omega) with rfl | rfl | rfl <;> decide
theorem lK_gK {k : Int} (h : isK k = true) : lK k ≤ gK k := by
  rcases kind_cases h with rfl | rfl | rfl | rfl | rfl | rfl | rfl | rfl | rfl | rfl <;> decide
theorem size_zero {k : Int} : ((shp k).2.1 == 0) = !isK k := by
  rcases kinds k with rfl | rfl | rfl | rfl | rfl | rfl | rfl | rfl | rfl | rfl | ⟨h1, h2⟩
  all_goals first | decide | skip
  rw [h1, h2]; rfl
theorem clampF_ok (k : Int) (x : WI) (ho : x.Ok) : (clampF k x).Ok := by
  unfold clampF
  repeat' split
  · exact mk_ok _ (lK_in k)
  · exact mk_ok _ (gK_in k)
  · exact ho
  · unfold zero WI.Ok; decide
theorem clamp_form {k : Int} {x : WI} (hk : isK k = true) (hf : x.form = true) :
    (clampF k x).form = true ∧ (clampF k x).val = if x.val < lK k then lK k else if gK k < x.val then gK k else x.val := by
  unfold clampF
  rw [hk, hf, Bool.and_self, if_pos rfl]
  repeat' split
  · exact ⟨mk_form _ (lK_in k), mk_val _⟩
  · exact ⟨mk_form _ (gK_in k), mk_val _⟩
  · exact ⟨hf, rfl⟩
theorem cmp_forms {x y : WI} (hf : x.form = true) (hg : y.form = true) : cmpF x y = sgn (x.val - y.val) := by
  unfold cmpF
  rw [hf, hg]; rfl
theorem clamp_order {k : Int} {x y : WI} (hk : isK k = true) (hf : x.form = true) (hg : y.form = true) (h : ¬ 0 < cmpF x y) : cmpF (clampF k x) (clampF k y) ≤ 0 := by
  obtain ⟨f1, v1⟩ := clamp_form hk hf
  obtain ⟨f2, v2⟩ := clamp_form hk hg
  rw [cmp_forms hf hg, sgn_gtz] at h
  have hl := lK_gK hk
  rw [cmp_forms f1 f2, sgn_le, v1, v2]
  repeat' split
  all_goals omega

theorem fieldOrder_any (k : Int) (x : WI) (ho : x.Ok) (y : WI) (hp : y.Ok) (w : World) :
    Calls Try.prog 6 #[.int .i64 k, wv x, wv y] w fun e w' => e = .returned (.bool true) ∧ Below w.heap.size w w' := by
  have cf : Ret 21 #[.int .i64 k, wv x] (.bool (fitsF k x)) := fun w => fits_c k x ho w
  have cf1 : Ret 21 #[.int .i64 (k + 1), wv x] (.bool (fitsF (k + 1) x)) := fun w => fits_c (k + 1) x ho w
  have cf3 : Ret 21 #[.int .i64 (k - 3), wv x] (.bool (fitsF (k - 3) x)) := fun w => fits_c (k - 3) x ho w
  have l1 : (2 ≤ k ∧ k < 5 ∨ 6 ≤ k ∧ k < 9) → fitsF k x = true → fitsF (k + 1) x = true := fun h => fits_wider (wide1 h)
  have l3 : (6 ≤ k ∧ k < 9) → fitsF k x = true → fitsF (k - 3) x = true := fun h => fits_wider (wide3 h)
  have cs : Ret 15 #[.int .i64 k] (.int .i64 (shp k).2.1) := fun w => sizeK_c k w
  have fx0 : Ret 29 #[wv x] (.bool x.form) := fun w => form_c x ho w
  have fy0 : Ret 29 #[wv y] (.bool y.form) := fun w => form_c y hp w
  have hsz := size_zero (k := k)
  cases hk : isK k with
  | false => rw [hk] at hsz; exact fieldOrder_0 k x y _ _ _ cf cf1 cf3 l1 l3 _ cs hsz w
  | true =>
    rw [hk] at hsz
    cases hf : x.form with
    | false => rw [hf] at fx0; exact fieldOrder_1 k x y _ _ _ cf cf1 cf3 l1 l3 _ cs hsz fx0 w
    | true =>
      rw [hf] at fx0
      cases hg : y.form with
      | false => rw [hg] at fy0; exact fieldOrder_2 k x y _ _ _ cf cf1 cf3 l1 l3 _ cs hsz fx0 fy0 w
      | true =>
        rw [hg] at fy0
        have cu : Ret 30 #[wv x, wv y] (.int .i64 (cmpF x y)) := fun w => cmp_c x y ho hp w
        by_cases hu : 0 < cmpF x y
        · exact fieldOrder_3 k x y _ _ _ cf cf1 cf3 l1 l3 _ cs hsz fx0 fy0 _ cu (decide_eq_true hu) w
        · have cx : Ret 25 #[.int .i64 k, wv x] (wv (clampF k x)) := fun w => clamp_c k x ho w
          have cy : Ret 25 #[.int .i64 k, wv y] (wv (clampF k y)) := fun w => clamp_c k y hp w
          have cv : Ret 30 #[wv (clampF k x), wv (clampF k y)] (.int .i64 (cmpF (clampF k x) (clampF k y))) := fun w => cmp_c _ _ (clampF_ok k x ho) (clampF_ok k y hp) w
          exact fieldOrder_4 k x y _ _ _ cf cf1 cf3 l1 l3 _ cs hsz fx0 fy0 _ cu (decide_eq_false hu) _ _ cx cy _ cv (decide_eq_true (clamp_order hk hf hg hu)) w
end Go.Proofs.Ytbfigpollacngaa
