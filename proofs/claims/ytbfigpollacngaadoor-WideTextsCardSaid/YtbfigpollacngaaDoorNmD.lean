/- what retrofitref01.Do answers -/
import Derived.Test.YtbfigpollacngaaDoorNmW9
import Derived.Test.YtbfigpollacngaaDoorWvD
namespace Go.Proofs.YtbfigpollacngaaDoor
open Go.RowKit
open Rf
open Wide

theorem ret_to (n : Bool) (v : Int) (h0 : 0 ≤ v) (h : v < 256 ^ 40) : Ret 46 #[nv n (digN 40 v)] (.tuple #[wv (toF n v).1, .bool (toF n v).2]) := fun w => by
  have := to_d n (digN 40 v) (digN_dig 40 v) (digN_length 40 v) w
  rwa [digN_val 40 v h0 h] at this
theorem val_neg (x : WI) : x.val = neg x.n x.sz := rfl
theorem toF_R (n : Bool) (v : Int) (h0 : 0 ≤ v) : (toF n v = (mk (neg n v), true) ∧ R (neg n v) = (mk (neg n v), 0)) ∨ (toF n v = (zero, false) ∧ R (neg n v) = (zero, 3)) := by
  unfold toF
  by_cases h : v < 170141183460469231731687303715884105728
  · exact .inl ⟨if_pos h, R_in (In_iff.2 (by unfold neg; split <;> omega))⟩
  · exact .inr ⟨if_neg h, R_out (fun hh => by have := In_iff.1 hh; unfold neg at this; split at this <;> omega)⟩
theorem pow40 : (340282366920938463463374607431768211456 : Int) * 340282366920938463463374607431768211456 < 256 ^ 40 := by decide
theorem pow16 : (256 : Int) ^ 16 = 340282366920938463463374607431768211456 := by decide
theorem sz_lt {x : WI} (ho : x.Ok) : 0 ≤ x.sz ∧ x.sz < 340282366920938463463374607431768211456 := by
  obtain ⟨h1, h2, h3, h4⟩ := ho
  unfold WI.sz
  omega
/-- a sum of two signs -/
theorem add_any (n m : Bool) (d e : List Int) (hd : Dig d) (he : Dig e) (h1 : d.length = 40) (h2 : e.length = 40) (b1 : valN d < 340282366920938463463374607431768211456) (b2 : valN e < 340282366920938463463374607431768211456) :
    ∃ on v, 0 ≤ v ∧ v < 256 ^ 40 ∧ neg on v = neg n (valN d) + neg m (valN e) ∧ Ret 44 #[nv n d, nv m e] (nv on (digN 40 v)) := by
  have n1 := valN_nn hd
  have n2 := valN_nn he
  have hp := pow40
  by_cases hnm : n = m
  · subst hnm
    exact ⟨n, valN d + valN e, by omega, by omega, by unfold neg; split <;> omega, fun w => add_same n d e hd he h1 h2 (by omega) w⟩
  · by_cases hge : valN e ≤ valN d
    · refine ⟨n, valN d - valN e, by omega, by omega, by cases n <;> cases m <;> simp_all [neg] <;> omega, ?_⟩
      cases n <;> cases m
      · exact absurd rfl hnm
      · exact fun w => add_ge_ft d e hd he h1 h2 hge w
      · exact fun w => add_ge_tf d e hd he h1 h2 hge w
      · exact absurd rfl hnm
    · refine ⟨m, valN e - valN d, by omega, by omega, by cases n <;> cases m <;> simp_all [neg] <;> omega, ?_⟩
      cases n <;> cases m
      · exact absurd rfl hnm
      · exact fun w => add_lt_ft d e hd he h1 h2 (by omega) w
      · exact fun w => add_lt_tf d e hd he h1 h2 (by omega) w
      · exact absurd rfl hnm
section
variable (x y : WI) (ho : x.Ok) (hp : y.Ok)
include ho hp
theorem refAdd_c : Ret 27 #[.int .i64 1, wv x, wv y] (.tuple #[wv (addF x y).1, .int .i64 (addF x y).2]) := by
  have g1 : Ret 19 #[wv x] (.bool x.form) := fun w => good_c x w
  have g2 : Ret 19 #[wv y] (.bool y.form) := fun w => good_c y w
  have c3 : Ret 40 #[wv x] (nv x.n (dgs x)) := fun w => from_c x ho w
  have c4 : Ret 40 #[wv y] (nv y.n (dgs y)) := fun w => from_c y hp w
  unfold addF
  cases hf : x.form
  · rw [hf] at g1
    exact do1_bad1 _ _ _ _ _ _ g1
  · rw [hf] at g1
    cases hg : y.form
    · rw [hg] at g2
      exact do1_bad2 _ _ _ _ _ _ g1 g2
    · rw [hg] at g2
      obtain ⟨on, v, h0, h1, he, cm⟩ := add_any x.n y.n (dgs x) (dgs y) (dgs_dig x) (dgs_dig y) (dgs_length x) (dgs_length y) (by rw [dgs_val ho]; exact (sz_lt ho).2) (by rw [dgs_val hp]; exact (sz_lt hp).2)
      rw [dgs_val ho, dgs_val hp, ← val_neg, ← val_neg] at he
      rw [Bool.and_self, if_pos rfl, ← he]
      have ct := ret_to on v h0 h1
      rcases toF_R on v h0 with ⟨e1, e2⟩ | ⟨e1, e2⟩
      · rw [e1] at ct; rw [e2]
        generalize mk (neg on v) = r at *
        exact do1_t x.n y.n on x.h x.l y.h y.l (dgs x) (dgs y) (digN 40 v) r.n r.h r.l (dgs_length x) (dgs_length y) g1 g2 c3 c4 cm (digN_length 40 v) ct
      · rw [e1] at ct; rw [e2]
        exact do1_f x.n y.n on x.h x.l y.h y.l (dgs x) (dgs y) (digN 40 v) false 0 0 (dgs_length x) (dgs_length y) g1 g2 c3 c4 cm (digN_length 40 v) ct
theorem refSub_c : Ret 27 #[.int .i64 2, wv x, wv y] (.tuple #[wv (subF x y).1, .int .i64 (subF x y).2]) := by
  have g1 : Ret 19 #[wv x] (.bool x.form) := fun w => good_c x w
  have g2 : Ret 19 #[wv y] (.bool y.form) := fun w => good_c y w
  have c3 : Ret 40 #[wv x] (nv x.n (dgs x)) := fun w => from_c x ho w
  have c4 : Ret 40 #[wv y] (nv y.n (dgs y)) := fun w => from_c y hp w
  unfold subF
  cases hf : x.form
  · rw [hf] at g1
    exact do2_bad1 _ _ _ _ _ _ g1
  · rw [hf] at g1
    cases hg : y.form
    · rw [hg] at g2
      exact do2_bad2 _ _ _ _ _ _ g1 g2
    · rw [hg] at g2
      obtain ⟨on, v, h0, h1, he, cm⟩ := add_any x.n (!y.n) (dgs x) (dgs y) (dgs_dig x) (dgs_dig y) (dgs_length x) (dgs_length y) (by rw [dgs_val ho]; exact (sz_lt ho).2) (by rw [dgs_val hp]; exact (sz_lt hp).2)
      rw [dgs_val ho, dgs_val hp, ← val_neg, show neg (!y.n) y.sz = - y.val by rw [val_neg]; cases y.n <;> simp [neg], ← Int.sub_eq_add_neg] at he
      rw [Bool.and_self, if_pos rfl, ← he]
      have ct := ret_to on v h0 h1
      rcases toF_R on v h0 with ⟨e1, e2⟩ | ⟨e1, e2⟩
      · rw [e1] at ct; rw [e2]
        generalize mk (neg on v) = r at *
        exact do2_t x.n y.n on x.h x.l y.h y.l (dgs x) (dgs y) (digN 40 v) r.n r.h r.l (dgs_length x) (dgs_length y) g1 g2 c3 c4 cm (digN_length 40 v) ct
      · rw [e1] at ct; rw [e2]
        exact do2_f x.n y.n on x.h x.l y.h y.l (dgs x) (dgs y) (digN 40 v) false 0 0 (dgs_length x) (dgs_length y) g1 g2 c3 c4 cm (digN_length 40 v) ct
theorem refMul_c : Ret 27 #[.int .i64 3, wv x, wv y] (.tuple #[wv (mulF x y).1, .int .i64 (mulF x y).2]) := by
  have g1 : Ret 19 #[wv x] (.bool x.form) := fun w => good_c x w
  have g2 : Ret 19 #[wv y] (.bool y.form) := fun w => good_c y w
  have c3 : Ret 40 #[wv x] (nv x.n (dgs x)) := fun w => from_c x ho w
  have c4 : Ret 40 #[wv y] (nv y.n (dgs y)) := fun w => from_c y hp w
  unfold mulF
  cases hf : x.form
  · rw [hf] at g1
    exact do3_bad1 _ _ _ _ _ _ g1
  · rw [hf] at g1
    cases hg : y.form
    · rw [hg] at g2
      exact do3_bad2 _ _ _ _ _ _ g1 g2
    · rw [hg] at g2
      have bx := sz_lt ho
      have bz := sz_lt hp
      have cm : Ret 45 #[nv x.n (dgs x), nv y.n (dgs y)] (nv (x.n != y.n) (digN 40 (x.sz * y.sz))) := fun w => by
        have := mul_d x.n y.n (dgs x) (dgs y) (dgs_dig x) (dgs_dig y) (dgs_length x) (dgs_length y) (by rw [dgs_val ho, pow16]; exact bx.2) (by rw [dgs_val hp, pow16]; exact bz.2) w
        rw [dgs_val ho, dgs_val hp] at this
        exact this
      have h0 : 0 ≤ x.sz * y.sz := Int.mul_nonneg bx.1 bz.1
      have h1 : x.sz * y.sz < 256 ^ 40 := Int.lt_trans (mul_lt' bx.1 bz.1 bx.2 bz.2) pow40
      have he : neg (x.n != y.n) (x.sz * y.sz) = x.val * y.val := by
        rw [val_neg, val_neg]
        cases x.n <;> cases y.n <;> simp [neg, Int.mul_neg, Int.neg_mul]
      generalize x.sz * y.sz = v at *
      generalize (x.n != y.n) = on at *
      rw [Bool.and_self, if_pos rfl, ← he]
      have ct := ret_to on v h0 h1
      rcases toF_R on v h0 with ⟨e1, e2⟩ | ⟨e1, e2⟩
      · rw [e1] at ct; rw [e2]
        generalize mk (neg on v) = r at *
        exact do3_t x.n y.n on x.h x.l y.h y.l (dgs x) (dgs y) (digN 40 v) r.n r.h r.l (dgs_length x) (dgs_length y) g1 g2 c3 c4 cm (digN_length 40 v) ct
      · rw [e1] at ct; rw [e2]
        exact do3_f x.n y.n on x.h x.l y.h y.l (dgs x) (dgs y) (digN 40 v) false 0 0 (dgs_length x) (dgs_length y) g1 g2 c3 c4 cm (digN_length 40 v) ct
theorem ref_div (hnz : nil2 y.h y.l = false) : Ret 42 #[nv x.n (dgs x), nv y.n (dgs y)] (.tuple #[nv false (digN 40 (x.sz / y.sz)), nv false (digN 40 (x.sz % y.sz))]) := fun w => by
  have h0 : 0 < y.sz := by
    have := (sz_lt hp).1
    have h2 : y.sz ≠ 0 := fun hh => by rw [(sz_zero hp).1 hh] at hnz; cases hnz
    omega
  have h39 : (340282366920938463463374607431768211456 : Int) < 256 ^ 39 := by decide
  have := divide_d x.n y.n (dgs x) (dgs y) (dgs_dig x) (dgs_dig y) (dgs_length x) (dgs_length y) (by rw [dgs_val hp]; exact h0) (by rw [dgs_val hp]; exact Int.lt_trans (sz_lt hp).2 h39) w
  rwa [dgs_val ho, dgs_val hp] at this
theorem refQuo_c : Ret 27 #[.int .i64 4, wv x, wv y] (.tuple #[wv (quoF x y).1, .int .i64 (quoF x y).2]) := by
  have g1 : Ret 19 #[wv x] (.bool x.form) := fun w => good_c x w
  have g2 : Ret 19 #[wv y] (.bool y.form) := fun w => good_c y w
  have c3 : Ret 40 #[wv x] (nv x.n (dgs x)) := fun w => from_c x ho w
  have c4 : Ret 40 #[wv y] (nv y.n (dgs y)) := fun w => from_c y hp w
  unfold quoF
  cases hf : x.form
  · rw [hf] at g1
    exact do4_bad1 _ _ _ _ _ _ g1
  · rw [hf] at g1
    cases hg : y.form
    · rw [hg] at g2
      exact do4_bad2 _ _ _ _ _ _ g1 g2
    · rw [hg] at g2
      cases hz : nil2 y.h y.l with
      | true =>
        obtain ⟨n, h, l⟩ := y
        obtain ⟨e1, e2⟩ := nil2_true hz
        dsimp only at e1 e2
        subst e1 e2
        exact do4_bad3 _ _ _ _ g1 g2
      | false =>
        have bx := sz_lt ho
        have bz := sz_lt hp
        have cm := ref_div x y ho hp hz
        have hxb := sz_bd ho hf
        have hpos : 0 < y.sz := by
          have h2 : y.sz ≠ 0 := fun hh => by rw [(sz_zero hp).1 hh] at hz; cases hz
          omega
        have q0 : 0 ≤ x.sz / y.sz := Int.ediv_nonneg bx.1 bz.1
        have q1 : x.sz / y.sz ≤ x.sz := Int.ediv_le_self _ bx.1
        have r0 : 0 ≤ x.sz % y.sz := Int.emod_nonneg _ (by omega)
        have r1 : x.sz % y.sz < y.sz := Int.emod_lt_of_pos _ hpos
        have hyb := sz_bd hp hg
        have he : neg (x.n != y.n) (x.sz / y.sz) = x.val.tdiv y.val := by
          rw [val_neg, val_neg, quo_sign, Int.tdiv_eq_ediv_of_nonneg bx.1]
        have hp40 := pow40
        have ct := ret_to (x.n != y.n) (x.sz / y.sz) (by omega) (by omega)
        rw [Bool.and_self, Bool.not_false, Bool.and_self, if_pos rfl, ← he]
        have e1 : toF (x.n != y.n) (x.sz / y.sz) = (mk (neg (x.n != y.n) (x.sz / y.sz)), true) := if_pos (by omega)
        rw [e1] at ct
        generalize mk (neg (x.n != y.n) (x.sz / y.sz)) = r at *
        by_cases hh : y.h = 0
        · have hl : ¬ y.l = 0 := fun hl => by rw [hh, hl] at hz; cases hz
          exact do4_tl x.n y.n x.h x.l y.h y.l (dgs x) (dgs y) _ _ r.n r.h r.l (dgs_length x) (dgs_length y) (beq_iff_eq.2 hh) (beq_eq_false_iff_ne.2 hl) g1 g2 c3 c4 cm (digN_length 40 _) (digN_length 40 _) ct
        · exact do4_th x.n y.n x.h x.l y.h y.l (dgs x) (dgs y) _ _ r.n r.h r.l (dgs_length x) (dgs_length y) (beq_eq_false_iff_ne.2 hh) g1 g2 c3 c4 cm (digN_length 40 _) (digN_length 40 _) ct
theorem refRem_c : Ret 27 #[.int .i64 5, wv x, wv y] (.tuple #[wv (remF x y).1, .int .i64 (remF x y).2]) := by
  have g1 : Ret 19 #[wv x] (.bool x.form) := fun w => good_c x w
  have g2 : Ret 19 #[wv y] (.bool y.form) := fun w => good_c y w
  have c3 : Ret 40 #[wv x] (nv x.n (dgs x)) := fun w => from_c x ho w
  have c4 : Ret 40 #[wv y] (nv y.n (dgs y)) := fun w => from_c y hp w
  unfold remF
  cases hf : x.form
  · rw [hf] at g1
    exact do5_bad1 _ _ _ _ _ _ g1
  · rw [hf] at g1
    cases hg : y.form
    · rw [hg] at g2
      exact do5_bad2 _ _ _ _ _ _ g1 g2
    · rw [hg] at g2
      cases hz : nil2 y.h y.l with
      | true =>
        obtain ⟨n, h, l⟩ := y
        obtain ⟨e1, e2⟩ := nil2_true hz
        dsimp only at e1 e2
        subst e1 e2
        exact do5_bad3 _ _ _ _ g1 g2
      | false =>
        have bx := sz_lt ho
        have bz := sz_lt hp
        have cm := ref_div x y ho hp hz
        have hxb := sz_bd ho hf
        have hpos : 0 < y.sz := by
          have h2 : y.sz ≠ 0 := fun hh => by rw [(sz_zero hp).1 hh] at hz; cases hz
          omega
        have q0 : 0 ≤ x.sz / y.sz := Int.ediv_nonneg bx.1 bz.1
        have q1 : x.sz / y.sz ≤ x.sz := Int.ediv_le_self _ bx.1
        have r0 : 0 ≤ x.sz % y.sz := Int.emod_nonneg _ (by omega)
        have r1 : x.sz % y.sz < y.sz := Int.emod_lt_of_pos _ hpos
        have hyb := sz_bd hp hg
        have he : neg x.n (x.sz % y.sz) = x.val.tmod y.val := by
          rw [val_neg, val_neg, rem_sign, Int.tmod_eq_emod_of_nonneg bx.1]
        have hp40 := pow40
        have ct := ret_to x.n (x.sz % y.sz) (by omega) (by omega)
        rw [Bool.and_self, Bool.not_false, Bool.and_self, if_pos rfl, ← he]
        have e1 : toF x.n (x.sz % y.sz) = (mk (neg x.n (x.sz % y.sz)), true) := if_pos (by omega)
        rw [e1] at ct
        generalize mk (neg x.n (x.sz % y.sz)) = r at *
        by_cases hh : y.h = 0
        · have hl : ¬ y.l = 0 := fun hl => by rw [hh, hl] at hz; cases hz
          exact do5_tl x.n y.n x.h x.l y.h y.l (dgs x) (dgs y) _ _ r.n r.h r.l (dgs_length x) (dgs_length y) (beq_iff_eq.2 hh) (beq_eq_false_iff_ne.2 hl) g1 g2 c3 c4 cm (digN_length 40 _) (digN_length 40 _) ct
        · exact do5_th x.n y.n x.h x.l y.h y.l (dgs x) (dgs y) _ _ r.n r.h r.l (dgs_length x) (dgs_length y) (beq_eq_false_iff_ne.2 hh) g1 g2 c3 c4 cm (digN_length 40 _) (digN_length 40 _) ct
end
end Go.Proofs.YtbfigpollacngaaDoor
