/- plain laws for WideParts -/
import Derived.Test.YtbfigpollacngaaDoorWvL
namespace Go.Proofs.YtbfigpollacngaaDoor
open Go.RowKit
open Rf
open Wide

theorem neg_in {b : Bool} {s : Nat} (h : s < 170141183460469231731687303715884105728) : In (neg b (s : Int)) = true := by
  rw [In_iff]; unfold neg; split <;> omega
theorem neg_lt {b : Bool} {s : Nat} : decide (neg b (s : Int) < 0) = (b && decide (s ≠ 0)) := by
  unfold neg
  cases b with
  | false => rw [if_neg (by decide)]; simp
  | true =>
    rw [if_pos rfl]
    by_cases h : s = 0
    · subst h; rfl
    · rw [decide_eq_true (by omega), decide_eq_true h]; rfl
theorem mk_n (v : Int) : (mk v).n = decide (v < 0) := rfl
theorem quo_val (n m : Bool) (s t : Nat) : (neg n (s : Int)).tdiv (neg m (t : Int)) = neg (n != m) ((s / t : Nat) : Int) := by
  rw [quo_sign]; rfl
theorem rem_val (n m : Bool) (s t : Nat) : (neg n (s : Int)).tmod (neg m (t : Int)) = neg n ((s % t : Nat) : Int) := by
  rw [rem_sign]; rfl
theorem mul_val (n m : Bool) (a t : Nat) : neg (n != m) (a : Int) * neg m (t : Int) = neg n ((a * t : Nat) : Int) := by
  unfold neg
  rw [Int.natCast_mul]
  cases n <;> cases m <;> simp [Int.neg_mul, Int.mul_neg]
theorem add_neg (n : Bool) (a b : Nat) : neg n (a : Int) + neg n (b : Int) = neg n ((a + b : Nat) : Int) := by
  unfold neg
  cases n <;> simp <;> omega
theorem mulF_mk {a b : Int} (ha : In a = true) (hb : In b = true) : mulF (mk a) (mk b) = R (a * b) := by
  unfold mulF
  rw [mk_form a ha, mk_form b hb, mk_val, mk_val]
  rfl
/-- what is made positive -/
theorem abs_law (b : Bool) (s : Nat) (h : s < 170141183460469231731687303715884105728) : (if (mk (neg b (s : Int))).n = true then negF (mk (neg b (s : Int))) else mk (neg b (s : Int))) = mk (s : Int) := by
  have hi := neg_in (b := b) h
  rw [mk_n, neg_lt, negF_of (mk_form _ hi), mk_val]
  cases b with
  | false => rw [Bool.false_and, if_neg (by decide)]; rfl
  | true =>
    rw [Bool.true_and]
    by_cases h0 : s = 0
    · subst h0; rfl
    · rw [decide_eq_true h0, if_pos rfl]
      unfold neg
      rw [if_pos rfl, Int.neg_neg]
theorem parts_law (x y : WI) (ho : x.Ok) (hp : y.Ok) (hf : x.form = true) (hg : y.form = true) (hy0 : nil2 y.h y.l = false) :
    (quoF x y).2 = 0 ∧ (remF x y).2 = 0 ∧ (mulF (quoF x y).1 y).2 = 0 ∧ addF (mulF (quoF x y).1 y).1 (remF x y).1 = (x, 0) ∧
    cmpF (if (remF x y).1.n = true then negF (remF x y).1 else (remF x y).1) (if y.n = true then negF y else y) = -1 ∧
    (((remF x y).1.n = true ∧ signF (remF x y).1 = -1 ∧ x.n = true) ∨ ((remF x y).1.n = false ∧ signF (remF x y).1 = 0) ∨ ((remF x y).1.n = false ∧ signF (remF x y).1 = 1 ∧ x.n = false)) ∧ (quoF x y).1.Ok ∧ (remF x y).1.Ok := by
  obtain ⟨s, hs, ex, vx⟩ := words x ho hf
  obtain ⟨t, ht, ey, vy⟩ := words y hp hg
  have hb : (x.form && y.form && !nil2 y.h y.l) = true := by rw [hf, hg, hy0]; rfl
  have ht0 : t ≠ 0 := by
    intro h
    rw [ey] at hy0
    dsimp only at hy0
    rw [nil2_nw, h] at hy0
    cases hy0
  have hq : quoF x y = (mk (neg (x.n != y.n) ((s / t : Nat) : Int)), 0) := by
    unfold quoF; rw [if_pos hb, vx, vy, quo_val]
  have hr : remF x y = (mk (neg x.n ((s % t : Nat) : Int)), 0) := by
    unfold remF; rw [if_pos hb, vx, vy, rem_val]
  have hst : s / t < 170141183460469231731687303715884105728 := Nat.lt_of_le_of_lt (Nat.div_le_self _ _) hs
  have hmt : s % t < t := Nat.mod_lt _ (by omega)
  have hmt2 := Nat.lt_trans hmt ht
  have hle : s / t * t ≤ s := Nat.div_mul_le_self s t
  have hyv : y = mk (neg y.n (t : Int)) := by rw [← vy]; exact (mk_of hp hg).symm
  have hxv : mk (neg x.n (s : Int)) = x := by rw [← vx]; exact mk_of ho hf
  have hm : mulF (quoF x y).1 y = (mk (neg x.n ((s / t * t : Nat) : Int)), 0) := by
    rw [hq, hyv]
    have e : (mk (neg y.n (t : Int))).n = y.n := by rw [← hyv]
    rw [e, mulF_mk (neg_in hst) (neg_in ht), mul_val, R_in (neg_in (Nat.lt_of_le_of_lt hle hs))]
  have hval : ∀ k : Nat, k < 170141183460469231731687303715884105728 → In (k : Int) = true := fun k hk => neg_in (b := false) hk
  refine ⟨by rw [hq], by rw [hr], by rw [hm], ?_, ?_, ?_, by rw [hq]; exact mk_ok _ (neg_in hst), by rw [hr]; exact mk_ok _ (neg_in hmt2)⟩
  · rw [hm, hr, addF_mk (neg_in (Nat.lt_of_le_of_lt hle hs)) (neg_in hmt2), add_neg]
    have e : s / t * t + s % t = s := by rw [Nat.mul_comm]; exact Nat.div_add_mod s t
    rw [e, R_in (neg_in hs), hxv]
  · rw [hr, abs_law _ _ hmt2]
    have e : (if y.n = true then negF y else y) = mk (t : Int) := by
      have h := abs_law y.n t ht
      rw [← hyv] at h
      exact h
    rw [e, cmpF_forms (mk_form _ (hval _ hmt2)) (mk_form _ (hval _ ht)), mk_val, mk_val]
    exact sgn_neg (by omega)
  · rw [hr]
    dsimp only
    have hsg : signF (mk (neg x.n ((s % t : Nat) : Int))) = sgn (neg x.n ((s % t : Nat) : Int)) := by
      unfold signF; rw [if_pos (mk_form _ (neg_in hmt2)), mk_val]
    rw [mk_n, neg_lt, hsg]
    by_cases h0 : s % t = 0
    · rw [h0]
      refine .inr (.inl ⟨by simp, ?_⟩)
      unfold neg
      cases x.n <;> rfl
    · cases hn : x.n with
      | true =>
        refine .inl ⟨by rw [decide_eq_true h0]; rfl, ?_, rfl⟩
        unfold neg
        rw [if_pos rfl]
        exact sgn_neg (by omega)
      | false =>
        refine .inr (.inr ⟨rfl, ?_, rfl⟩)
        unfold neg
        rw [if_neg (by decide)]
        exact sgn_pos (by omega)
theorem back_sum {x y : WI} (ho : x.Ok) (e : (addF x y).2 = 0) : subF (addF x y).1 y = (x, 0) := by
  obtain ⟨hf, hg, hi, e1⟩ := addF_ok0 e
  unfold subF
  rw [e1, mk_form _ hi, hg, if_pos (by rfl), mk_val]
  have : x.val + y.val - y.val = x.val := by omega
  rw [this, R_in (val_in ho hf), mk_of ho hf]
theorem addF_err {x y : WI} (hf : x.form = true) (hg : y.form = true) : (addF x y).2 = 0 ∨ (addF x y).2 = 3 := by
  have e : addF x y = R (x.val + y.val) := by unfold addF; rw [hf, hg]; rfl
  rw [e]
  unfold R
  split
  · exact .inl rfl
  · exact .inr rfl
theorem addF_bad {x y : WI} (h : ¬ (x.form = true ∧ y.form = true)) : addF x y = (zero, 1) := by
  unfold addF
  rw [if_neg (by rw [Bool.and_eq_true]; exact h)]
theorem zero_div {x y : WI} (h : nil2 y.h y.l = true) : quoF x y = (zero, 1) ∧ remF x y = (zero, 1) := by
  unfold quoF remF
  rw [h]
  simp
theorem sign_nil {y : WI} (hp : y.Ok) (hg : y.form = true) (h : nil2 y.h y.l = true) : signF y = 0 := by
  unfold signF
  rw [if_pos hg, sgn_val y hp hg, if_pos h]
theorem sign_ne {y : WI} (hp : y.Ok) (hg : y.form = true) (h : nil2 y.h y.l = false) : ¬ signF y = 0 := by
  unfold signF
  rw [if_pos hg, sgn_val y hp hg, h]
  cases y.n <;> simp
theorem size_set3 (w : World) (b : Nat) (v0 v1 v2 : Value) : (((w.setCell ⟨b, 0, none⟩ v0).setCell ⟨b, 1, none⟩ v1).setCell ⟨b, 2, none⟩ v2).heap.size = w.heap.size := by simp [World.setCell]
end Go.Proofs.YtbfigpollacngaaDoor
