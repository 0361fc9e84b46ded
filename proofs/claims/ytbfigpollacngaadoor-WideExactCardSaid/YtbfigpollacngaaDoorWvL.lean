/- plain laws for the statements over package wide -/
import Derived.Test.YtbfigpollacngaaDoorWRing
namespace Go.Proofs.YtbfigpollacngaaDoor
open Go.RowKit
open Rf
open Wide

theorem wi_ext {x y : WI} (ho : x.Ok) (hp : y.Ok) (hf : x.form = true) (hg : y.form = true) (h : x.val = y.val) : x = y := by
  rw [← mk_of ho hf, ← mk_of hp hg, h]
theorem sgn_le {v : Int} : sgn v ≤ 0 ↔ v ≤ 0 := by unfold sgn; split <;> (try split) <;> omega
theorem sgn_zero {v : Int} : sgn v = 0 ↔ v = 0 := by unfold sgn; split <;> (try split) <;> omega
theorem cmpF_forms {x y : WI} (hf : x.form = true) (hg : y.form = true) : cmpF x y = sgn (x.val - y.val) := by
  unfold cmpF; rw [hf, hg]; rfl
theorem cmpF_bad {x y : WI} (h : ¬ (x.form = true ∧ y.form = true)) : cmpF x y = 0 := by
  unfold cmpF
  rw [if_neg (by rw [Bool.and_eq_true]; exact h)]
theorem cmpF_zero {x y : WI} (ho : x.Ok) (hp : y.Ok) (hf : x.form = true) (hg : y.form = true) : cmpF x y = 0 ↔ x = y := by
  rw [cmpF_forms hf hg, sgn_zero]
  exact ⟨fun h => wi_ext ho hp hf hg (by omega), fun h => by rw [h]; omega⟩
/-- the order of three -/
theorem order_law {x y z : WI} (hf : x.form = true) (hg : y.form = true) (hh : z.form = true) (h1 : cmpF x y ≤ 0) (h2 : cmpF y z ≤ 0) : cmpF x z ≤ 0 := by
  rw [cmpF_forms hf hg, sgn_le] at h1
  rw [cmpF_forms hg hh, sgn_le] at h2
  rw [cmpF_forms hf hh, sgn_le]
  omega
theorem sum_law {x y z : WI} (e : (addF x z).2 = 0) (f : (addF y z).2 = 0) : cmpF (addF x z).1 (addF y z).1 = cmpF x y := by
  obtain ⟨hf, _, i1, e1⟩ := addF_ok0 e
  obtain ⟨hg, _, i2, e2⟩ := addF_ok0 f
  rw [e1, e2, cmpF_forms (mk_form _ i1) (mk_form _ i2), cmpF_forms hf hg, mk_val, mk_val]
  congr 1
  omega
/-- a text tells its number -/
theorem text_form (x : WI) (ho : x.Ok) (hf : x.form = true) : parseF (textF x) = (x, 0) := by
  obtain ⟨s, hs, ex, vx⟩ := words x ho hf
  have hz : x.sz.toNat = s := by
    rw [ex]
    have := nw_sz s
    unfold WI.sz at *
    dsimp only at *
    omega
  have hnz : x.n = true → s ≠ 0 := by
    intro hn h0
    have h1 := form_neg hf hn
    rw [ex] at h1
    dsimp only at h1
    rw [nil2_nw, h0] at h1
    cases h1
  have hd : digOf (textF x) = digs s ∧ decide ((textF x).head? = some 45) = x.n := by
    unfold textF
    rw [if_pos hf, hz]
    cases hn : x.n with
    | true => exact ⟨rfl, rfl⟩
    | false =>
      rw [if_neg (by decide), List.nil_append]
      have hne : ¬ (digs s).head? = some 45 := by
        intro h
        have hall := digs_all s
        cases hd : digs s with
        | nil => exact digs_ne s hd
        | cons c r =>
          rw [hd] at h hall
          have : c = 45 := by simpa using h
          subst this
          rw [List.all_cons] at hall
          have : isDig 45 = false := by decide
          rw [this] at hall
          cases hall
      refine ⟨?_, decide_eq_false hne⟩
      unfold digOf
      rw [if_neg hne]
  have hi : isDigs (digs s) = true := by
    unfold isDigs
    rw [digs_all]
    cases h : digs s with
    | nil => exact absurd h (digs_ne s)
    | cons c r => rfl
  unfold parseF
  rw [hd.1, hd.2, hi, digs_val, if_neg, if_neg, if_pos hs, ← vx, mk_of ho hf]
  · have := digs_len 38 s (Nat.lt_trans hs (by decide))
    omega
  · rintro (h | ⟨h1, h2⟩)
    · cases h
    · have h0 : s = 0 := Classical.byContradiction fun hh => digs_head s hh h1
      refine h2 ?_
      unfold textF
      rw [if_pos hf, hz]
      cases hn : x.n with
      | true => exact absurd h0 (hnz hn)
      | false =>
        rw [h0, digs]
        rfl
theorem text_inj {x y : WI} (ho : x.Ok) (hp : y.Ok) (hf : x.form = true) (hg : y.form = true) : textF x = textF y ↔ x = y := by
  constructor
  · intro h
    have h1 := text_form x ho hf
    rw [h, text_form y hp hg] at h1
    exact (Prod.mk.inj h1).1.symm
  · intro h; rw [h]
theorem sgn_flip (v : Int) : sgn (-v) = - sgn v := by unfold sgn; split <;> split <;> (try split) <;> (try split) <;> omega
theorem back_law {x y : WI} (hf : x.form = true) (hg : y.form = true) : cmpF x y = - cmpF y x := by
  rw [cmpF_forms hf hg, cmpF_forms hg hf, ← sgn_flip]
  congr 1
  omega
theorem diff_law {x y : WI} (f : (subF x y).2 = 0) : signF (subF x y).1 = cmpF x y := by
  unfold subF at *
  by_cases hb : (x.form && y.form) = true
  · rw [if_pos hb] at f ⊢
    rw [Bool.and_eq_true] at hb
    obtain ⟨hi, e⟩ := R_ok0 f
    rw [e, cmpF_forms hb.1 hb.2]
    unfold signF
    rw [if_pos (mk_form _ hi), mk_val]
  · rw [if_neg hb] at f; cases f
theorem negneg {x : WI} (ho : x.Ok) (hf : x.form = true) : negF (negF x) = x := by
  have hi := In_neg (val_in ho hf)
  rw [negF_of hf, negF_of (mk_form _ hi), mk_val, Int.neg_neg, mk_of ho hf]
theorem negF_ok (x : WI) (ho : x.Ok) : (negF x).Ok := by
  by_cases hf : x.form = true
  · rw [negF_of hf]; exact mk_ok _ (In_neg (val_in ho hf))
  · unfold negF; rw [if_neg hf]; exact zero_ok
theorem subF_ok (x y : WI) : (subF x y).1.Ok := by
  unfold subF
  split
  · exact R_ok _
  · exact zero_ok
end Go.Proofs.YtbfigpollacngaaDoor
