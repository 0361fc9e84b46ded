/- great whole numbers, and the Int that each is -/
import Derived.WalkKit
namespace Go.Proofs.YtmikhngmclngiaaDoor
namespace Wide

structure WI where
  n : Bool
  h : Int
  l : Int

def WI.Ok (x : WI) : Prop := 0 ≤ x.h ∧ x.h ≤ 18446744073709551615 ∧ 0 ≤ x.l ∧ x.l ≤ 18446744073709551615
/-- 0, as two words -/
def nil2 (h l : Int) : Bool := (h == 0) && (l == 0)
def WI.form (x : WI) : Bool := decide (x.h < 9223372036854775808) && (!x.n || !nil2 x.h x.l)
def WI.sz (x : WI) : Int := x.h * 18446744073709551616 + x.l
def WI.val (x : WI) : Int := if x.n = true then -x.sz else x.sz
def zero : WI := ⟨false, 0, 0⟩
def made (n : Bool) (h l : Int) : WI := ⟨n && !nil2 h l, h, l⟩
def neg (n : Bool) (s : Int) : Int := if n = true then -s else s
/-- the number of a value -/
def mk (v : Int) : WI := ⟨decide (v < 0), (v.natAbs : Int) / 18446744073709551616, (v.natAbs : Int) % 18446744073709551616⟩
/-- there is a number of it -/
def In (v : Int) : Bool := decide (-170141183460469231731687303715884105728 < v) && decide (v < 170141183460469231731687303715884105728)
/-- a result, and its error -/
def R (v : Int) : WI × Int := if In v = true then (mk v, 0) else (zero, 3)

theorem nil2_true {h l : Int} (e : nil2 h l = true) : h = 0 ∧ l = 0 := by simpa [nil2] using e
theorem nil2_false {h l : Int} (e : nil2 h l = false) : ¬ (h = 0 ∧ l = 0) := by
  intro ⟨a, b⟩; subst a; subst b; cases e
theorem In_iff {v : Int} : In v = true ↔ -170141183460469231731687303715884105728 < v ∧ v < 170141183460469231731687303715884105728 := by simp [In]

theorem mk_ok (v : Int) (hv : In v = true) : (mk v).Ok := by
  rw [In_iff] at hv
  unfold mk WI.Ok
  dsimp only
  omega
theorem mk_form (v : Int) (hv : In v = true) : (mk v).form = true := by
  rw [In_iff] at hv
  have h1 : (v.natAbs : Int) / 18446744073709551616 < 9223372036854775808 := by omega
  have e : (mk v).form = (decide ((v.natAbs : Int) / 18446744073709551616 < 9223372036854775808) && (!decide (v < 0) || !nil2 ((v.natAbs : Int) / 18446744073709551616) ((v.natAbs : Int) % 18446744073709551616))) := rfl
  rw [e, decide_eq_true h1]
  by_cases hn : v < 0
  · have : nil2 ((v.natAbs : Int) / 18446744073709551616) ((v.natAbs : Int) % 18446744073709551616) = false := by
      cases h : nil2 ((v.natAbs : Int) / 18446744073709551616) ((v.natAbs : Int) % 18446744073709551616) with
      | false => rfl
      | true => exfalso; have := nil2_true h; omega
    rw [this, decide_eq_true hn]; rfl
  · rw [decide_eq_false hn]; rfl
theorem mk_val (v : Int) : (mk v).val = v := by
  by_cases hn : v < 0
  · simp only [WI.val, WI.sz, mk, decide_eq_true hn, if_true]; omega
  · simp only [WI.val, WI.sz, mk, decide_eq_false hn, Bool.false_eq_true, if_false]; omega

theorem form_lt {x : WI} (hf : x.form = true) : x.h < 9223372036854775808 := by
  unfold WI.form at hf; rw [Bool.and_eq_true] at hf; exact of_decide_eq_true hf.1
theorem form_neg {x : WI} (hf : x.form = true) (hn : x.n = true) : nil2 x.h x.l = false := by
  unfold WI.form at hf; rw [Bool.and_eq_true] at hf
  have h2 := hf.2
  rw [hn] at h2
  revert h2
  cases nil2 x.h x.l <;> decide

theorem made_mk (n : Bool) (h l : Int) (h0 : 0 ≤ h) (l0 : 0 ≤ l) (l1 : l ≤ 18446744073709551615) : made n h l = mk (neg n (h * 18446744073709551616 + l)) := by
  cases n with
  | false =>
    have e : ¬ (h * 18446744073709551616 + l < 0) := by omega
    simp only [made, mk, neg, Bool.false_and, Bool.false_eq_true, if_false, decide_eq_false e, WI.mk.injEq, true_and]
    omega
  | true =>
    cases hz : nil2 h l with
    | true =>
      obtain ⟨rfl, rfl⟩ := nil2_true hz
      rfl
    | false =>
      have := nil2_false hz
      have e : -(h * 18446744073709551616 + l) < 0 := by omega
      simp only [made, mk, neg, hz, Bool.not_false, Bool.and_true, if_true, decide_eq_true e, WI.mk.injEq, true_and]
      omega
theorem mk_of {x : WI} (ho : x.Ok) (hf : x.form = true) : mk x.val = x := by
  obtain ⟨n, h, l⟩ := x
  obtain ⟨o1, o2, o3, o4⟩ := ho
  have e := made_mk n h l o1 o3 o4
  have : made n h l = ⟨n, h, l⟩ := by
    cases n with
    | false => rfl
    | true => have := form_neg hf rfl; simp only at this; simp only [made, this]; rfl
  rw [this] at e
  exact e.symm
theorem sz_bd {x : WI} (ho : x.Ok) (hf : x.form = true) : 0 ≤ x.sz ∧ x.sz < 170141183460469231731687303715884105728 := by
  obtain ⟨o1, o2, o3, o4⟩ := ho
  have := form_lt hf
  unfold WI.sz
  omega
theorem val_in {x : WI} (ho : x.Ok) (hf : x.form = true) : In x.val = true := by
  have := sz_bd ho hf
  rw [In_iff]
  unfold WI.val
  split <;> omega
theorem sz_zero {x : WI} (ho : x.Ok) : x.sz = 0 ↔ nil2 x.h x.l = true := by
  obtain ⟨o1, o2, o3, o4⟩ := ho
  unfold WI.sz
  constructor
  · intro h
    have h1 : x.h = 0 := by omega
    have h2 : x.l = 0 := by omega
    rw [h1, h2]; rfl
  · intro h
    obtain ⟨h1, h2⟩ := nil2_true h
    omega

/-- the functions of the package, as Lean's -/
def addF (x y : WI) : WI × Int := if (x.form && y.form) = true then R (x.val + y.val) else (zero, 1)
def subF (x y : WI) : WI × Int := if (x.form && y.form) = true then R (x.val - y.val) else (zero, 1)
def mulF (x y : WI) : WI × Int := if (x.form && y.form) = true then R (x.val * y.val) else (zero, 1)
def quoF (x y : WI) : WI × Int := if (x.form && y.form && !nil2 y.h y.l) = true then (mk (x.val.tdiv y.val), 0) else (zero, 1)
def remF (x y : WI) : WI × Int := if (x.form && y.form && !nil2 y.h y.l) = true then (mk (x.val.tmod y.val), 0) else (zero, 1)
def negF (x : WI) : WI := if x.form = true then mk (-x.val) else zero
def sgn (v : Int) : Int := if v < 0 then -1 else if v = 0 then 0 else 1
def cmpF (x y : WI) : Int := if (x.form && y.form) = true then sgn (x.val - y.val) else 0
def signF (x : WI) : Int := if x.form = true then sgn x.val else 0
end Wide
end Go.Proofs.YtmikhngmclngiaaDoor
