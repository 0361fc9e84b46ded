/- the walk over the number of a text -/
import Derived.Test.YtbfigpollacngaaDoorWvC
import Derived.Test.YtbfigpollacngaaDoorWvM
import Derived.Deep.RegionHeld3
import Derived.Deep.DrawnRows
namespace Go.Proofs.YtbfigpollacngaaDoor
open Go.RowKit
open Rf
open Wide
attribute [local go_sem ↓] Go.wp_at_zero Go.wp_at_succ

theorem nw_form {v : Nat} (h : v < 170141183460469231731687303715884105728) : (nw v).form = true := by
  unfold WI.form nw
  dsimp only
  rw [decide_eq_true (by omega)]
  rfl
theorem nw_val (v : Nat) : (nw v).val = v := by
  have := nw_sz v
  unfold WI.val
  exact this
theorem mk_nw (v : Nat) : mk (v : Int) = nw v := by
  have := made_nw false v
  unfold neg at this
  rw [if_neg (by decide)] at this
  rw [← this]
  rfl
def RN (v : Nat) : WI × Int := if v < 170141183460469231731687303715884105728 then (nw v, 0) else (zero, 3)
theorem R_nat (v : Nat) : R (v : Int) = RN v := by
  unfold RN
  split
  · rw [R_in (by rw [In_iff]; omega), mk_nw]
  · rw [R_out (by rw [In_iff]; omega)]
theorem mulN {v u : Nat} (hv : v < 170141183460469231731687303715884105728) (hu : u < 170141183460469231731687303715884105728) : mulF (nw v) (nw u) = RN (v * u) := by
  unfold mulF
  rw [nw_form hv, nw_form hu, nw_val, nw_val, ← Int.natCast_mul, R_nat]
  rfl
theorem addN {v u : Nat} (hv : v < 170141183460469231731687303715884105728) (hu : u < 170141183460469231731687303715884105728) : addF (nw v) (nw u) = RN (v + u) := by
  unfold addF
  rw [nw_form hv, nw_form hu, nw_val, nw_val, ← Int.natCast_add, R_nat]
  rfl
/-- the digits behind the sign -/
def digOf (l : List UInt8) : List UInt8 := if l.head? = some 45 then l.tail else l
def parseF (l : List UInt8) : WI × Int :=
  if isDigs (digOf l) = false ∨ ((digOf l).head? = some 48 ∧ l ≠ [48]) then (zero, 4)
  else if 39 < (digOf l).length then (zero, 3)
  else if valD (digOf l) < 170141183460469231731687303715884105728 then (mk (neg (decide (l.head? = some 45)) (valD (digOf l))), 0) else (zero, 3)
theorem trimPrefix_dig (l : List UInt8) : Lib.trimPrefix l [45] = digOf l := by
  unfold Lib.trimPrefix Lib.hasPrefix digOf
  cases l with
  | nil => rfl
  | cons c r =>
    by_cases h : c = 45
    · subst h; rfl
    · have : ([45] : List UInt8).isPrefixOf (c :: r) = false := by simp [List.isPrefixOf]; exact fun e => h e.symm
      rw [this]
      simp [h]
theorem digOf_lt (l : List UInt8) : decide ((digOf l).length < l.length) = decide (l.head? = some 45) := by
  unfold digOf
  cases l with
  | nil => rfl
  | cons c r => by_cases h : c = 45 <;> simp [h]

theorem valD_le (l m : List UInt8) : valD l ≤ valD (l ++ m) := by
  induction m generalizing l with
  | nil => rw [List.append_nil]; exact Nat.le_refl _
  | cons c m ih =>
    have h := ih (l ++ [c])
    rw [List.append_assoc, valD_snoc] at h
    exact Nat.le_trans (by omega) h
theorem valD_take (D : List UInt8) (j : Nat) : valD (D.take j) ≤ valD D := by
  have h := valD_le (D.take j) (D.drop j)
  rwa [List.take_append_drop] at h
theorem valD_next (D : List UInt8) (j : Nat) (hj : j < D.length) : valD (D.take (j + 1)) = valD (D.take j) * 10 + (D[j].toNat - 48) := by
  rw [List.take_succ_eq_append_getElem hj, valD_snoc]
theorem ofWord_nw (n : Nat) (h : n < 18446744073709551616) : (⟨false, 0, (n : Int)⟩ : WI) = nw n := by
  unfold nw
  congr 1 <;> omega

end Go.Proofs.YtbfigpollacngaaDoor
