/- the walks over package wide, first part -/
import Derived.Test.YtbfigpollacngaaDoorRows
import Derived.Test.YtbfigpollacngaaDoorLib
import Derived.Test.YtbfigpollacngaaDoorWv
import Derived.WalkKit
import Derived.Handy
import Derived.WalkSpells
import Derived.WalkLawsBesides
namespace Go.Proofs.YtbfigpollacngaaDoor
open Go.RowKit
open Rf
open Wide

def wv (x : WI) : Value := .agg #[.bool x.n, .int .u64 x.h, .int .u64 x.l]

/-- block b is a number of the call's own -/
def IsN (w : World) (b : Nat) (x : WI) : Prop := w.heap[b]? = some (.cells #[.bool x.n, .int .u64 x.h, .int .u64 x.l] 24 (0, 0))
section
variable {w w' : World} {b : Nat} {x : WI}
theorem IsN.lt (h : IsN w b x) : b < w.heap.size := lt_of_block h
theorem IsN.c0 (h : IsN w b x) : w.cell? ⟨b, 0, none⟩ = some (.bool x.n) := by unfold IsN at h; simp [World.cell?, h]
theorem IsN.c1 (h : IsN w b x) : w.cell? ⟨b, 1, none⟩ = some (.int .u64 x.h) := by unfold IsN at h; simp [World.cell?, h]
theorem IsN.c2 (h : IsN w b x) : w.cell? ⟨b, 2, none⟩ = some (.int .u64 x.l) := by unfold IsN at h; simp [World.cell?, h]
theorem IsN.f (h : IsN w b x) (i : Nat) : w.frozen? ⟨b, i, none⟩ = false := by unfold IsN at h; simp [World.frozen?, h]
theorem IsN.below (h : IsN w b x) (hb : Below w.heap.size w w') : IsN w' b x := (hb.block b h.lt).trans h
theorem IsN.new (w : World) (x : WI) : IsN (w.alloc (.cells #[.bool x.n, .int .u64 x.h, .int .u64 x.l] 24)) w.heap.size x := heap_alloc_new w _
theorem IsN.alloc (h : IsN w b x) (o : Obj) : IsN (w.alloc o) b x := h.below ((Below.refl _ _).alloc (Nat.le_refl _) o)
end
theorem size_alloc (w : World) (o : Obj) : (w.alloc o).heap.size = w.heap.size + 1 := by simp
theorem below1 (w : World) (o : Obj) : Below w.heap.size w (w.alloc o) := (Below.refl _ _).alloc (Nat.le_refl _) _
theorem below2 (w : World) (o p : Obj) : Below w.heap.size w ((w.alloc o).alloc p) := (below1 w o).alloc (by rw [size_alloc]; omega) _
theorem below3 (w : World) (o p q : Obj) : Below w.heap.size w (((w.alloc o).alloc p).alloc q) := (below2 w o p).alloc (by rw [size_alloc, size_alloc]; omega) _

theorem or_nil (h l : Int) (h0 : 0 ≤ h) (h1 : h ≤ 18446744073709551615) (l0 : 0 ≤ l) (l1 : l ≤ 18446744073709551615) : (bits .or .u64 h l == 0) = nil2 h l := by
  obtain ⟨m, rfl⟩ := Int.eq_ofNat_of_zero_le h0
  obtain ⟨k, rfl⟩ := Int.eq_ofNat_of_zero_le l0
  rw [u64_or_nat m k (by omega) (by omega)]
  cases e : nil2 (m : Int) (k : Int) with
  | true =>
    obtain ⟨a, b⟩ := nil2_true e
    have : m = 0 := by omega
    have : k = 0 := by omega
    subst m; subst k; rfl
  | false =>
    have := nil2_false e
    refine beq_eq_false_iff_ne.2 fun hh => ?_
    have h2 : m ||| k = 0 := by exact_mod_cast hh
    have := Nat.or_eq_zero_iff.1 h2
    omega

set_option maxHeartbeats 400000 in
theorem form_c (x : WI) (ho : x.Ok) (w : World) : Calls Tryd.prog 12 #[wv x] w fun e w' => e = .returned (.bool x.form) ∧ Below w.heap.size w w' := by
  obtain ⟨n, h, l⟩ := x
  obtain ⟨o1, o2, o3, o4⟩ := ho
  dsimp only at o1 o2 o3 o4
  have t : (bits .or .u64 h l != 0) = !nil2 h l := by rw [bne, or_nil h l o1 o2 o3 o4]
  unfold wv WI.form
  dsimp only
  by_cases h1 : h < 9223372036854775808
  · rw [decide_eq_true h1]
    cases n with
    | false =>
      go_enter Tryd.func12, Tryd.ntmps12
      go_wp2
      go_ret
      exact ⟨rfl, (Below.refl _ _).alloc (Nat.le_refl _) _⟩
    | true =>
      generalize nil2 h l = z at *
      cases z <;>
      · go_enter Tryd.func12, Tryd.ntmps12
        go_wp2
        go_ret
        exact ⟨rfl, (Below.refl _ _).alloc (Nat.le_refl _) _⟩
  · rw [decide_eq_false h1]
    go_enter Tryd.func12, Tryd.ntmps12
    go_wp2
    go_ret
    exact ⟨rfl, (Below.refl _ _).alloc (Nat.le_refl _) _⟩

set_option maxHeartbeats 400000 in
theorem made_c (n : Bool) (h l : Int) (o1 : 0 ≤ h) (o2 : h ≤ 18446744073709551615) (o3 : 0 ≤ l) (o4 : l ≤ 18446744073709551615) (w : World) :
    Calls Tryd.prog 38 #[.bool n, .int .u64 h, .int .u64 l] w fun e w' => e = .returned (wv (made n h l)) ∧ Below w.heap.size w w' := by
  have t : (bits .or .u64 h l != 0) = !nil2 h l := by rw [bne, or_nil h l o1 o2 o3 o4]
  unfold wv made
  dsimp only
  generalize nil2 h l = z at *
  cases n <;> cases z <;>
  · go_enter Tryd.func38, Tryd.ntmps38
    go_wp2
    go_returns
    exact ⟨rfl, (Below.refl _ _).alloc (Nat.le_refl _) _⟩

theorem ofWord_c (n : Int) (w : World) : Calls Tryd.prog 21 #[.int .u64 n] w fun e w' => e = .returned (wv ⟨false, 0, n⟩) ∧ Below w.heap.size w w' := by
  unfold wv
  go_enter Tryd.func21, Tryd.ntmps21
  go_wp2
  go_returns
  exact ⟨rfl, (Below.refl _ _).alloc (Nat.le_refl _) _⟩
end Go.Proofs.YtbfigpollacngaaDoor
