/- sets of ids: what all walks use -/
import Derived.Test.YtmikhngmclngiaaDoorRows
import Derived.Test.YtmikhngmclngiaaDoorLib
import Derived.WalkKit
import Derived.Handy
import Derived.WalkSpells
import Derived.WalkLawsBesides
import Derived.BigQuiet
import Derived.Deep.QuietTactic
import Derived.Deep.RegionHeld3
import Derived.Deep.Cut
import Derived.IntWalk
namespace Go.Proofs.YtmikhngmclngiaaDoor
open Go.RowKit
open Rf

theorem size_alloc (w : World) (o : Obj) : (w.alloc o).heap.size = w.heap.size + 1 := by simp
theorem below1 (w : World) (o : Obj) : Below w.heap.size w (w.alloc o) := (Below.refl _ _).alloc (Nat.le_refl _) _
theorem below_up {a b c : World} {B C : Nat} (h : Below B a b) (hC : B ≤ C) (k : Below C b c) : Below B a c := h.trans (k.mono hC)
theorem below_drewN {B k : Nat} {a w : World} (h : Below B a w) : Below B a (w.drewN k) := h.trans ⟨rfl, rfl, rfl, Nat.le_refl _, fun _ _ => rfl⟩
theorem below_drewed {B : Nat} {a w : World} (h : Below B a w) : Below B a w.drew := h.trans ⟨rfl, rfl, rfl, Nat.le_refl _, fun _ _ => rfl⟩
/-- a contract: what is returned; all that lay is as it was -/
def Ret (f : FuncId) (args : Array Value) (v : Value) : Prop := ∀ w : World, Calls Tryd.prog f args w fun e w' => e = .returned v ∧ Below w.heap.size w w'
theorem Ret.on {f : FuncId} {args : Array Value} {v : Value} (h : Ret f args v) (w : World) : Calls Tryd.prog f args w fun e w' => e = .returned v ∧ Below w.heap.size w w' := h w
/-- a contract: what is returned; the world is as it was -/
def Still (f : FuncId) (args : Array Value) (v : Value) : Prop := ∀ w : World, Calls Tryd.prog f args w fun e w' => e = .returned v ∧ w = w'
theorem Still.on {f : FuncId} {args : Array Value} {v : Value} (h : Still f args v) (w : World) : Calls Tryd.prog f args w fun e w' => e = .returned v ∧ w = w' := h w
/-- a block of the call's own -/
def IsC (w : World) (b : Nat) (T : TypeId) (cs : Array Value) : Prop := w.heap[b]? = some (.cells cs T (0, 0))
section
variable {w w' : World} {b : Nat} {T : TypeId} {cs : Array Value}
theorem IsC.lt (h : IsC w b T cs) : b < w.heap.size := lt_of_block h
theorem isC_of (hb : Below w.heap.size w w') (h : IsC w b T cs) : IsC w' b T cs := (hb.block b h.lt).trans h
theorem IsC.alloc (h : IsC w b T cs) (o : Obj) : IsC (w.alloc o) b T cs := isC_of ((Below.refl _ _).alloc (Nat.le_refl _) o) h
theorem IsC.new (w : World) (T : TypeId) (cs : Array Value) : IsC (w.alloc (.cells cs T)) w.heap.size T cs := heap_alloc_new w _
theorem IsC.set_other {c i : Nat} {v : Value} (h : IsC w b T cs) (hne : b ≠ c) : IsC (w.setCell ⟨c, i, none⟩ v) b T cs := by
  unfold IsC at *
  show (w.heap.modify c _)[b]? = _
  rw [Array.getElem?_modify, if_neg (fun hh => hne hh.symm)]
  exact h
theorem IsC.set (h : IsC w b T cs) (i : Nat) (v : Value) : IsC (w.setCell ⟨b, i, none⟩ v) b T (cs.setIfInBounds i v) := by
  unfold IsC at *
  show (w.heap.modify b _)[b]? = _
  rw [Array.getElem?_modify, if_pos rfl, h]
  rfl
theorem IsC.cell (h : IsC w b T cs) (i : Nat) : w.cell? ⟨b, i, none⟩ = cs[i]? := by unfold IsC at h; simp [World.cell?, h]
theorem IsC.f (h : IsC w b T cs) (i : Nat) : w.frozen? ⟨b, i, none⟩ = false := by unfold IsC at h; simp [World.frozen?, h]
theorem IsC.drewN {k : Nat} (h : IsC w b T cs) : IsC (w.drewN k) b T cs := h
theorem IsC.drew (h : IsC w b T cs) : IsC w.drew b T cs := h
end
end Go.Proofs.YtmikhngmclngiaaDoor
