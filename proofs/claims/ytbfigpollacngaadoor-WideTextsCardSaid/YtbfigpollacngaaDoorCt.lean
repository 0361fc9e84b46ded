/- contracts as one word each -/
import Derived.Test.YtbfigpollacngaaDoorWvW
namespace Go.Proofs.YtbfigpollacngaaDoor
open Go.RowKit

/-- a contract: what is returned; all that lay is as it was -/
def Ret (f : FuncId) (args : Array Value) (v : Value) : Prop := ∀ w : World, Calls Tryd.prog f args w fun e w' => e = .returned v ∧ Below w.heap.size w w'
theorem Ret.on {f : FuncId} {args : Array Value} {v : Value} (h : Ret f args v) (w : World) : Calls Tryd.prog f args w fun e w' => e = .returned v ∧ Below w.heap.size w w' := h w
theorem Ret.of {f : FuncId} {args : Array Value} {v v' : Value} (h : Ret f args v) (e : v = v') : Ret f args v' := e ▸ h
def Quiet (f : FuncId) (args : Array Value) (v : Value) (w : World) : Prop := Calls Tryd.prog f args w fun e w' => e = .returned v ∧ w = w'
theorem Quiet.on {f : FuncId} {args : Array Value} {v : Value} {w : World} (h : Quiet f args v w) : Calls Tryd.prog f args w fun e w' => e = .returned v ∧ w = w' := h
end Go.Proofs.YtbfigpollacngaaDoor
