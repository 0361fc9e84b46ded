/-
  No cell of these rows narrows 'for every input' (looked for: loops, veiled, ifaces, maps, wideKeys, modest, calm, conditions, laid).
  DERIVED. THE GIVEN ROWS OF THIS SEAT. 5 by the template 'for every input the law returns true; each argument reads behind the call as it read before'; 0 by the template 'total and deterministic' (their statements: YtbfigpollacngaaTotals.lean).
  GIVEN WITH THE SEED: the statements are not yours to turn. If you find one false, say at which input.
  Laid BY PROGRAM, IN A SANDBOX (cutbox-rows.mjs): the forced cells as the released guide's own fill.sh prints them over the translation 48d0eb7c80b4c0a8… (all of the seat's roots in one cut). By AI agents, Wed Nov 11 2026. No macro, syntax, notation, axiom, sorry.
-/
import Derived.Test.YtbfigpollacngaaChecked
import GoSem.Claim
import GoSem.ClaimJoined
import GoSem.ClaimMapViews
import Derived.JoinedTies
import Derived.KernelRfl
namespace Go.Proofs.Ytbfigpollacngaa
/- THE CELL 'sum', in the pinned program and in every row, IS THE sha256 OF THE DUMP (.gsa) THAT YtbfigpollacngaaProg.lean LOADS. Nothing in Lean hashes anything: it is a label: what it is worth is what the hold of that sum in a sandbox is worth. -/
noncomputable def Try.pinned : Pinned := { name := "ytbfigpollacngaa", sum := "48d0eb7c80b4c0a83cf6d825426120a464baf910b13ac2e6ee5eeeed705bad1b", checked := Try.checked }
namespace Rows
def none {H : Type} : Left H := { results := [], args := [] }

/-- 'retrofitlaw04.FieldReads': WHATEVER THE INPUT: true; the input reads as it did. -/
def fieldReadsSpec : ChangeSpec := { name := "fieldReads", fn := fun _ => fun
  | [d1, d2, d3] => { results := [.lit (.bool true)], args := [d1, d2, d3] }
  | _ => none }
def fieldReadsRow : OpenClaim := { program := "ytbfigpollacngaa", sum := "48d0eb7c80b4c0a83cf6d825426120a464baf910b13ac2e6ee5eeeed705bad1b", func := "retrofit/retrofitlaw04.FieldReads", spec := "fieldReads", inPlace := ["math/bits.Add64", "math/bits.Sub64"], unfollowed := true, recurses := true, apart := false }
def FieldReadsSaid : Prop := fieldReadsRow.holds Try.pinned (OpenSpec.ofChange fieldReadsSpec)

/-- ITS FALSE NEIGHBOUR: 'it returns false'. Refute it at one input. -/
def fieldReadsWrong : ChangeSpec := { name := "fieldReads", fn := fun _ => fun
  | [d1, d2, d3] => { results := [.lit (.bool false)], args := [d1, d2, d3] }
  | _ => none }
def FieldReadsWrongFalsely : Prop := fieldReadsRow.holds Try.pinned (OpenSpec.ofChange fieldReadsWrong)

/-- 'retrofitlaw04.FieldExact': WHATEVER THE INPUT: true; the input reads as it did. -/
def fieldExactSpec : ChangeSpec := { name := "fieldExact", fn := fun _ => fun
  | [d1, d2] => { results := [.lit (.bool true)], args := [d1, d2] }
  | _ => none }
def fieldExactRow : OpenClaim := { program := "ytbfigpollacngaa", sum := "48d0eb7c80b4c0a83cf6d825426120a464baf910b13ac2e6ee5eeeed705bad1b", func := "retrofit/retrofitlaw04.FieldExact", spec := "fieldExact", inPlace := ["math/bits.Add64", "math/bits.Sub64"], unfollowed := true, recurses := true, apart := false }
def FieldExactSaid : Prop := fieldExactRow.holds Try.pinned (OpenSpec.ofChange fieldExactSpec)

/-- ITS FALSE NEIGHBOUR: 'it returns false'. Refute it at one input. -/
def fieldExactWrong : ChangeSpec := { name := "fieldExact", fn := fun _ => fun
  | [d1, d2] => { results := [.lit (.bool false)], args := [d1, d2] }
  | _ => none }
def FieldExactWrongFalsely : Prop := fieldExactRow.holds Try.pinned (OpenSpec.ofChange fieldExactWrong)

/-- 'retrofitlaw04.FieldBack': WHATEVER THE INPUT: true; the input reads as it did. -/
def fieldBackSpec : ChangeSpec := { name := "fieldBack", fn := fun _ => fun
  | [d1, d2, d3] => { results := [.lit (.bool true)], args := [d1, d2, d3] }
  | _ => none }
def fieldBackRow : OpenClaim := { program := "ytbfigpollacngaa", sum := "48d0eb7c80b4c0a83cf6d825426120a464baf910b13ac2e6ee5eeeed705bad1b", func := "retrofit/retrofitlaw04.FieldBack", spec := "fieldBack", inPlace := ["math/bits.Add64", "math/bits.Sub64"], unfollowed := true, recurses := true, apart := false }
def FieldBackSaid : Prop := fieldBackRow.holds Try.pinned (OpenSpec.ofChange fieldBackSpec)

/-- ITS FALSE NEIGHBOUR: 'it returns false'. Refute it at one input. -/
def fieldBackWrong : ChangeSpec := { name := "fieldBack", fn := fun _ => fun
  | [d1, d2, d3] => { results := [.lit (.bool false)], args := [d1, d2, d3] }
  | _ => none }
def FieldBackWrongFalsely : Prop := fieldBackRow.holds Try.pinned (OpenSpec.ofChange fieldBackWrong)

/-- 'retrofitlaw04.FieldOrder': WHATEVER THE INPUT: true; the input reads as it did. -/
def fieldOrderSpec : ChangeSpec := { name := "fieldOrder", fn := fun _ => fun
  | [d1, d2, d3] => { results := [.lit (.bool true)], args := [d1, d2, d3] }
  | _ => none }
def fieldOrderRow : OpenClaim := { program := "ytbfigpollacngaa", sum := "48d0eb7c80b4c0a83cf6d825426120a464baf910b13ac2e6ee5eeeed705bad1b", func := "retrofit/retrofitlaw04.FieldOrder", spec := "fieldOrder", inPlace := ["math/bits.Add64", "math/bits.Sub64"], unfollowed := true, recurses := true, apart := false }
def FieldOrderSaid : Prop := fieldOrderRow.holds Try.pinned (OpenSpec.ofChange fieldOrderSpec)

/-- ITS FALSE NEIGHBOUR: 'it returns false'. Refute it at one input. -/
def fieldOrderWrong : ChangeSpec := { name := "fieldOrder", fn := fun _ => fun
  | [d1, d2, d3] => { results := [.lit (.bool false)], args := [d1, d2, d3] }
  | _ => none }
def FieldOrderWrongFalsely : Prop := fieldOrderRow.holds Try.pinned (OpenSpec.ofChange fieldOrderWrong)

/-- 'retrofitlaw04.FieldSpan': WHATEVER THE INPUT: true; the input reads as it did. -/
def fieldSpanSpec : ChangeSpec := { name := "fieldSpan", fn := fun _ => fun
  | [d] => { results := [.lit (.bool true)], args := [d] }
  | _ => none }
def fieldSpanRow : OpenClaim := { program := "ytbfigpollacngaa", sum := "48d0eb7c80b4c0a83cf6d825426120a464baf910b13ac2e6ee5eeeed705bad1b", func := "retrofit/retrofitlaw04.FieldSpan", spec := "fieldSpan", inPlace := ["math/bits.Add64", "math/bits.Sub64"], unfollowed := true, recurses := true, apart := false }
def FieldSpanSaid : Prop := fieldSpanRow.holds Try.pinned (OpenSpec.ofChange fieldSpanSpec)

/-- ITS FALSE NEIGHBOUR: 'it returns false'. Refute it at one input. -/
def fieldSpanWrong : ChangeSpec := { name := "fieldSpan", fn := fun _ => fun
  | [d] => { results := [.lit (.bool false)], args := [d] }
  | _ => none }
def FieldSpanWrongFalsely : Prop := fieldSpanRow.holds Try.pinned (OpenSpec.ofChange fieldSpanWrong)

/- THE SECOND FORM. 'bulk': how many values and letters a reading holds, each counted each time it is reached (what is shared counts as often as it is met; a slice's spare places count too). A statement '..UptoSaid' is the law's where the arguments, and the package variables that the reading takes, are together of bulk at most 1048576: NARROWER than '..Said'. Prove '..Said' where nothing that the law and all that it calls make is longer than what came in: it says more and counts as full. Else prove '..UptoSaid'. A law counts once. -/
mutual
def uptoBulk {H : Type} : DataW H → Nat
  | .lit (.string bytes) => bytes.length + 1
  | .lit _ => 1
  | .nil => 1
  | .ptr d => uptoBulk d + 1
  | .slice elems spare => uptoBulkAll elems + uptoBulkAll spare + 1
  | .agg parts => uptoBulkAll parts + 1
  | .iface _ d => uptoBulk d + 1
  | .map entries => uptoBulkEntries entries + 1
  | .held _ => 1
def uptoBulkAll {H : Type} : List (DataW H) → Nat
  | [] => 0
  | d :: r => uptoBulk d + uptoBulkAll r
def uptoBulkEntries {H : Type} : List (Lit × DataW H) → Nat
  | [] => 0
  | x :: r => uptoBulkEntry x + uptoBulkEntries r
def uptoBulkEntry {H : Type} : Lit × DataW H → Nat
  | (.string bytes, d) => bytes.length + uptoBulk d + 1
  | (_, d) => uptoBulk d + 1
 end
def uptoSmall : (H : Type) → List (DataW H) → Bool := fun _ ds => decide (uptoBulkAll ds ≤ 1048576)
def OpenSpec.upto (s : _root_.Go.ChangeSpec) : _root_.Go.OpenSpec := { _root_.Go.OpenSpec.ofChange s with cond := some uptoSmall }

/-- 'retrofitlaw04.FieldReads', WHERE WHAT IT READS IS OF BULK AT MOST 1048576: true; the input reads as it did. -/
def fieldReadsUptoRow : OpenClaim := { program := "ytbfigpollacngaa", sum := "48d0eb7c80b4c0a83cf6d825426120a464baf910b13ac2e6ee5eeeed705bad1b", func := "retrofit/retrofitlaw04.FieldReads", spec := "fieldReads", inPlace := ["math/bits.Add64", "math/bits.Sub64"], unfollowed := true, recurses := true, apart := false, narrowed := true }
def FieldReadsUptoSaid : Prop := fieldReadsUptoRow.holds Try.pinned (OpenSpec.upto fieldReadsSpec)

/-- 'retrofitlaw04.FieldExact', WHERE WHAT IT READS IS OF BULK AT MOST 1048576: true; the input reads as it did. -/
def fieldExactUptoRow : OpenClaim := { program := "ytbfigpollacngaa", sum := "48d0eb7c80b4c0a83cf6d825426120a464baf910b13ac2e6ee5eeeed705bad1b", func := "retrofit/retrofitlaw04.FieldExact", spec := "fieldExact", inPlace := ["math/bits.Add64", "math/bits.Sub64"], unfollowed := true, recurses := true, apart := false, narrowed := true }
def FieldExactUptoSaid : Prop := fieldExactUptoRow.holds Try.pinned (OpenSpec.upto fieldExactSpec)

/-- 'retrofitlaw04.FieldBack', WHERE WHAT IT READS IS OF BULK AT MOST 1048576: true; the input reads as it did. -/
def fieldBackUptoRow : OpenClaim := { program := "ytbfigpollacngaa", sum := "48d0eb7c80b4c0a83cf6d825426120a464baf910b13ac2e6ee5eeeed705bad1b", func := "retrofit/retrofitlaw04.FieldBack", spec := "fieldBack", inPlace := ["math/bits.Add64", "math/bits.Sub64"], unfollowed := true, recurses := true, apart := false, narrowed := true }
def FieldBackUptoSaid : Prop := fieldBackUptoRow.holds Try.pinned (OpenSpec.upto fieldBackSpec)

/-- 'retrofitlaw04.FieldOrder', WHERE WHAT IT READS IS OF BULK AT MOST 1048576: true; the input reads as it did. -/
def fieldOrderUptoRow : OpenClaim := { program := "ytbfigpollacngaa", sum := "48d0eb7c80b4c0a83cf6d825426120a464baf910b13ac2e6ee5eeeed705bad1b", func := "retrofit/retrofitlaw04.FieldOrder", spec := "fieldOrder", inPlace := ["math/bits.Add64", "math/bits.Sub64"], unfollowed := true, recurses := true, apart := false, narrowed := true }
def FieldOrderUptoSaid : Prop := fieldOrderUptoRow.holds Try.pinned (OpenSpec.upto fieldOrderSpec)

/-- 'retrofitlaw04.FieldSpan', WHERE WHAT IT READS IS OF BULK AT MOST 1048576: true; the input reads as it did. -/
def fieldSpanUptoRow : OpenClaim := { program := "ytbfigpollacngaa", sum := "48d0eb7c80b4c0a83cf6d825426120a464baf910b13ac2e6ee5eeeed705bad1b", func := "retrofit/retrofitlaw04.FieldSpan", spec := "fieldSpan", inPlace := ["math/bits.Add64", "math/bits.Sub64"], unfollowed := true, recurses := true, apart := false, narrowed := true }
def FieldSpanUptoSaid : Prop := fieldSpanUptoRow.holds Try.pinned (OpenSpec.upto fieldSpanSpec)

end Rows
end Go.Proofs.Ytbfigpollacngaa
