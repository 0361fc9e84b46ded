/-
  No cell of these rows narrows 'for every input' (looked for: loops, veiled, ifaces, maps, wideKeys, modest, calm, conditions, laid).
  DERIVED. THE GIVEN ROWS OF THIS SEAT. 7 by the template 'for every input the law returns true; each argument reads behind the call as it read before'; 0 by the template 'total and deterministic' (their statements: YtaddckdbhakgmaaTotals.lean).
  GIVEN WITH THE SEED: the statements are not yours to turn. If you find one false, say at which input.
  Laid BY PROGRAM, IN A SANDBOX (cutbox-rows.mjs): the forced cells as the released guide's own fill.sh prints them over the translation 4e05c65c5dfc9c48… (all of the seat's roots in one cut). By AI agents, Wed Nov 11 2026. No macro, syntax, notation, axiom, sorry.
-/
import Derived.Test.YtaddckdbhakgmaaChecked
import GoSem.Claim
import GoSem.ClaimJoined
import GoSem.ClaimMapViews
import Derived.JoinedTies
import Derived.KernelRfl
namespace Go.Proofs.Ytaddckdbhakgmaa
/- THE CELL 'sum', in the pinned program and in every row, IS THE sha256 OF THE DUMP (.gsa) THAT YtaddckdbhakgmaaProg.lean LOADS. Nothing in Lean hashes anything: it is a label: what it is worth is what the hold of that sum in a sandbox is worth. -/
noncomputable def Try.pinned : Pinned := { name := "ytaddckdbhakgmaa", sum := "4e05c65c5dfc9c48ab138a3f91bc2ef96f2109faca3948d13b4db224083637ad", checked := Try.checked }
namespace Rows
def none {H : Type} : Left H := { results := [], args := [] }

/-- 'retrofitlaw03.SealExact': WHATEVER THE INPUT: true; the input reads as it did. -/
def sealExactSpec : ChangeSpec := { name := "sealExact", fn := fun _ => fun
  | [d1, d2] => { results := [.lit (.bool true)], args := [d1, d2] }
  | _ => none }
def sealExactRow : OpenClaim := { program := "ytaddckdbhakgmaa", sum := "4e05c65c5dfc9c48ab138a3f91bc2ef96f2109faca3948d13b4db224083637ad", func := "retrofit/retrofitlaw03.SealExact", spec := "sealExact", apart := false }
def SealExactSaid : Prop := sealExactRow.holds Try.pinned (OpenSpec.ofChange sealExactSpec)

/-- ITS FALSE NEIGHBOUR: 'it returns false'. Refute it at one input. -/
def sealExactWrong : ChangeSpec := { name := "sealExact", fn := fun _ => fun
  | [d1, d2] => { results := [.lit (.bool false)], args := [d1, d2] }
  | _ => none }
def SealExactWrongFalsely : Prop := sealExactRow.holds Try.pinned (OpenSpec.ofChange sealExactWrong)

/-- 'retrofitlaw03.SealRolls': WHATEVER THE INPUT: true; the input reads as it did. -/
def sealRollsSpec : ChangeSpec := { name := "sealRolls", fn := fun _ => fun
  | [d1, d2, d3, d4, d5] => { results := [.lit (.bool true)], args := [d1, d2, d3, d4, d5] }
  | _ => none }
def sealRollsRow : OpenClaim := { program := "ytaddckdbhakgmaa", sum := "4e05c65c5dfc9c48ab138a3f91bc2ef96f2109faca3948d13b4db224083637ad", func := "retrofit/retrofitlaw03.SealRolls", spec := "sealRolls", apart := false }
def SealRollsSaid : Prop := sealRollsRow.holds Try.pinned (OpenSpec.ofChange sealRollsSpec)

/-- ITS FALSE NEIGHBOUR: 'it returns false'. Refute it at one input. -/
def sealRollsWrong : ChangeSpec := { name := "sealRolls", fn := fun _ => fun
  | [d1, d2, d3, d4, d5] => { results := [.lit (.bool false)], args := [d1, d2, d3, d4, d5] }
  | _ => none }
def SealRollsWrongFalsely : Prop := sealRollsRow.holds Try.pinned (OpenSpec.ofChange sealRollsWrong)

/-- 'retrofitlaw03.SealTells': WHATEVER THE INPUT: true; the input reads as it did. -/
def sealTellsSpec : ChangeSpec := { name := "sealTells", fn := fun _ => fun
  | [d1, d2, d3] => { results := [.lit (.bool true)], args := [d1, d2, d3] }
  | _ => none }
def sealTellsRow : OpenClaim := { program := "ytaddckdbhakgmaa", sum := "4e05c65c5dfc9c48ab138a3f91bc2ef96f2109faca3948d13b4db224083637ad", func := "retrofit/retrofitlaw03.SealTells", spec := "sealTells", apart := false }
def SealTellsSaid : Prop := sealTellsRow.holds Try.pinned (OpenSpec.ofChange sealTellsSpec)

/-- ITS FALSE NEIGHBOUR: 'it returns false'. Refute it at one input. -/
def sealTellsWrong : ChangeSpec := { name := "sealTells", fn := fun _ => fun
  | [d1, d2, d3] => { results := [.lit (.bool false)], args := [d1, d2, d3] }
  | _ => none }
def SealTellsWrongFalsely : Prop := sealTellsRow.holds Try.pinned (OpenSpec.ofChange sealTellsWrong)

/-- 'retrofitlaw03.SealSplits': WHATEVER THE INPUT: true; the input reads as it did. -/
def sealSplitsSpec : ChangeSpec := { name := "sealSplits", fn := fun _ => fun
  | [d1, d2] => { results := [.lit (.bool true)], args := [d1, d2] }
  | _ => none }
def sealSplitsRow : OpenClaim := { program := "ytaddckdbhakgmaa", sum := "4e05c65c5dfc9c48ab138a3f91bc2ef96f2109faca3948d13b4db224083637ad", func := "retrofit/retrofitlaw03.SealSplits", spec := "sealSplits", apart := false }
def SealSplitsSaid : Prop := sealSplitsRow.holds Try.pinned (OpenSpec.ofChange sealSplitsSpec)

/-- ITS FALSE NEIGHBOUR: 'it returns false'. Refute it at one input. -/
def sealSplitsWrong : ChangeSpec := { name := "sealSplits", fn := fun _ => fun
  | [d1, d2] => { results := [.lit (.bool false)], args := [d1, d2] }
  | _ => none }
def SealSplitsWrongFalsely : Prop := sealSplitsRow.holds Try.pinned (OpenSpec.ofChange sealSplitsWrong)

/-- 'retrofitlaw02.OctetWrites': WHATEVER THE INPUT: true; the input reads as it did. -/
def octetWritesSpec : ChangeSpec := { name := "octetWrites", fn := fun _ => fun
  | [d] => { results := [.lit (.bool true)], args := [d] }
  | _ => none }
def octetWritesRow : OpenClaim := { program := "ytaddckdbhakgmaa", sum := "4e05c65c5dfc9c48ab138a3f91bc2ef96f2109faca3948d13b4db224083637ad", func := "retrofit/retrofitlaw02.OctetWrites", spec := "octetWrites", apart := false }
def OctetWritesSaid : Prop := octetWritesRow.holds Try.pinned (OpenSpec.ofChange octetWritesSpec)

/-- ITS FALSE NEIGHBOUR: 'it returns false'. Refute it at one input. -/
def octetWritesWrong : ChangeSpec := { name := "octetWrites", fn := fun _ => fun
  | [d] => { results := [.lit (.bool false)], args := [d] }
  | _ => none }
def OctetWritesWrongFalsely : Prop := octetWritesRow.holds Try.pinned (OpenSpec.ofChange octetWritesWrong)

/-- 'retrofitlaw02.OctetReads': WHATEVER THE INPUT: true; the input reads as it did. -/
def octetReadsSpec : ChangeSpec := { name := "octetReads", fn := fun _ => fun
  | [d1, d2, d3] => { results := [.lit (.bool true)], args := [d1, d2, d3] }
  | _ => none }
def octetReadsRow : OpenClaim := { program := "ytaddckdbhakgmaa", sum := "4e05c65c5dfc9c48ab138a3f91bc2ef96f2109faca3948d13b4db224083637ad", func := "retrofit/retrofitlaw02.OctetReads", spec := "octetReads", apart := false }
def OctetReadsSaid : Prop := octetReadsRow.holds Try.pinned (OpenSpec.ofChange octetReadsSpec)

/-- ITS FALSE NEIGHBOUR: 'it returns false'. Refute it at one input. -/
def octetReadsWrong : ChangeSpec := { name := "octetReads", fn := fun _ => fun
  | [d1, d2, d3] => { results := [.lit (.bool false)], args := [d1, d2, d3] }
  | _ => none }
def OctetReadsWrongFalsely : Prop := octetReadsRow.holds Try.pinned (OpenSpec.ofChange octetReadsWrong)

/-- 'retrofitlaw02.OctetBack': WHATEVER THE INPUT: true; the input reads as it did. -/
def octetBackSpec : ChangeSpec := { name := "octetBack", fn := fun _ => fun
  | [d] => { results := [.lit (.bool true)], args := [d] }
  | _ => none }
def octetBackRow : OpenClaim := { program := "ytaddckdbhakgmaa", sum := "4e05c65c5dfc9c48ab138a3f91bc2ef96f2109faca3948d13b4db224083637ad", func := "retrofit/retrofitlaw02.OctetBack", spec := "octetBack", apart := false }
def OctetBackSaid : Prop := octetBackRow.holds Try.pinned (OpenSpec.ofChange octetBackSpec)

/-- ITS FALSE NEIGHBOUR: 'it returns false'. Refute it at one input. -/
def octetBackWrong : ChangeSpec := { name := "octetBack", fn := fun _ => fun
  | [d] => { results := [.lit (.bool false)], args := [d] }
  | _ => none }
def OctetBackWrongFalsely : Prop := octetBackRow.holds Try.pinned (OpenSpec.ofChange octetBackWrong)

/- THE SECOND FORM. 'bulk': how many values and letters a reading holds, each counted each time it is reached (what is shared counts as often as it is met; a slice's spare places count too). A statement '..UptoSaid' is the law's where the arguments, and the package variables that the reading takes, are together of bulk at most 1048576: NARROWER than '..Said'. Prove '..Said' where nothing that the law and all that it calls make is longer than what came in: it says more and counts as full. Else prove '..UptoSaid'. A law counts once. -/
mutual
def uptoBulk {H : Type} : DataW H → Nat
  | .lit (.string bytes) => bytes.length + 1
  | .lit _ => 1
  | .nil => 1
  | .ptr d => uptoBulk d + 1
  | .slice elems spare => uptoBulkAll elems + uptoBulkAll spare + 1
  | .agg parts => uptoBulkAll parts + 1
  | .iface _ d => uptoBulk d + 1
  | .map entries => uptoBulkEntries entries + 1
  | .held _ => 1
def uptoBulkAll {H : Type} : List (DataW H) → Nat
  | [] => 0
  | d :: r => uptoBulk d + uptoBulkAll r
def uptoBulkEntries {H : Type} : List (Lit × DataW H) → Nat
  | [] => 0
  | x :: r => uptoBulkEntry x + uptoBulkEntries r
def uptoBulkEntry {H : Type} : Lit × DataW H → Nat
  | (.string bytes, d) => bytes.length + uptoBulk d + 1
  | (_, d) => uptoBulk d + 1
 end
def uptoSmall : (H : Type) → List (DataW H) → Bool := fun _ ds => decide (uptoBulkAll ds ≤ 1048576)
def OpenSpec.upto (s : _root_.Go.ChangeSpec) : _root_.Go.OpenSpec := { _root_.Go.OpenSpec.ofChange s with cond := some uptoSmall }

/-- 'retrofitlaw03.SealExact', WHERE WHAT IT READS IS OF BULK AT MOST 1048576: true; the input reads as it did. -/
def sealExactUptoRow : OpenClaim := { program := "ytaddckdbhakgmaa", sum := "4e05c65c5dfc9c48ab138a3f91bc2ef96f2109faca3948d13b4db224083637ad", func := "retrofit/retrofitlaw03.SealExact", spec := "sealExact", apart := false, narrowed := true }
def SealExactUptoSaid : Prop := sealExactUptoRow.holds Try.pinned (OpenSpec.upto sealExactSpec)

/-- 'retrofitlaw03.SealRolls', WHERE WHAT IT READS IS OF BULK AT MOST 1048576: true; the input reads as it did. -/
def sealRollsUptoRow : OpenClaim := { program := "ytaddckdbhakgmaa", sum := "4e05c65c5dfc9c48ab138a3f91bc2ef96f2109faca3948d13b4db224083637ad", func := "retrofit/retrofitlaw03.SealRolls", spec := "sealRolls", apart := false, narrowed := true }
def SealRollsUptoSaid : Prop := sealRollsUptoRow.holds Try.pinned (OpenSpec.upto sealRollsSpec)

/-- 'retrofitlaw03.SealTells', WHERE WHAT IT READS IS OF BULK AT MOST 1048576: true; the input reads as it did. -/
def sealTellsUptoRow : OpenClaim := { program := "ytaddckdbhakgmaa", sum := "4e05c65c5dfc9c48ab138a3f91bc2ef96f2109faca3948d13b4db224083637ad", func := "retrofit/retrofitlaw03.SealTells", spec := "sealTells", apart := false, narrowed := true }
def SealTellsUptoSaid : Prop := sealTellsUptoRow.holds Try.pinned (OpenSpec.upto sealTellsSpec)

/-- 'retrofitlaw03.SealSplits', WHERE WHAT IT READS IS OF BULK AT MOST 1048576: true; the input reads as it did. -/
def sealSplitsUptoRow : OpenClaim := { program := "ytaddckdbhakgmaa", sum := "4e05c65c5dfc9c48ab138a3f91bc2ef96f2109faca3948d13b4db224083637ad", func := "retrofit/retrofitlaw03.SealSplits", spec := "sealSplits", apart := false, narrowed := true }
def SealSplitsUptoSaid : Prop := sealSplitsUptoRow.holds Try.pinned (OpenSpec.upto sealSplitsSpec)

/-- 'retrofitlaw02.OctetWrites', WHERE WHAT IT READS IS OF BULK AT MOST 1048576: true; the input reads as it did. -/
def octetWritesUptoRow : OpenClaim := { program := "ytaddckdbhakgmaa", sum := "4e05c65c5dfc9c48ab138a3f91bc2ef96f2109faca3948d13b4db224083637ad", func := "retrofit/retrofitlaw02.OctetWrites", spec := "octetWrites", apart := false, narrowed := true }
def OctetWritesUptoSaid : Prop := octetWritesUptoRow.holds Try.pinned (OpenSpec.upto octetWritesSpec)

/-- 'retrofitlaw02.OctetReads', WHERE WHAT IT READS IS OF BULK AT MOST 1048576: true; the input reads as it did. -/
def octetReadsUptoRow : OpenClaim := { program := "ytaddckdbhakgmaa", sum := "4e05c65c5dfc9c48ab138a3f91bc2ef96f2109faca3948d13b4db224083637ad", func := "retrofit/retrofitlaw02.OctetReads", spec := "octetReads", apart := false, narrowed := true }
def OctetReadsUptoSaid : Prop := octetReadsUptoRow.holds Try.pinned (OpenSpec.upto octetReadsSpec)

/-- 'retrofitlaw02.OctetBack', WHERE WHAT IT READS IS OF BULK AT MOST 1048576: true; the input reads as it did. -/
def octetBackUptoRow : OpenClaim := { program := "ytaddckdbhakgmaa", sum := "4e05c65c5dfc9c48ab138a3f91bc2ef96f2109faca3948d13b4db224083637ad", func := "retrofit/retrofitlaw02.OctetBack", spec := "octetBack", apart := false, narrowed := true }
def OctetBackUptoSaid : Prop := octetBackUptoRow.holds Try.pinned (OpenSpec.upto octetBackSpec)

end Rows
end Go.Proofs.Ytaddckdbhakgmaa
