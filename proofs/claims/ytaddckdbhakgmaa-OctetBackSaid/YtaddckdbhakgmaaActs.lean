/- a row of acts that came in -/
import Derived.Test.YtaddckdbhakgmaaOctLaw
import Derived.Deep.Slices
import Derived.Deep.Fields
import Derived.ChangeSame
import Derived.OpenShut
namespace Go.Proofs.Ytaddckdbhakgmaa
open Go.RowKit
open Rf

structure ActD where
  K : Int
  W : Int
  N : Int
  S : ByteArray

def ActD.Ok (x : ActD) : Prop := -9223372036854775808 ≤ x.K ∧ x.K ≤ 9223372036854775807 ∧ -9223372036854775808 ≤ x.W ∧ x.W ≤ 9223372036854775807 ∧ 0 ≤ x.N ∧ x.N ≤ 18446744073709551615 ∧ x.S.size ≤ maxLen

/-- what the walk is told of the row -/
def RowAct (w : World) (a : Option Addr) (len : Nat) (z : Nat → ActD) : Prop :=
  ∀ i, i < len → ∃ b off, a = some ⟨b, off, none⟩ ∧ b < w.heap.size ∧ (z i).Ok ∧ w.cell? ⟨b, off + i * 4, none⟩ = some (.int .i64 (z i).K) ∧ w.cell? ⟨b, off + i * 4 + 1, none⟩ = some (.int .i64 (z i).W) ∧
    w.cell? ⟨b, off + i * 4 + 2, none⟩ = some (.int .u64 (z i).N) ∧ w.cell? ⟨b, off + i * 4 + 3, none⟩ = some (.string (z i).S)

theorem RowAct.below {w w' : World} {a : Option Addr} {len : Nat} {z : Nat → ActD} (h : RowAct w a len z) (hb : Below w.heap.size w w') : RowAct w' a len z := by
  intro i hi
  obtain ⟨b, off, ha, hl, ho, h0, h1, h2, h3⟩ := h i hi
  exact ⟨b, off, ha, Nat.lt_of_lt_of_le hl hb.size, ho, (hb.cell (p := ⟨b, off + i * 4, none⟩) hl).trans h0, (hb.cell (p := ⟨b, off + i * 4 + 1, none⟩) hl).trans h1, (hb.cell (p := ⟨b, off + i * 4 + 2, none⟩) hl).trans h2, (hb.cell (p := ⟨b, off + i * 4 + 3, none⟩) hl).trans h3⟩
end Go.Proofs.Ytaddckdbhakgmaa
