/-
  DERIVED. GIVEN WITH THE SEED: THE CARDS: each row of YtjjgbillihedgaaGreatDoorRows.lean that lists a variable, with what it lists TIED to the program's text (the seventh form; the later family's looks); each row that meets fmt, with fmt's text TOLD by the authors' own Lean function (tested against real Go, not proved from fmt's source: count such statements apart). THE CARD IS WHAT COUNTS. Prove the row's statement (the work); the ties are given (YtjjgbillihedgaaGreatDoorTie.lean); close each card by the builder's one call (the guide's Derived/Test/ToyasCard.lean, 'card_holds'). Laid BY PROGRAM, IN A SANDBOX (cutbox-door.mjs). By AI agents, Wed Nov 11 2026. No macro, syntax, notation, axiom, sorry.
-/
import Derived.Test.YtjjgbillihedgaaGreatDoorRows
import GoSem.ClaimSeven
namespace Go.Proofs.YtjjgbillihedgaaGreatDoor
namespace Rows

/-- THE TIED CARD OF 'retrofitlaw33.TaleExact'. -/
def taleExactCard : Claim7 := { stood := { row := taleExactRow, standIns := [], harness := (true, "97abc0a527ece63ef0cbad5848dc11698947ff9aa3bd34ad2b98e6d4387ef722"), looks := true }, kinds := [], alts := [], laidByText := true, laidKinds := [.data, .data, .data, .data, .sentinel, .sentinel, .pinned], laidTests := true, laidLooks := .later }
def TaleExactCardSaid : Prop := Claim7.holds Tryz.pinned (.plain (OpenSpec.ofChange taleExactSpec)) taleExactCard

/-- THE TIED CARD OF 'retrofitlaw33.TaleTexts'. -/
def taleTextsCard : Claim7 := { stood := { row := taleTextsRow, standIns := [], harness := (true, "97abc0a527ece63ef0cbad5848dc11698947ff9aa3bd34ad2b98e6d4387ef722"), looks := true }, kinds := [], alts := [], laidByText := true, laidKinds := [.data, .data, .data, .data, .sentinel, .sentinel, .pinned], laidTests := true, laidLooks := .later }
def TaleTextsCardSaid : Prop := Claim7.holds Tryz.pinned (.plain (OpenSpec.ofChange taleTextsSpec)) taleTextsCard

/-- THE TIED CARD OF 'retrofitlaw33.TaleBack'. -/
def taleBackCard : Claim7 := { stood := { row := taleBackRow, standIns := [], harness := (true, "97abc0a527ece63ef0cbad5848dc11698947ff9aa3bd34ad2b98e6d4387ef722"), looks := true }, kinds := [], alts := [], laidByText := true, laidKinds := [.data, .data, .data, .data, .sentinel, .sentinel, .pinned], laidTests := true, laidLooks := .later }
def TaleBackCardSaid : Prop := Claim7.holds Tryz.pinned (.plain (OpenSpec.ofChange taleBackSpec)) taleBackCard

/-- THE SECOND FORM's CARD OF 'retrofitlaw33.TaleExact'. -/
def taleExactUptoCard : Claim7 := { stood := { row := taleExactUptoRow, standIns := [], harness := (true, "97abc0a527ece63ef0cbad5848dc11698947ff9aa3bd34ad2b98e6d4387ef722"), looks := true }, kinds := [], alts := [], laidByText := true, laidKinds := [.data, .data, .data, .data, .sentinel, .sentinel, .pinned], laidTests := true, laidLooks := .later }
def TaleExactUptoCardSaid : Prop := Claim7.holds Tryz.pinned (.plain (OpenSpec.upto taleExactSpec)) taleExactUptoCard

/-- THE SECOND FORM's CARD OF 'retrofitlaw33.TaleTexts'. -/
def taleTextsUptoCard : Claim7 := { stood := { row := taleTextsUptoRow, standIns := [], harness := (true, "97abc0a527ece63ef0cbad5848dc11698947ff9aa3bd34ad2b98e6d4387ef722"), looks := true }, kinds := [], alts := [], laidByText := true, laidKinds := [.data, .data, .data, .data, .sentinel, .sentinel, .pinned], laidTests := true, laidLooks := .later }
def TaleTextsUptoCardSaid : Prop := Claim7.holds Tryz.pinned (.plain (OpenSpec.upto taleTextsSpec)) taleTextsUptoCard

/-- THE SECOND FORM's CARD OF 'retrofitlaw33.TaleBack'. -/
def taleBackUptoCard : Claim7 := { stood := { row := taleBackUptoRow, standIns := [], harness := (true, "97abc0a527ece63ef0cbad5848dc11698947ff9aa3bd34ad2b98e6d4387ef722"), looks := true }, kinds := [], alts := [], laidByText := true, laidKinds := [.data, .data, .data, .data, .sentinel, .sentinel, .pinned], laidTests := true, laidLooks := .later }
def TaleBackUptoCardSaid : Prop := Claim7.holds Tryz.pinned (.plain (OpenSpec.upto taleBackSpec)) taleBackUptoCard
end Rows
end Go.Proofs.YtjjgbillihedgaaGreatDoor
