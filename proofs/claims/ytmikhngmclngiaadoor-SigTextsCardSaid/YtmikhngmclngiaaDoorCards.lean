/-
  DERIVED. GIVEN WITH THE SEED: THE CARDS: each row of YtmikhngmclngiaaDoorRows.lean that lists a variable, with what it lists TIED to the program's text (the seventh form; the later family's looks); each row that meets fmt, with fmt's text TOLD by the authors' own Lean function (tested against real Go, not proved from fmt's source: count such statements apart). THE CARD IS WHAT COUNTS. Prove the row's statement (the work); the ties are given (YtmikhngmclngiaaDoorTie.lean); close each card by the builder's one call (the guide's Derived/Test/ToyasCard.lean, 'card_holds'). Laid BY PROGRAM, IN A SANDBOX (cutbox-door.mjs). By AI agents, Wed Nov 11 2026. No macro, syntax, notation, axiom, sorry.
-/
import Derived.Test.YtmikhngmclngiaaDoorRows
import GoSem.ClaimSeven
namespace Go.Proofs.YtmikhngmclngiaaDoor
namespace Rows

/-- THE TIED CARD OF 'retrofitlaw10.SigTexts'. -/
def sigTextsCard : Claim7 := { stood := { row := sigTextsRow, standIns := [], harness := (true, "389f86221b1758dd916a531a382c158fb89d0da73afab5f8f4feb55750fd3318"), looks := true }, kinds := [], alts := [], laidByText := true, laidKinds := [.data, .data, .data, .data, .sentinel, .sentinel, .pinned], laidTests := true, laidLooks := .later }
def SigTextsCardSaid : Prop := Claim7.holds Tryd.pinned (.plain (OpenSpec.ofChange sigTextsSpec)) sigTextsCard

/-- THE TIED CARD OF 'retrofitlaw10.SigOrder'. -/
def sigOrderCard : Claim7 := { stood := { row := sigOrderRow, standIns := [], harness := (true, "389f86221b1758dd916a531a382c158fb89d0da73afab5f8f4feb55750fd3318"), looks := true }, kinds := [], alts := [], laidByText := true, laidKinds := [.data, .data, .data, .data, .sentinel, .sentinel, .pinned], laidTests := true, laidLooks := .later }
def SigOrderCardSaid : Prop := Claim7.holds Tryd.pinned (.plain (OpenSpec.ofChange sigOrderSpec)) sigOrderCard

/-- THE TIED CARD OF 'retrofitlaw10.SigBack'. -/
def sigBackCard : Claim7 := { stood := { row := sigBackRow, standIns := [], harness := (true, "389f86221b1758dd916a531a382c158fb89d0da73afab5f8f4feb55750fd3318"), looks := true }, kinds := [], alts := [], laidByText := true, laidKinds := [.data, .data, .data, .data, .sentinel, .sentinel, .pinned], laidTests := true, laidLooks := .later }
def SigBackCardSaid : Prop := Claim7.holds Tryd.pinned (.plain (OpenSpec.ofChange sigBackSpec)) sigBackCard

/-- THE TIED CARD OF 'retrofitlaw10.SigExact'. -/
def sigExactCard : Claim7 := { stood := { row := sigExactRow, standIns := [], harness := (true, "389f86221b1758dd916a531a382c158fb89d0da73afab5f8f4feb55750fd3318"), looks := true }, kinds := [], alts := [], laidByText := true, laidKinds := [.data, .data, .data, .data, .sentinel, .sentinel, .pinned], laidTests := true, laidLooks := .later }
def SigExactCardSaid : Prop := Claim7.holds Tryd.pinned (.plain (OpenSpec.ofChange sigExactSpec)) sigExactCard

/-- THE SECOND FORM's CARD OF 'retrofitlaw10.SigTexts'. -/
def sigTextsUptoCard : Claim7 := { stood := { row := sigTextsUptoRow, standIns := [], harness := (true, "389f86221b1758dd916a531a382c158fb89d0da73afab5f8f4feb55750fd3318"), looks := true }, kinds := [], alts := [], laidByText := true, laidKinds := [.data, .data, .data, .data, .sentinel, .sentinel, .pinned], laidTests := true, laidLooks := .later }
def SigTextsUptoCardSaid : Prop := Claim7.holds Tryd.pinned (.plain (OpenSpec.upto sigTextsSpec)) sigTextsUptoCard

/-- THE SECOND FORM's CARD OF 'retrofitlaw10.SigOrder'. -/
def sigOrderUptoCard : Claim7 := { stood := { row := sigOrderUptoRow, standIns := [], harness := (true, "389f86221b1758dd916a531a382c158fb89d0da73afab5f8f4feb55750fd3318"), looks := true }, kinds := [], alts := [], laidByText := true, laidKinds := [.data, .data, .data, .data, .sentinel, .sentinel, .pinned], laidTests := true, laidLooks := .later }
def SigOrderUptoCardSaid : Prop := Claim7.holds Tryd.pinned (.plain (OpenSpec.upto sigOrderSpec)) sigOrderUptoCard

/-- THE SECOND FORM's CARD OF 'retrofitlaw10.SigBack'. -/
def sigBackUptoCard : Claim7 := { stood := { row := sigBackUptoRow, standIns := [], harness := (true, "389f86221b1758dd916a531a382c158fb89d0da73afab5f8f4feb55750fd3318"), looks := true }, kinds := [], alts := [], laidByText := true, laidKinds := [.data, .data, .data, .data, .sentinel, .sentinel, .pinned], laidTests := true, laidLooks := .later }
def SigBackUptoCardSaid : Prop := Claim7.holds Tryd.pinned (.plain (OpenSpec.upto sigBackSpec)) sigBackUptoCard

/-- THE SECOND FORM's CARD OF 'retrofitlaw10.SigExact'. -/
def sigExactUptoCard : Claim7 := { stood := { row := sigExactUptoRow, standIns := [], harness := (true, "389f86221b1758dd916a531a382c158fb89d0da73afab5f8f4feb55750fd3318"), looks := true }, kinds := [], alts := [], laidByText := true, laidKinds := [.data, .data, .data, .data, .sentinel, .sentinel, .pinned], laidTests := true, laidLooks := .later }
def SigExactUptoCardSaid : Prop := Claim7.holds Tryd.pinned (.plain (OpenSpec.upto sigExactSpec)) sigExactUptoCard
end Rows
end Go.Proofs.YtmikhngmclngiaaDoor
