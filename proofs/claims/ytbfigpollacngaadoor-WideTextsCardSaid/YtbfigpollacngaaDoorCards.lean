/-
  DERIVED. GIVEN WITH THE SEED: THE CARDS: each row of YtbfigpollacngaaDoorRows.lean that lists a variable, with what it lists TIED to the program's text (the seventh form; the later family's looks); each row that meets fmt, with fmt's text TOLD by the authors' own Lean function (tested against real Go, not proved from fmt's source: count such statements apart). THE CARD IS WHAT COUNTS. Prove the row's statement (the work); the ties are given (YtbfigpollacngaaDoorTie.lean); close each card by the builder's one call (the guide's Derived/Test/ToyasCard.lean, 'card_holds'). Laid BY PROGRAM, IN A SANDBOX (cutbox-door.mjs). By AI agents, Wed Nov 11 2026. No macro, syntax, notation, axiom, sorry.
-/
import Derived.Test.YtbfigpollacngaaDoorRows
import GoSem.ClaimSeven
namespace Go.Proofs.YtbfigpollacngaaDoor
namespace Rows

/-- THE TIED CARD OF 'retrofitlaw01.WideRing'. -/
def wideRingCard : Claim7 := { stood := { row := wideRingRow, standIns := [], harness := (true, "ab5c7fcd4cd244d5c99086f3d43e57d402d5c21e62d5bbdee50176ee4cebb80e"), looks := false }, kinds := [], alts := [], laidByText := true, laidKinds := [.data, .pinned], laidTests := true, laidLooks := .later }
def WideRingCardSaid : Prop := Claim7.holds Tryd.pinned (.plain (OpenSpec.ofChange wideRingSpec)) wideRingCard

/-- THE TIED CARD OF 'retrofitlaw01.WideOrder'. -/
def wideOrderCard : Claim7 := { stood := { row := wideOrderRow, standIns := [], harness := (true, "ab5c7fcd4cd244d5c99086f3d43e57d402d5c21e62d5bbdee50176ee4cebb80e"), looks := false }, kinds := [], alts := [], laidByText := true, laidKinds := [.data, .pinned], laidTests := true, laidLooks := .later }
def WideOrderCardSaid : Prop := Claim7.holds Tryd.pinned (.plain (OpenSpec.ofChange wideOrderSpec)) wideOrderCard

/-- THE TIED CARD OF 'retrofitlaw01.WideTexts'. -/
def wideTextsCard : Claim7 := { stood := { row := wideTextsRow, standIns := [], harness := (true, "ab5c7fcd4cd244d5c99086f3d43e57d402d5c21e62d5bbdee50176ee4cebb80e"), looks := false }, kinds := [], alts := [], laidByText := true, laidKinds := [.data, .pinned], laidTests := true, laidLooks := .later }
def WideTextsCardSaid : Prop := Claim7.holds Tryd.pinned (.plain (OpenSpec.ofChange wideTextsSpec)) wideTextsCard

/-- THE TIED CARD OF 'retrofitlaw01.WideExact'. -/
def wideExactCard : Claim7 := { stood := { row := wideExactRow, standIns := [], harness := (true, "ab5c7fcd4cd244d5c99086f3d43e57d402d5c21e62d5bbdee50176ee4cebb80e"), looks := false }, kinds := [], alts := [], laidByText := true, laidKinds := [.data, .pinned], laidTests := true, laidLooks := .later }
def WideExactCardSaid : Prop := Claim7.holds Tryd.pinned (.plain (OpenSpec.ofChange wideExactSpec)) wideExactCard

/-- THE TIED CARD OF 'retrofitlaw01.WideParts'. -/
def widePartsCard : Claim7 := { stood := { row := widePartsRow, standIns := [], harness := (true, "ab5c7fcd4cd244d5c99086f3d43e57d402d5c21e62d5bbdee50176ee4cebb80e"), looks := false }, kinds := [], alts := [], laidByText := true, laidKinds := [.data, .pinned], laidTests := true, laidLooks := .later }
def WidePartsCardSaid : Prop := Claim7.holds Tryd.pinned (.plain (OpenSpec.ofChange widePartsSpec)) widePartsCard

/-- THE TIED CARD OF 'retrofitlaw01.WideBack'. -/
def wideBackCard : Claim7 := { stood := { row := wideBackRow, standIns := [], harness := (true, "ab5c7fcd4cd244d5c99086f3d43e57d402d5c21e62d5bbdee50176ee4cebb80e"), looks := false }, kinds := [], alts := [], laidByText := true, laidKinds := [.data, .pinned], laidTests := true, laidLooks := .later }
def WideBackCardSaid : Prop := Claim7.holds Tryd.pinned (.plain (OpenSpec.ofChange wideBackSpec)) wideBackCard

/-- THE SECOND FORM's CARD OF 'retrofitlaw01.WideRing'. -/
def wideRingUptoCard : Claim7 := { stood := { row := wideRingUptoRow, standIns := [], harness := (true, "ab5c7fcd4cd244d5c99086f3d43e57d402d5c21e62d5bbdee50176ee4cebb80e"), looks := false }, kinds := [], alts := [], laidByText := true, laidKinds := [.data, .pinned], laidTests := true, laidLooks := .later }
def WideRingUptoCardSaid : Prop := Claim7.holds Tryd.pinned (.plain (OpenSpec.upto wideRingSpec)) wideRingUptoCard

/-- THE SECOND FORM's CARD OF 'retrofitlaw01.WideOrder'. -/
def wideOrderUptoCard : Claim7 := { stood := { row := wideOrderUptoRow, standIns := [], harness := (true, "ab5c7fcd4cd244d5c99086f3d43e57d402d5c21e62d5bbdee50176ee4cebb80e"), looks := false }, kinds := [], alts := [], laidByText := true, laidKinds := [.data, .pinned], laidTests := true, laidLooks := .later }
def WideOrderUptoCardSaid : Prop := Claim7.holds Tryd.pinned (.plain (OpenSpec.upto wideOrderSpec)) wideOrderUptoCard

/-- THE SECOND FORM's CARD OF 'retrofitlaw01.WideTexts'. -/
def wideTextsUptoCard : Claim7 := { stood := { row := wideTextsUptoRow, standIns := [], harness := (true, "ab5c7fcd4cd244d5c99086f3d43e57d402d5c21e62d5bbdee50176ee4cebb80e"), looks := false }, kinds := [], alts := [], laidByText := true, laidKinds := [.data, .pinned], laidTests := true, laidLooks := .later }
def WideTextsUptoCardSaid : Prop := Claim7.holds Tryd.pinned (.plain (OpenSpec.upto wideTextsSpec)) wideTextsUptoCard

/-- THE SECOND FORM's CARD OF 'retrofitlaw01.WideExact'. -/
def wideExactUptoCard : Claim7 := { stood := { row := wideExactUptoRow, standIns := [], harness := (true, "ab5c7fcd4cd244d5c99086f3d43e57d402d5c21e62d5bbdee50176ee4cebb80e"), looks := false }, kinds := [], alts := [], laidByText := true, laidKinds := [.data, .pinned], laidTests := true, laidLooks := .later }
def WideExactUptoCardSaid : Prop := Claim7.holds Tryd.pinned (.plain (OpenSpec.upto wideExactSpec)) wideExactUptoCard

/-- THE SECOND FORM's CARD OF 'retrofitlaw01.WideParts'. -/
def widePartsUptoCard : Claim7 := { stood := { row := widePartsUptoRow, standIns := [], harness := (true, "ab5c7fcd4cd244d5c99086f3d43e57d402d5c21e62d5bbdee50176ee4cebb80e"), looks := false }, kinds := [], alts := [], laidByText := true, laidKinds := [.data, .pinned], laidTests := true, laidLooks := .later }
def WidePartsUptoCardSaid : Prop := Claim7.holds Tryd.pinned (.plain (OpenSpec.upto widePartsSpec)) widePartsUptoCard

/-- THE SECOND FORM's CARD OF 'retrofitlaw01.WideBack'. -/
def wideBackUptoCard : Claim7 := { stood := { row := wideBackUptoRow, standIns := [], harness := (true, "ab5c7fcd4cd244d5c99086f3d43e57d402d5c21e62d5bbdee50176ee4cebb80e"), looks := false }, kinds := [], alts := [], laidByText := true, laidKinds := [.data, .pinned], laidTests := true, laidLooks := .later }
def WideBackUptoCardSaid : Prop := Claim7.holds Tryd.pinned (.plain (OpenSpec.upto wideBackSpec)) wideBackUptoCard
end Rows
end Go.Proofs.YtbfigpollacngaaDoor
