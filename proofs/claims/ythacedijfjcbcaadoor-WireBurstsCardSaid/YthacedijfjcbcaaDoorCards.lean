/-
  DERIVED. GIVEN WITH THE SEED: THE CARDS: each row of YthacedijfjcbcaaDoorRows.lean that lists a variable, with what it lists TIED to the program's text (the seventh form; the later family's looks); each row that meets fmt, with fmt's text TOLD by the authors' own Lean function (tested against real Go, not proved from fmt's source: count such statements apart). THE CARD IS WHAT COUNTS. Prove the row's statement (the work); the ties are given (YthacedijfjcbcaaDoorTie.lean); close each card by the builder's one call (the guide's Derived/Test/ToyasCard.lean, 'card_holds'). Laid BY PROGRAM, IN A SANDBOX (cutbox-door.mjs). By AI agents, Wed Nov 11 2026. No macro, syntax, notation, axiom, sorry.
-/
import Derived.Test.YthacedijfjcbcaaDoorRows
import GoSem.ClaimSeven
namespace Go.Proofs.YthacedijfjcbcaaDoor
namespace Rows

/-- THE TIED CARD OF 'aviarylaw04.WireShort'. -/
def wireShortCard : Claim7 := { stood := { row := wireShortRow, standIns := [], harness := (true, "ecb56342e7a7cf6a8b09355e23e56812b42e8b6ef57529af41c3aee3e6ddd7b2"), looks := true }, kinds := [], alts := [], laidByText := true, laidKinds := [.handle], laidTests := true, laidLooks := .later }
def WireShortCardSaid : Prop := Claim7.holds Tryd.pinned (.plain (OpenSpec.ofChange wireShortSpec)) wireShortCard

/-- THE TIED CARD OF 'aviarylaw04.WireFrames'. -/
def wireFramesCard : Claim7 := { stood := { row := wireFramesRow, standIns := [], harness := (true, "ecb56342e7a7cf6a8b09355e23e56812b42e8b6ef57529af41c3aee3e6ddd7b2"), looks := true }, kinds := [], alts := [], laidByText := true, laidKinds := [.handle], laidTests := true, laidLooks := .later }
def WireFramesCardSaid : Prop := Claim7.holds Tryd.pinned (.plain (OpenSpec.ofChange wireFramesSpec)) wireFramesCard

/-- THE TIED CARD OF 'aviarylaw04.WireBursts'. -/
def wireBurstsCard : Claim7 := { stood := { row := wireBurstsRow, standIns := [], harness := (true, "ecb56342e7a7cf6a8b09355e23e56812b42e8b6ef57529af41c3aee3e6ddd7b2"), looks := true }, kinds := [], alts := [], laidByText := true, laidKinds := [.handle], laidTests := true, laidLooks := .later }
def WireBurstsCardSaid : Prop := Claim7.holds Tryd.pinned (.plain (OpenSpec.ofChange wireBurstsSpec)) wireBurstsCard

/-- THE TIED CARD OF 'aviarylaw04.WireTakes'. -/
def wireTakesCard : Claim7 := { stood := { row := wireTakesRow, standIns := [], harness := (true, "ecb56342e7a7cf6a8b09355e23e56812b42e8b6ef57529af41c3aee3e6ddd7b2"), looks := true }, kinds := [], alts := [], laidByText := true, laidKinds := [.handle], laidTests := true, laidLooks := .later }
def WireTakesCardSaid : Prop := Claim7.holds Tryd.pinned (.plain (OpenSpec.ofChange wireTakesSpec)) wireTakesCard

/-- THE SECOND FORM's CARD OF 'aviarylaw04.WireShort'. -/
def wireShortUptoCard : Claim7 := { stood := { row := wireShortUptoRow, standIns := [], harness := (true, "ecb56342e7a7cf6a8b09355e23e56812b42e8b6ef57529af41c3aee3e6ddd7b2"), looks := true }, kinds := [], alts := [], laidByText := true, laidKinds := [.handle], laidTests := true, laidLooks := .later }
def WireShortUptoCardSaid : Prop := Claim7.holds Tryd.pinned (.plain (OpenSpec.upto wireShortSpec)) wireShortUptoCard

/-- THE SECOND FORM's CARD OF 'aviarylaw04.WireFrames'. -/
def wireFramesUptoCard : Claim7 := { stood := { row := wireFramesUptoRow, standIns := [], harness := (true, "ecb56342e7a7cf6a8b09355e23e56812b42e8b6ef57529af41c3aee3e6ddd7b2"), looks := true }, kinds := [], alts := [], laidByText := true, laidKinds := [.handle], laidTests := true, laidLooks := .later }
def WireFramesUptoCardSaid : Prop := Claim7.holds Tryd.pinned (.plain (OpenSpec.upto wireFramesSpec)) wireFramesUptoCard

/-- THE SECOND FORM's CARD OF 'aviarylaw04.WireBursts'. -/
def wireBurstsUptoCard : Claim7 := { stood := { row := wireBurstsUptoRow, standIns := [], harness := (true, "ecb56342e7a7cf6a8b09355e23e56812b42e8b6ef57529af41c3aee3e6ddd7b2"), looks := true }, kinds := [], alts := [], laidByText := true, laidKinds := [.handle], laidTests := true, laidLooks := .later }
def WireBurstsUptoCardSaid : Prop := Claim7.holds Tryd.pinned (.plain (OpenSpec.upto wireBurstsSpec)) wireBurstsUptoCard

/-- THE SECOND FORM's CARD OF 'aviarylaw04.WireTakes'. -/
def wireTakesUptoCard : Claim7 := { stood := { row := wireTakesUptoRow, standIns := [], harness := (true, "ecb56342e7a7cf6a8b09355e23e56812b42e8b6ef57529af41c3aee3e6ddd7b2"), looks := true }, kinds := [], alts := [], laidByText := true, laidKinds := [.handle], laidTests := true, laidLooks := .later }
def WireTakesUptoCardSaid : Prop := Claim7.holds Tryd.pinned (.plain (OpenSpec.upto wireTakesSpec)) wireTakesUptoCard
end Rows
end Go.Proofs.YthacedijfjcbcaaDoor
