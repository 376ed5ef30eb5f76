/-
  DERIVED. GIVEN WITH THE SEED: THE CARDS: each row of YtadaoplmicghcaaGreatDoorRows.lean that lists a variable, with what it lists TIED to the program's text (the seventh form; the later family's looks); each row that meets fmt, with fmt's text TOLD by the authors' own Lean function (tested against real Go, not proved from fmt's source: count such statements apart). THE CARD IS WHAT COUNTS. Prove the row's statement (the work); the ties are given (YtadaoplmicghcaaGreatDoorTie.lean); close each card by the builder's one call (the guide's Derived/Test/ToyasCard.lean, 'card_holds'). Laid BY PROGRAM, IN A SANDBOX (cutbox-door.mjs). By AI agents, Wed Nov 11 2026. No macro, syntax, notation, axiom, sorry.
-/
import Derived.Test.YtadaoplmicghcaaGreatDoorRows
import GoSem.ClaimSeven
namespace Go.Proofs.YtadaoplmicghcaaGreatDoor
namespace Rows

/-- THE TIED CARD OF 'aviarytop.TopPhases'. -/
def topPhasesCard : Claim7 := { stood := { row := topPhasesRow, standIns := [], harness := (true, "553e50408d0bbe19c95abc5572ac1eeb60a509ec25368dcb8a5a36b499062bd5"), looks := true }, kinds := [], alts := [], laidByText := true, laidKinds := [.data, .data, .data, .sentinel, .sentinel], laidTests := true, laidLooks := .later }
def TopPhasesCardSaid : Prop := Claim7.holds Tryz.pinned (.plain (OpenSpec.ofChange topPhasesSpec)) topPhasesCard

/-- THE SECOND FORM's CARD OF 'aviarytop.TopPhases'. -/
def topPhasesUptoCard : Claim7 := { stood := { row := topPhasesUptoRow, standIns := [], harness := (true, "553e50408d0bbe19c95abc5572ac1eeb60a509ec25368dcb8a5a36b499062bd5"), looks := true }, kinds := [], alts := [], laidByText := true, laidKinds := [.data, .data, .data, .sentinel, .sentinel], laidTests := true, laidLooks := .later }
def TopPhasesUptoCardSaid : Prop := Claim7.holds Tryz.pinned (.plain (OpenSpec.upto topPhasesSpec)) topPhasesUptoCard
end Rows
end Go.Proofs.YtadaoplmicghcaaGreatDoor
