/-
  DERIVED. GIVEN WITH THE SEED: THE CARDS: each row of YtcdhjkkdenhmcaaDoorRows.lean that lists a variable, with what it lists TIED to the program's text (the seventh form; the later family's looks); each row that meets fmt, with fmt's text TOLD by the authors' own Lean function (tested against real Go, not proved from fmt's source: count such statements apart). THE CARD IS WHAT COUNTS. Prove the row's statement (the work); the ties are given (YtcdhjkkdenhmcaaDoorTie.lean); close each card by the builder's one call (the guide's Derived/Test/ToyasCard.lean, 'card_holds'). Laid BY PROGRAM, IN A SANDBOX (cutbox-door.mjs). By AI agents, Wed Nov 11 2026. No macro, syntax, notation, axiom, sorry.
-/
import Derived.Test.YtcdhjkkdenhmcaaDoorRows
import GoSem.ClaimSeven
namespace Go.Proofs.YtcdhjkkdenhmcaaDoor
namespace Rows

/-- THE TIED CARD OF 'aviarylaw14.LinkFull'. -/
def linkFullCard : Claim7 := { stood := { row := linkFullRow, standIns := [], harness := (true, "7ad49f040d28343d3d9cfe9cb15f22cd4cf630b266c7335fc9873e4d5edf93a1"), looks := true }, kinds := [], alts := [], laidByText := true, laidKinds := [.handle], laidTests := true, laidLooks := .later }
def LinkFullCardSaid : Prop := Claim7.holds Tryd.pinned (.plain (OpenSpec.ofChange linkFullSpec)) linkFullCard

/-- THE TIED CARD OF 'aviarylaw14.LinkErrors'. -/
def linkErrorsCard : Claim7 := { stood := { row := linkErrorsRow, standIns := [], harness := (true, "7ad49f040d28343d3d9cfe9cb15f22cd4cf630b266c7335fc9873e4d5edf93a1"), looks := true }, kinds := [], alts := [], laidByText := true, laidKinds := [.handle], laidTests := true, laidLooks := .later }
def LinkErrorsCardSaid : Prop := Claim7.holds Tryd.pinned (.plain (OpenSpec.ofChange linkErrorsSpec)) linkErrorsCard

/-- THE SECOND FORM's CARD OF 'aviarylaw14.LinkFull'. -/
def linkFullUptoCard : Claim7 := { stood := { row := linkFullUptoRow, standIns := [], harness := (true, "7ad49f040d28343d3d9cfe9cb15f22cd4cf630b266c7335fc9873e4d5edf93a1"), looks := true }, kinds := [], alts := [], laidByText := true, laidKinds := [.handle], laidTests := true, laidLooks := .later }
def LinkFullUptoCardSaid : Prop := Claim7.holds Tryd.pinned (.plain (OpenSpec.upto linkFullSpec)) linkFullUptoCard

/-- THE SECOND FORM's CARD OF 'aviarylaw14.LinkErrors'. -/
def linkErrorsUptoCard : Claim7 := { stood := { row := linkErrorsUptoRow, standIns := [], harness := (true, "7ad49f040d28343d3d9cfe9cb15f22cd4cf630b266c7335fc9873e4d5edf93a1"), looks := true }, kinds := [], alts := [], laidByText := true, laidKinds := [.handle], laidTests := true, laidLooks := .later }
def LinkErrorsUptoCardSaid : Prop := Claim7.holds Tryd.pinned (.plain (OpenSpec.upto linkErrorsSpec)) linkErrorsUptoCard
end Rows
end Go.Proofs.YtcdhjkkdenhmcaaDoor
