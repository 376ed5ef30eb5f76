/-
  DERIVED. GIVEN WITH THE SEED: THE CARDS: each row of YthgfodfkjlpegaaDoorRows.lean that lists a variable, with what it lists TIED to the program's text (the seventh form; the later family's looks); each row that meets fmt, with fmt's text TOLD by the authors' own Lean function (tested against real Go, not proved from fmt's source: count such statements apart). THE CARD IS WHAT COUNTS. Prove the row's statement (the work); the ties are given (YthgfodfkjlpegaaDoorTie.lean); close each card by the builder's one call (the guide's Derived/Test/ToyasCard.lean, 'card_holds'). Laid BY PROGRAM, IN A SANDBOX (cutbox-door.mjs). By AI agents, Wed Nov 11 2026. No macro, syntax, notation, axiom, sorry.
-/
import Derived.Test.YthgfodfkjlpegaaDoorRows
import GoSem.ClaimSeven
namespace Go.Proofs.YthgfodfkjlpegaaDoor
namespace Rows

/-- THE TIED CARD OF 'aviarylaw18.PolicyChooses'. -/
def policyChoosesCard : Claim7 := { stood := { row := policyChoosesRow, standIns := [], harness := (true, "53d47fa77758beb1928278e3c77e5e7f524bb28ecef1d911c902016450577c89"), looks := true }, kinds := [], alts := [], laidByText := true, laidKinds := [.handle], laidTests := true, laidLooks := .later }
def PolicyChoosesCardSaid : Prop := Claim7.holds Tryd.pinned (.plain (OpenSpec.ofChange policyChoosesSpec)) policyChoosesCard

/-- THE TIED CARD OF 'aviarylaw18.PolicySettles'. -/
def policySettlesCard : Claim7 := { stood := { row := policySettlesRow, standIns := [], harness := (true, "53d47fa77758beb1928278e3c77e5e7f524bb28ecef1d911c902016450577c89"), looks := true }, kinds := [], alts := [], laidByText := true, laidKinds := [.handle], laidTests := true, laidLooks := .later }
def PolicySettlesCardSaid : Prop := Claim7.holds Tryd.pinned (.plain (OpenSpec.ofChange policySettlesSpec)) policySettlesCard

/-- THE SECOND FORM's CARD OF 'aviarylaw18.PolicyChooses'. -/
def policyChoosesUptoCard : Claim7 := { stood := { row := policyChoosesUptoRow, standIns := [], harness := (true, "53d47fa77758beb1928278e3c77e5e7f524bb28ecef1d911c902016450577c89"), looks := true }, kinds := [], alts := [], laidByText := true, laidKinds := [.handle], laidTests := true, laidLooks := .later }
def PolicyChoosesUptoCardSaid : Prop := Claim7.holds Tryd.pinned (.plain (OpenSpec.upto policyChoosesSpec)) policyChoosesUptoCard

/-- THE SECOND FORM's CARD OF 'aviarylaw18.PolicySettles'. -/
def policySettlesUptoCard : Claim7 := { stood := { row := policySettlesUptoRow, standIns := [], harness := (true, "53d47fa77758beb1928278e3c77e5e7f524bb28ecef1d911c902016450577c89"), looks := true }, kinds := [], alts := [], laidByText := true, laidKinds := [.handle], laidTests := true, laidLooks := .later }
def PolicySettlesUptoCardSaid : Prop := Claim7.holds Tryd.pinned (.plain (OpenSpec.upto policySettlesSpec)) policySettlesUptoCard
end Rows
end Go.Proofs.YthgfodfkjlpegaaDoor
