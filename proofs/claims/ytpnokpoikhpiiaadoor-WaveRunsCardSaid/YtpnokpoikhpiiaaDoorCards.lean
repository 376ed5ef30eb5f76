/-
  DERIVED. GIVEN WITH THE SEED: THE CARDS: each row of YtpnokpoikhpiiaaDoorRows.lean that lists a variable, with what it lists TIED to the program's text (the seventh form; the later family's looks); each row that meets fmt, with fmt's text TOLD by the authors' own Lean function (tested against real Go, not proved from fmt's source: count such statements apart). THE CARD IS WHAT COUNTS. Prove the row's statement (the work); the ties are given (YtpnokpoikhpiiaaDoorTie.lean); close each card by the builder's one call (the guide's Derived/Test/ToyasCard.lean, 'card_holds'). Laid BY PROGRAM, IN A SANDBOX (cutbox-door.mjs). By AI agents, Wed Nov 11 2026. No macro, syntax, notation, axiom, sorry.
-/
import Derived.Test.YtpnokpoikhpiiaaDoorRows
import GoSem.ClaimSeven
namespace Go.Proofs.YtpnokpoikhpiiaaDoor
namespace Rows

/-- THE TIED CARD OF 'aviarylaw19.WaveRuns'. -/
def waveRunsCard : Claim7 := { stood := { row := waveRunsRow, standIns := [], harness := (true, "c9cf173d0d561c82b2ff9af29781fb2df402c8207129f197b08c455ad5056147"), looks := true }, kinds := [], alts := [], laidByText := true, laidKinds := [.handle], laidTests := true, laidLooks := .later }
def WaveRunsCardSaid : Prop := Claim7.holds Tryd.pinned (.plain (OpenSpec.ofChange waveRunsSpec)) waveRunsCard

/-- THE TIED CARD OF 'aviarylaw19.WaveNone'. -/
def waveNoneCard : Claim7 := { stood := { row := waveNoneRow, standIns := [], harness := (true, "c9cf173d0d561c82b2ff9af29781fb2df402c8207129f197b08c455ad5056147"), looks := true }, kinds := [], alts := [], laidByText := true, laidKinds := [.handle], laidTests := true, laidLooks := .later }
def WaveNoneCardSaid : Prop := Claim7.holds Tryd.pinned (.plain (OpenSpec.ofChange waveNoneSpec)) waveNoneCard

/-- THE SECOND FORM's CARD OF 'aviarylaw19.WaveRuns'. -/
def waveRunsUptoCard : Claim7 := { stood := { row := waveRunsUptoRow, standIns := [], harness := (true, "c9cf173d0d561c82b2ff9af29781fb2df402c8207129f197b08c455ad5056147"), looks := true }, kinds := [], alts := [], laidByText := true, laidKinds := [.handle], laidTests := true, laidLooks := .later }
def WaveRunsUptoCardSaid : Prop := Claim7.holds Tryd.pinned (.plain (OpenSpec.upto waveRunsSpec)) waveRunsUptoCard

/-- THE SECOND FORM's CARD OF 'aviarylaw19.WaveNone'. -/
def waveNoneUptoCard : Claim7 := { stood := { row := waveNoneUptoRow, standIns := [], harness := (true, "c9cf173d0d561c82b2ff9af29781fb2df402c8207129f197b08c455ad5056147"), looks := true }, kinds := [], alts := [], laidByText := true, laidKinds := [.handle], laidTests := true, laidLooks := .later }
def WaveNoneUptoCardSaid : Prop := Claim7.holds Tryd.pinned (.plain (OpenSpec.upto waveNoneSpec)) waveNoneUptoCard
end Rows
end Go.Proofs.YtpnokpoikhpiiaaDoor
