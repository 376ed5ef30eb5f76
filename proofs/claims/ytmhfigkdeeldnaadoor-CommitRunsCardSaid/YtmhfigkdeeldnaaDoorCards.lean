/-
  DERIVED. GIVEN WITH THE SEED: THE CARDS: each row of YtmhfigkdeeldnaaDoorRows.lean that lists a variable, with what it lists TIED to the program's text (the seventh form; the later family's looks); each row that meets fmt, with fmt's text TOLD by the authors' own Lean function (tested against real Go, not proved from fmt's source: count such statements apart). THE CARD IS WHAT COUNTS. Prove the row's statement (the work); the ties are given (YtmhfigkdeeldnaaDoorTie.lean); close each card by the builder's one call (the guide's Derived/Test/ToyasCard.lean, 'card_holds'). Laid BY PROGRAM, IN A SANDBOX (cutbox-door.mjs). By AI agents, Wed Nov 11 2026. No macro, syntax, notation, axiom, sorry.
-/
import Derived.Test.YtmhfigkdeeldnaaDoorRows
import GoSem.ClaimSeven
namespace Go.Proofs.YtmhfigkdeeldnaaDoor
namespace Rows

/-- THE TIED CARD OF 'aviarylaw20.CommitRuns'. -/
def commitRunsCard : Claim7 := { stood := { row := commitRunsRow, standIns := [], harness := (true, "b67ee31a51d9a2b4c71d00e293abbfd81064939debb013dca31e431d92c8aa65"), looks := true }, kinds := [], alts := [], laidByText := true, laidKinds := [.handle], laidTests := true, laidLooks := .later }
def CommitRunsCardSaid : Prop := Claim7.holds Tryd.pinned (.plain (OpenSpec.ofChange commitRunsSpec)) commitRunsCard

/-- THE TIED CARD OF 'aviarylaw20.CommitNone'. -/
def commitNoneCard : Claim7 := { stood := { row := commitNoneRow, standIns := [], harness := (true, "b67ee31a51d9a2b4c71d00e293abbfd81064939debb013dca31e431d92c8aa65"), looks := true }, kinds := [], alts := [], laidByText := true, laidKinds := [.handle], laidTests := true, laidLooks := .later }
def CommitNoneCardSaid : Prop := Claim7.holds Tryd.pinned (.plain (OpenSpec.ofChange commitNoneSpec)) commitNoneCard

/-- THE SECOND FORM's CARD OF 'aviarylaw20.CommitRuns'. -/
def commitRunsUptoCard : Claim7 := { stood := { row := commitRunsUptoRow, standIns := [], harness := (true, "b67ee31a51d9a2b4c71d00e293abbfd81064939debb013dca31e431d92c8aa65"), looks := true }, kinds := [], alts := [], laidByText := true, laidKinds := [.handle], laidTests := true, laidLooks := .later }
def CommitRunsUptoCardSaid : Prop := Claim7.holds Tryd.pinned (.plain (OpenSpec.upto commitRunsSpec)) commitRunsUptoCard

/-- THE SECOND FORM's CARD OF 'aviarylaw20.CommitNone'. -/
def commitNoneUptoCard : Claim7 := { stood := { row := commitNoneUptoRow, standIns := [], harness := (true, "b67ee31a51d9a2b4c71d00e293abbfd81064939debb013dca31e431d92c8aa65"), looks := true }, kinds := [], alts := [], laidByText := true, laidKinds := [.handle], laidTests := true, laidLooks := .later }
def CommitNoneUptoCardSaid : Prop := Claim7.holds Tryd.pinned (.plain (OpenSpec.upto commitNoneSpec)) commitNoneUptoCard
end Rows
end Go.Proofs.YtmhfigkdeeldnaaDoor
