/-
  No cell of these rows narrows 'for every input' (looked for: loops, veiled, ifaces, maps, wideKeys, modest, calm, conditions, laid).
  DERIVED. THE GIVEN ROWS OF THIS SEAT. 2 by the template 'for every input the law returns true; each argument reads behind the call as it read before'; 0 by the template 'total and deterministic' (their statements: YtmhfigkdeeldnaaTotals.lean).
  GIVEN WITH THE SEED: the statements are not yours to turn. If you find one false, say at which input.
  Laid BY PROGRAM, IN A SANDBOX (cutbox-rows.mjs): the forced cells as the released guide's own fill.sh prints them over the translation 8cbc9e7961d32deb… (all of the seat's roots in one cut). By AI agents, Wed Nov 11 2026. No macro, syntax, notation, axiom, sorry.
-/
import Derived.Test.YtmhfigkdeeldnaaChecked
import GoSem.Claim
import GoSem.ClaimJoined
import GoSem.ClaimMapViews
import Derived.JoinedTies
import Derived.KernelRfl
namespace Go.Proofs.Ytmhfigkdeeldnaa
/- THE CELL 'sum', in the pinned program and in every row, IS THE sha256 OF THE DUMP (.gsa) THAT YtmhfigkdeeldnaaProg.lean LOADS. Nothing in Lean hashes anything: it is a label: what it is worth is what the hold of that sum in a sandbox is worth. -/
noncomputable def Try.pinned : Pinned := { name := "ytmhfigkdeeldnaa", sum := "8cbc9e7961d32debd3f763c00c9115389000ad94c93ed9ffccd5f2c7d0d857e7", checked := Try.checked }
namespace Rows
def none {H : Type} : Left H := { results := [], args := [] }

/-- 'aviarylaw20.CommitOnce': WHATEVER THE INPUT: true; the input reads as it did. -/
def commitOnceSpec : ChangeSpec := { name := "commitOnce", fn := fun _ => fun
  | [d] => { results := [.lit (.bool true)], args := [d] }
  | _ => none }
def commitOnceRow : OpenClaim := { program := "ytmhfigkdeeldnaa", sum := "8cbc9e7961d32debd3f763c00c9115389000ad94c93ed9ffccd5f2c7d0d857e7", func := "aviary/aviarylaw20.CommitOnce", spec := "commitOnce", unfollowed := true, recurses := true, apart := false }
def CommitOnceSaid : Prop := commitOnceRow.holds Try.pinned (OpenSpec.ofChange commitOnceSpec)

/-- ITS FALSE NEIGHBOUR: 'it returns false'. Refute it at one input. -/
def commitOnceWrong : ChangeSpec := { name := "commitOnce", fn := fun _ => fun
  | [d] => { results := [.lit (.bool false)], args := [d] }
  | _ => none }
def CommitOnceWrongFalsely : Prop := commitOnceRow.holds Try.pinned (OpenSpec.ofChange commitOnceWrong)

/-- 'aviarylaw20.CommitWaits': WHATEVER THE INPUT: true; the input reads as it did. -/
def commitWaitsSpec : ChangeSpec := { name := "commitWaits", fn := fun _ => fun
  | [d1, d2] => { results := [.lit (.bool true)], args := [d1, d2] }
  | _ => none }
def commitWaitsRow : OpenClaim := { program := "ytmhfigkdeeldnaa", sum := "8cbc9e7961d32debd3f763c00c9115389000ad94c93ed9ffccd5f2c7d0d857e7", func := "aviary/aviarylaw20.CommitWaits", spec := "commitWaits", unfollowed := true, recurses := true, apart := false }
def CommitWaitsSaid : Prop := commitWaitsRow.holds Try.pinned (OpenSpec.ofChange commitWaitsSpec)

/-- ITS FALSE NEIGHBOUR: 'it returns false'. Refute it at one input. -/
def commitWaitsWrong : ChangeSpec := { name := "commitWaits", fn := fun _ => fun
  | [d1, d2] => { results := [.lit (.bool false)], args := [d1, d2] }
  | _ => none }
def CommitWaitsWrongFalsely : Prop := commitWaitsRow.holds Try.pinned (OpenSpec.ofChange commitWaitsWrong)

/- THE SECOND FORM. 'bulk': how many values and letters a reading holds, each counted each time it is reached (what is shared counts as often as it is met; a slice's spare places count too). A statement '..UptoSaid' is the law's where the arguments, and the package variables that the reading takes, are together of bulk at most 1048576: NARROWER than '..Said'. Prove '..Said' where nothing that the law and all that it calls make is longer than what came in: it says more and counts as full. Else prove '..UptoSaid'. A law counts once. -/
mutual
def uptoBulk {H : Type} : DataW H → Nat
  | .lit (.string bytes) => bytes.length + 1
  | .lit _ => 1
  | .nil => 1
  | .ptr d => uptoBulk d + 1
  | .slice elems spare => uptoBulkAll elems + uptoBulkAll spare + 1
  | .agg parts => uptoBulkAll parts + 1
  | .iface _ d => uptoBulk d + 1
  | .map entries => uptoBulkEntries entries + 1
  | .held _ => 1
def uptoBulkAll {H : Type} : List (DataW H) → Nat
  | [] => 0
  | d :: r => uptoBulk d + uptoBulkAll r
def uptoBulkEntries {H : Type} : List (Lit × DataW H) → Nat
  | [] => 0
  | x :: r => uptoBulkEntry x + uptoBulkEntries r
def uptoBulkEntry {H : Type} : Lit × DataW H → Nat
  | (.string bytes, d) => bytes.length + uptoBulk d + 1
  | (_, d) => uptoBulk d + 1
 end
def uptoSmall : (H : Type) → List (DataW H) → Bool := fun _ ds => decide (uptoBulkAll ds ≤ 1048576)
def OpenSpec.upto (s : _root_.Go.ChangeSpec) : _root_.Go.OpenSpec := { _root_.Go.OpenSpec.ofChange s with cond := some uptoSmall }

/-- 'aviarylaw20.CommitOnce', WHERE WHAT IT READS IS OF BULK AT MOST 1048576: true; the input reads as it did. -/
def commitOnceUptoRow : OpenClaim := { program := "ytmhfigkdeeldnaa", sum := "8cbc9e7961d32debd3f763c00c9115389000ad94c93ed9ffccd5f2c7d0d857e7", func := "aviary/aviarylaw20.CommitOnce", spec := "commitOnce", unfollowed := true, recurses := true, apart := false, narrowed := true }
def CommitOnceUptoSaid : Prop := commitOnceUptoRow.holds Try.pinned (OpenSpec.upto commitOnceSpec)

/-- 'aviarylaw20.CommitWaits', WHERE WHAT IT READS IS OF BULK AT MOST 1048576: true; the input reads as it did. -/
def commitWaitsUptoRow : OpenClaim := { program := "ytmhfigkdeeldnaa", sum := "8cbc9e7961d32debd3f763c00c9115389000ad94c93ed9ffccd5f2c7d0d857e7", func := "aviary/aviarylaw20.CommitWaits", spec := "commitWaits", unfollowed := true, recurses := true, apart := false, narrowed := true }
def CommitWaitsUptoSaid : Prop := commitWaitsUptoRow.holds Try.pinned (OpenSpec.upto commitWaitsSpec)

end Rows
end Go.Proofs.Ytmhfigkdeeldnaa
