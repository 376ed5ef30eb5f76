/-
  No cell of these rows narrows 'for every input' (looked for: loops, veiled, ifaces, maps, wideKeys, modest, calm, conditions, laid).
  DERIVED. THE GIVEN ROWS OF THIS SEAT. 3 by the template 'for every input the law returns true; each argument reads behind the call as it read before'; 0 by the template 'total and deterministic' (their statements: YtcdhjkkdenhmcaaTotals.lean).
  GIVEN WITH THE SEED: the statements are not yours to turn. If you find one false, say at which input.
  Laid BY PROGRAM, IN A SANDBOX (cutbox-rows.mjs): the forced cells as the released guide's own fill.sh prints them over the translation 8cb001259a067d9f… (all of the seat's roots in one cut). By AI agents, Wed Nov 11 2026. No macro, syntax, notation, axiom, sorry.
-/
import Derived.Test.YtcdhjkkdenhmcaaChecked
import GoSem.Claim
import GoSem.ClaimJoined
import GoSem.ClaimMapViews
import Derived.JoinedTies
import Derived.KernelRfl
namespace Go.Proofs.Ytcdhjkkdenhmcaa
/- THE CELL 'sum', in the pinned program and in every row, IS THE sha256 OF THE DUMP (.gsa) THAT YtcdhjkkdenhmcaaProg.lean LOADS. Nothing in Lean hashes anything: it is a label: what it is worth is what the hold of that sum in a sandbox is worth. -/
noncomputable def Try.pinned : Pinned := { name := "ytcdhjkkdenhmcaa", sum := "8cb001259a067d9fc05fff2e9d940e7a800d552ccba0688b82287e9ab8639feb", checked := Try.checked }
namespace Rows
def none {H : Type} : Left H := { results := [], args := [] }

/-- 'aviarylaw14.LinkWindow': WHATEVER THE INPUT: true; the input reads as it did. -/
def linkWindowSpec : ChangeSpec := { name := "linkWindow", fn := fun _ => fun
  | [d1, d2, d3] => { results := [.lit (.bool true)], args := [d1, d2, d3] }
  | _ => none }
def linkWindowRow : OpenClaim := { program := "ytcdhjkkdenhmcaa", sum := "8cb001259a067d9fc05fff2e9d940e7a800d552ccba0688b82287e9ab8639feb", func := "aviary/aviarylaw14.LinkWindow", spec := "linkWindow", apart := false }
def LinkWindowSaid : Prop := linkWindowRow.holds Try.pinned (OpenSpec.ofChange linkWindowSpec)

/-- ITS FALSE NEIGHBOUR: 'it returns false'. Refute it at one input. -/
def linkWindowWrong : ChangeSpec := { name := "linkWindow", fn := fun _ => fun
  | [d1, d2, d3] => { results := [.lit (.bool false)], args := [d1, d2, d3] }
  | _ => none }
def LinkWindowWrongFalsely : Prop := linkWindowRow.holds Try.pinned (OpenSpec.ofChange linkWindowWrong)

/-- 'aviarylaw14.LinkRuns': WHATEVER THE INPUT: true; the input reads as it did. -/
def linkRunsSpec : ChangeSpec := { name := "linkRuns", fn := fun _ => fun
  | [d1, d2] => { results := [.lit (.bool true)], args := [d1, d2] }
  | _ => none }
def linkRunsRow : OpenClaim := { program := "ytcdhjkkdenhmcaa", sum := "8cb001259a067d9fc05fff2e9d940e7a800d552ccba0688b82287e9ab8639feb", func := "aviary/aviarylaw14.LinkRuns", spec := "linkRuns", apart := false }
def LinkRunsSaid : Prop := linkRunsRow.holds Try.pinned (OpenSpec.ofChange linkRunsSpec)

/-- ITS FALSE NEIGHBOUR: 'it returns false'. Refute it at one input. -/
def linkRunsWrong : ChangeSpec := { name := "linkRuns", fn := fun _ => fun
  | [d1, d2] => { results := [.lit (.bool false)], args := [d1, d2] }
  | _ => none }
def LinkRunsWrongFalsely : Prop := linkRunsRow.holds Try.pinned (OpenSpec.ofChange linkRunsWrong)

/-- 'aviarylaw14.LinkSettles': WHATEVER THE INPUT: true; the input reads as it did. -/
def linkSettlesSpec : ChangeSpec := { name := "linkSettles", fn := fun _ => fun
  | [d1, d2] => { results := [.lit (.bool true)], args := [d1, d2] }
  | _ => none }
def linkSettlesRow : OpenClaim := { program := "ytcdhjkkdenhmcaa", sum := "8cb001259a067d9fc05fff2e9d940e7a800d552ccba0688b82287e9ab8639feb", func := "aviary/aviarylaw14.LinkSettles", spec := "linkSettles", apart := false }
def LinkSettlesSaid : Prop := linkSettlesRow.holds Try.pinned (OpenSpec.ofChange linkSettlesSpec)

/-- ITS FALSE NEIGHBOUR: 'it returns false'. Refute it at one input. -/
def linkSettlesWrong : ChangeSpec := { name := "linkSettles", fn := fun _ => fun
  | [d1, d2] => { results := [.lit (.bool false)], args := [d1, d2] }
  | _ => none }
def LinkSettlesWrongFalsely : Prop := linkSettlesRow.holds Try.pinned (OpenSpec.ofChange linkSettlesWrong)

/- THE SECOND FORM. 'bulk': how many values and letters a reading holds, each counted each time it is reached (what is shared counts as often as it is met; a slice's spare places count too). A statement '..UptoSaid' is the law's where the arguments, and the package variables that the reading takes, are together of bulk at most 1048576: NARROWER than '..Said'. Prove '..Said' where nothing that the law and all that it calls make is longer than what came in: it says more and counts as full. Else prove '..UptoSaid'. A law counts once. -/
mutual
def uptoBulk {H : Type} : DataW H → Nat
  | .lit (.string bytes) => bytes.length + 1
  | .lit _ => 1
  | .nil => 1
  | .ptr d => uptoBulk d + 1
  | .slice elems spare => uptoBulkAll elems + uptoBulkAll spare + 1
  | .agg parts => uptoBulkAll parts + 1
  | .iface _ d => uptoBulk d + 1
  | .map entries => uptoBulkEntries entries + 1
  | .held _ => 1
def uptoBulkAll {H : Type} : List (DataW H) → Nat
  | [] => 0
  | d :: r => uptoBulk d + uptoBulkAll r
def uptoBulkEntries {H : Type} : List (Lit × DataW H) → Nat
  | [] => 0
  | x :: r => uptoBulkEntry x + uptoBulkEntries r
def uptoBulkEntry {H : Type} : Lit × DataW H → Nat
  | (.string bytes, d) => bytes.length + uptoBulk d + 1
  | (_, d) => uptoBulk d + 1
 end
def uptoSmall : (H : Type) → List (DataW H) → Bool := fun _ ds => decide (uptoBulkAll ds ≤ 1048576)
def OpenSpec.upto (s : _root_.Go.ChangeSpec) : _root_.Go.OpenSpec := { _root_.Go.OpenSpec.ofChange s with cond := some uptoSmall }

/-- 'aviarylaw14.LinkWindow', WHERE WHAT IT READS IS OF BULK AT MOST 1048576: true; the input reads as it did. -/
def linkWindowUptoRow : OpenClaim := { program := "ytcdhjkkdenhmcaa", sum := "8cb001259a067d9fc05fff2e9d940e7a800d552ccba0688b82287e9ab8639feb", func := "aviary/aviarylaw14.LinkWindow", spec := "linkWindow", apart := false, narrowed := true }
def LinkWindowUptoSaid : Prop := linkWindowUptoRow.holds Try.pinned (OpenSpec.upto linkWindowSpec)

/-- 'aviarylaw14.LinkRuns', WHERE WHAT IT READS IS OF BULK AT MOST 1048576: true; the input reads as it did. -/
def linkRunsUptoRow : OpenClaim := { program := "ytcdhjkkdenhmcaa", sum := "8cb001259a067d9fc05fff2e9d940e7a800d552ccba0688b82287e9ab8639feb", func := "aviary/aviarylaw14.LinkRuns", spec := "linkRuns", apart := false, narrowed := true }
def LinkRunsUptoSaid : Prop := linkRunsUptoRow.holds Try.pinned (OpenSpec.upto linkRunsSpec)

/-- 'aviarylaw14.LinkSettles', WHERE WHAT IT READS IS OF BULK AT MOST 1048576: true; the input reads as it did. -/
def linkSettlesUptoRow : OpenClaim := { program := "ytcdhjkkdenhmcaa", sum := "8cb001259a067d9fc05fff2e9d940e7a800d552ccba0688b82287e9ab8639feb", func := "aviary/aviarylaw14.LinkSettles", spec := "linkSettles", apart := false, narrowed := true }
def LinkSettlesUptoSaid : Prop := linkSettlesUptoRow.holds Try.pinned (OpenSpec.upto linkSettlesSpec)

end Rows
end Go.Proofs.Ytcdhjkkdenhmcaa
