/- Errors: a number, or a fault at a place that wraps a number. -/
import Derived.Test.YthgfodfkjlpegaaDoorProg
import Derived.Test.YthgfodfkjlpegaaDoorWMore
import Derived.Test.YthgfodfkjlpegaaDoorWKept
import Derived.Test.YthgfodfkjlpegaaDoorWLast
import Derived.BigQuiet
import Derived.Deep.QuietTactic
import Derived.Deep.LoopGhost
import Derived.Deep.DeepCutAuto
import Derived.WalkSpells
import Derived.Lib.Hide
import Derived.Laws.BitsAllLaws
namespace Go.Proofs.YthgfodfkjlpegaaDoor
open Go.RowKit Go.Proofs.YthgfodfkjlpegaaDoorW.PrintWords Go.Proofs.YthgfodfkjlpegaaDoorW.PrintLast Go.Proofs.YthgfodfkjlpegaaDoorW.PrintMore
set_option linter.unusedVariables false
set_option linter.unusedSimpArgs false

inductive Er where
  | ok
  | num (c : Int)
  | at_ (kind k c : Int)
/-- A fault in memory. -/
def IsFault (w : World) (base : Nat) (kind k c : Int) (v : Value) : Prop :=
  ∃ g, v = .iface 74 (.pointer (some ⟨g, 0, none⟩)) ∧ base ≤ g ∧ w.heap[g]? = some (.cells #[.int .i64 kind, .int .i64 k, .iface 32 (.int .i64 c)] 78 (0, 0))
def IsEr (w : World) (base : Nat) : Er → Value → Prop
  | .ok, v => v = .nilIface
  | .num c, v => v = .iface 32 (.int .i64 c)
  | .at_ kind k c, v => IsFault w base kind k c v
theorem IsFault.below {w w1 : World} {base : Nat} {kind k c : Int} {v : Value} (h : IsFault w base kind k c v) (hb : Below w.heap.size w w1) : IsFault w1 base kind k c v := by
  obtain ⟨g, rfl, hg, hh⟩ := h
  exact ⟨g, rfl, hg, (hb.block g (blk_lt hh)).trans hh⟩
theorem IsEr.below {w w1 : World} {base : Nat} {er : Er} {v : Value} (h : IsEr w base er v) (hb : Below w.heap.size w w1) : IsEr w1 base er v := by
  cases er with
  | ok => exact h
  | num c => exact h
  | at_ kind k c => exact IsFault.below h hb
theorem IsEr.lower {w : World} {base base' : Nat} {er : Er} {v : Value} (h : IsEr w base er v) (hb : base' ≤ base) : IsEr w base' er v := by
  cases er with
  | ok => exact h
  | num c => exact h
  | at_ kind k c =>
    obtain ⟨g, rfl, hg, hh⟩ := h
    exact ⟨g, rfl, Nat.le_trans hb hg, hh⟩
/-- How an error that is one stands in a slot. -/
theorem IsEr.bad {w : World} {base : Nat} {er : Er} {v : Value} (h : IsEr w base er v) (hn : er ≠ .ok) : ∃ t u, v = .iface t u := by
  cases er with
  | ok => exact absurd rfl hn
  | num c => exact ⟨_, _, h⟩
  | at_ kind k c =>
    obtain ⟨g, rfl, _⟩ := h
    exact ⟨_, _, rfl⟩
end Go.Proofs.YthgfodfkjlpegaaDoor
