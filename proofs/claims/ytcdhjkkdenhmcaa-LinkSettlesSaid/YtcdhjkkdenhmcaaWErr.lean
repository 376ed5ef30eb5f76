/- Errors: a number, or a fault at a place that wraps a number; fault.At, wire.at. -/
import Derived.Test.YtcdhjkkdenhmcaaBy
namespace Go.Proofs.Ytcdhjkkdenhmcaa
open Go.RowKit Go.Proofs.YtcdhjkkdenhmcaaW.PrintWords Go.Proofs.YtcdhjkkdenhmcaaW.PrintLast Go.Proofs.YtcdhjkkdenhmcaaW.PrintMore
set_option linter.unusedVariables false
set_option linter.unusedSimpArgs false

inductive Er where
  | ok
  | num (c : Int)
  | at_ (kind k c : Int)
/-- A fault in memory. -/
def IsFault (w : World) (base : Nat) (kind k c : Int) (v : Value) : Prop :=
  ∃ g, v = .iface 79 (.pointer (some ⟨g, 0, none⟩)) ∧ base ≤ g ∧ w.heap[g]? = some (.cells #[.int .i64 kind, .int .i64 k, .iface 48 (.int .i64 c)] 83 (0, 0))
def IsEr (w : World) (base : Nat) : Er → Value → Prop
  | .ok, v => v = .nilIface
  | .num c, v => v = .iface 48 (.int .i64 c)
  | .at_ kind k c, v => IsFault w base kind k c v
theorem IsFault.below {w w1 : World} {base : Nat} {kind k c : Int} {v : Value} (h : IsFault w base kind k c v) (hb : Below w.heap.size w w1) : IsFault w1 base kind k c v := by
  obtain ⟨g, rfl, hg, hh⟩ := h
  exact ⟨g, rfl, hg, (hb.block g (blk_lt hh)).trans hh⟩
theorem IsEr.below {w w1 : World} {base : Nat} {er : Er} {v : Value} (h : IsEr w base er v) (hb : Below w.heap.size w w1) : IsEr w1 base er v := by
  cases er with
  | ok => exact h
  | num c => exact h
  | at_ kind k c => exact IsFault.below h hb
theorem IsEr.lower {w : World} {base base' : Nat} {er : Er} {v : Value} (h : IsEr w base er v) (hb : base' ≤ base) : IsEr w base' er v := by
  cases er with
  | ok => exact h
  | num c => exact h
  | at_ kind k c =>
    obtain ⟨g, rfl, hg, hh⟩ := h
    exact ⟨g, rfl, Nat.le_trans hb hg, hh⟩
/-- How an error that is one stands in a slot. -/
theorem IsEr.bad {w : World} {base : Nat} {er : Er} {v : Value} (h : IsEr w base er v) (hn : er ≠ .ok) : ∃ t u, v = .iface t u := by
  cases er with
  | ok => exact absurd rfl hn
  | num c => exact ⟨_, _, h⟩
  | at_ kind k c =>
    obtain ⟨g, rfl, _⟩ := h
    exact ⟨_, _, rfl⟩

set_option maxRecDepth 100000 in
theorem faultAt_calls (w : World) (kind k c : Int) :
    Calls Try.prog 40 #[.int .i64 kind, .int .i64 k, .iface 48 (.int .i64 c)] w fun e w' => ∃ v, e = .returned v ∧ IsFault w' w.heap.size kind k c v ∧ Below w.heap.size w w' := by
  go_enter Try.func40, Try.ntmps40
  go_wp2
  go_ret
  exact ⟨_, rfl, ⟨_, rfl, by simp, by simpa using heap_alloc_new w _⟩, below_alloc (Below.refl _ _) _⟩
set_option maxRecDepth 100000 in
theorem at_calls (w : World) (k c : Int) :
    Calls Try.prog 39 #[.int .i64 k, .int .i64 c] w fun e w' => ∃ v, e = .returned v ∧ IsFault w' w.heap.size 1 k c v ∧ Below w.heap.size w w' := by
  go_enter Try.func39, Try.ntmps39
  go_wp2_with (go_at_call 40; refine (faultAt_calls _ 1 k c).mono ?_; rintro e w1 ⟨v, rfl, hv, hb⟩; have HV := Aside0.mk hv; have HB := Aside0.mk hb; clear hv hb)
  go_ret
  exact ⟨_, rfl, HV.out, HB.out⟩
end Go.Proofs.Ytcdhjkkdenhmcaa
