/- A map from int to int that serves as a set of numbers (each with the element 1): what it tells, and how it is kept. -/
import Derived.Test.YtpnokpoikhpiiaaBase
import Derived.Maps.OwnSet
import Derived.WalkKit
import Derived.Deep.Draws
namespace Go.Proofs.Ytpnokpoikhpiiaa
open Go.RowKit Go.Maps
set_option linter.unusedVariables false
set_option linter.unusedSimpArgs false

theorem keyedInt : Keyed Try.prog 3 := int_keyed Try.underlying3
theorem zeroInt (w : World) : (zeroValue 3).run Try.prog w = .ok (.int .i64 0) w := by kernel_rfl

/-- Block b is a map in which just the numbers of l stand, each with 1. -/
def Keys (w : World) (b : Nat) (l : List Int) : Prop :=
  ∃ D : DataW Unit, w.ownsMap Try.prog 3 (plainElem Try.prog 3) b l.length D ∧ Maps.size D = l.length ∧ (∀ x, Maps.has D (.int .i64 x) = decide (x ∈ l)) ∧ ∀ x, D.atKey (.int .i64 x) (.lit (.int .i64 0)) = .lit (.int .i64 (if x ∈ l then 1 else 0))

section
variable {w w1 : World} {b : Nat} {l : List Int}
theorem Keys.move (h : Keys w b l) (hm : w1.heap[b]? = w.heap[b]?) : Keys w1 b l := by
  obtain ⟨D, ⟨es, clock, hb, r⟩, hs⟩ := h
  exact ⟨D, ⟨es, clock, hm.trans hb, r⟩, hs⟩
theorem Keys.lt (h : Keys w b l) : b < w.heap.size := by
  obtain ⟨D, h, _⟩ := h
  exact h.lt
theorem Keys.obj (h : Keys w b l) : ∃ es clock, w.heap[b]? = some (.map es clock) := by
  obtain ⟨D, ⟨es, clock, hb, r⟩, hs⟩ := h
  exact ⟨es, clock, hb⟩
theorem Keys.drewN (h : Keys w b l) (n : Nat) : Keys (w.drewN n) b l := h.move rfl
theorem Keys.alloc (h : Keys w b l) (o : Obj) : Keys (w.alloc o) b l := h.move (Below.heap_alloc w o b h.lt)
theorem Keys.made (w : World) : Keys (w.alloc (.map #[] 0)) w.heap.size [] :=
  ⟨.map [], World.ownsMap_made _ _ _ _, rfl, fun x => rfl, fun x => rfl⟩
set_option maxRecDepth 100000 in
theorem Keys.look (h : Keys w b l) {x : Int} (hx : (Lit.int .i64 x).wf = true) : (Instr.lookup 58 (.map (some b)) (.int .i64 x) false).run Try.prog w = .ok (.int .i64 (if x ∈ l then 1 else 0)) w := by
  obtain ⟨D, h, _, _, ha⟩ := h
  obtain ⟨c, hr, hc, _⟩ := h.lookup_int keyedInt Try.underlying58 Try.underlying3 (zeroInt w) (keyOf_int_mk Try.underlying3 hx)
  rw [ha x] at hc
  have : c = (if x ∈ l then 1 else 0) := by
    injection hc with hc
    injection hc with _ hc
    exact hc.symm
  rw [hr, this]
set_option maxRecDepth 100000 in
theorem Keys.len (h : Keys w b l) (ty : TypeId) : (Builtin.len_ #[58] ty #[.map (some b)]).run Try.prog w = .ok (.int .i64 (l.length : Int)) w := by
  obtain ⟨D, h, hs, _⟩ := h
  rw [h.len Try.underlying58 ty, hs]
set_option maxRecDepth 100000 in
theorem Keys.put (h : Keys w b l) {x : Int} (hx : (Lit.int .i64 x).wf = true) (hnew : x ∉ l) (hl : l.length < maxLen) :
    ∃ w', (Instr.mapUpdate 58 (.map (some b)) (.int .i64 x) (.int .i64 1)).run Try.prog w = .ok () w' ∧ Keys w' b (l ++ [x]) ∧ w.grownBy w' (some b) := by
  obtain ⟨D, h, hs, hh, ha⟩ := h
  have hk : WideAt.IsKeyLit (.int .i64 x) := trivial
  obtain ⟨w', hr, ho, hg⟩ := h.update keyedInt Try.underlying58 hl (keyOf_int_mk Try.underlying3 hx) (plainElem_int (H := Unit) Try.underlying3 (a := 1) (by decide))
  have hno : Maps.has D (.int .i64 x) = false := by rw [hh]; simpa using hnew
  refine ⟨w', hr, ⟨_, by simpa using ho, ?_, fun y => ?_, fun y => ?_⟩, hg⟩
  · rw [size_put (h.tidy keyedInt), hno]
    simp [hs]
  · by_cases e : y = x
    · subst e
      rw [has_put_same h.isMap hk]
      simp
    · rw [has_put_other (by simpa using e), hh y]
      simp [e]
  · by_cases e : y = x
    · subst e
      rw [atKey_put_same h.isMap hk]
      simp
    · rw [atKey_put_other (by simpa using e), ha y]
      simp [e]
end

set_option maxRecDepth 100000 in
/-- At the operation: a new number goes into the set. -/
theorem wpList_putKey (w : World) {ops : Array Oper} {rest : List Oper} {o : Oper} {a : Act} {Q : Exit → Act → World → Prop}
    (hg : o.guard = none) (m x v : Operand) (hop : o.op = Op.mapUpdate 58 m x v) (b : Nat) (l : List Int) (n : Int)
    (hm : a.eval m = .map (some b)) (hx : a.eval x = .int .i64 n) (hv : a.eval v = .int .i64 1) (h : Keys w b l) (hwf : (Lit.int .i64 n).wf = true) (hnew : n ∉ l) (hl : l.length < maxLen)
    (hK : ∀ w', Keys w' b (l ++ [n]) → w.grownBy w' (some b) → wpList Try.prog ops Q rest (a.put o.dst undef) w') : wpList Try.prog ops Q (o :: rest) a w := by
  refine wpList_plain hg fun K' hK' => ?_
  obtain ⟨w', hrun, r1, r2⟩ := h.put hwf hnew hl
  unfold Oper.wp
  simp [execOp, hop, hm, hx, hv, hrun, Result.andThen]
  exact hK' _ _ (hK w' r1 r2)
end Go.Proofs.Ytpnokpoikhpiiaa
