/- An error told plainly, laid open; stored as a result. -/
import Derived.Test.YtcdhjkkdenhmcaaDoorEr
namespace Go.Proofs.YtcdhjkkdenhmcaaDoor
open Go.RowKit Go.Proofs.YtcdhjkkdenhmcaaDoorW.PrintWords Go.Proofs.YtcdhjkkdenhmcaaDoorW.PrintLast Go.Proofs.YtcdhjkkdenhmcaaDoorW.PrintMore
set_option linter.unusedVariables false
set_option linter.unusedSimpArgs false
def Er.bad : Er → Bool
  | .ok => false
  | _ => true
theorem Er.bad_false {er : Er} (h : er.bad = false) : er = .ok := by
  cases er with
  | ok => rfl
  | num c => cases h
  | at_ kind k c => cases h
/-- An error told plainly, laid open. -/
theorem IsE.open_ {w : World} {er : Er} {v : Value} (h : IsE w er v) : ∃ A n c cd, v = .agg #[.bool er.bad, .slice A n c, .int .i64 cd] := by
  cases er with
  | ok => exact ⟨_, _, _, _, h⟩
  | num c => exact ⟨_, _, _, _, h⟩
  | at_ kind k c => obtain ⟨g, cap, rfl, _, _⟩ := h; exact ⟨_, _, _, _, rfl⟩
theorem IsE.open_bad {w : World} {er : Er} {v : Value} (h : IsE w er v) (hb : er.bad = true) : ∃ A n c cd, v = .agg #[.bool true, .slice A n c, .int .i64 cd] := by
  obtain ⟨A, n, c, cd, e⟩ := h.open_
  rw [hb] at e
  exact ⟨A, n, c, cd, e⟩
theorem E_cells {W : World} {g : Nat} {a b c : Value} {t : Nat} {x : Nat × Nat} (h : W.heap[g]? = some (.cells #[a, b, c] t)) :
    (W.cell? ⟨g, 0, none⟩ = some a ∧ W.cell? ⟨g, 1, none⟩ = some b ∧ W.cell? ⟨g, 2, none⟩ = some c) ∧ W.frozen? ⟨g, 0, none⟩ = false ∧ W.frozen? ⟨g, 1, none⟩ = false ∧ W.frozen? ⟨g, 2, none⟩ = false := by
  unfold World.cell? World.frozen?
  rw [h]
  exact ⟨⟨rfl, rfl, rfl⟩, rfl, rfl, rfl⟩
theorem E_put {W : World} {g : Nat} {a b c : Value} {t : Nat} (h : W.heap[g]? = some (.cells #[a, b, c] t)) (a' b' c' : Value) :
    (((W.setCell ⟨g, 0, none⟩ a').setCell ⟨g, 1, none⟩ b').setCell ⟨g, 2, none⟩ c').heap[g]? = some (.cells #[a', b', c'] t) := blk_set (blk_set (blk_set h 0 a') 1 b') 2 c'
theorem IsE.set {W : World} {er : Er} {v : Value} (h : IsE W er v) {g j : Nat} (hg : ∀ k, W.cell? ⟨g, 0, none⟩ ≠ some (.int .i64 k)) (u : Value) : IsE (W.setCell ⟨g, j, none⟩ u) er v := by
  cases er with
  | ok => exact h
  | num c => exact h
  | at_ kind k c =>
    obtain ⟨g1, cap, rfl, h1, h2⟩ := h
    have hne : g1 ≠ g := by rintro rfl; exact hg _ h1
    refine ⟨g1, cap, rfl, ?_, ?_⟩
    · rw [← h1]; unfold World.cell?; rw [Below.heap_setCell _ _ _ _ (by exact hne)]
    · rw [← h2]; unfold World.cell?; rw [Below.heap_setCell _ _ _ _ (by exact hne)]
/-- An error told plainly stands as it was behind the store of a result. -/
theorem IsE.put {W : World} {er : Er} {v : Value} (h : IsE W er v) {g : Nat} {x : Bool} {b c : Value} {t : Nat} (hz : W.heap[g]? = some (.cells #[.bool x, b, c] t)) (a' : Bool) (b' c' : Value) :
    IsE (((W.setCell ⟨g, 0, none⟩ (.bool a')).setCell ⟨g, 1, none⟩ b').setCell ⟨g, 2, none⟩ c') er v := by
  have q : ∀ (V : World) (y : Bool) (b c : Value), V.heap[g]? = some (.cells #[.bool y, b, c] t) → ∀ k, V.cell? ⟨g, 0, none⟩ ≠ some (.int .i64 k) := fun V y b c hV k hk => by
    unfold World.cell? at hk; rw [hV] at hk; cases hk
  have h1 := blk_set hz 0 (.bool a')
  have h2 := blk_set h1 1 b'
  exact ((h.set (q _ _ _ _ hz) _).set (q _ _ _ _ h1) _).set (q _ _ _ _ h2) _
theorem below_put {w W : World} {g : Nat} (h : Below w.heap.size w W) (hg : w.heap.size ≤ g) (a b c : Value) : Below w.heap.size w (((W.setCell ⟨g, 0, none⟩ a).setCell ⟨g, 1, none⟩ b).setCell ⟨g, 2, none⟩ c) := below_set (below_set (below_set h hg) hg) hg
end Go.Proofs.YtcdhjkkdenhmcaaDoor
