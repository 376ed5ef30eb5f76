/- The document's errors at the least that is asked of them: N, At; a cell of three. -/
import Derived.Test.YtpnokpoikhpiiaaBase
import Derived.Test.YtpnokpoikhpiiaaWMore
import Derived.Test.YtpnokpoikhpiiaaWKept
import Derived.Test.YtpnokpoikhpiiaaWLast
namespace Go.Proofs.Ytpnokpoikhpiiaa
open Go.RowKit Go.Proofs.YtpnokpoikhpiiaaW.PrintWords Go.Proofs.YtpnokpoikhpiiaaW.PrintLast Go.Proofs.YtpnokpoikhpiiaaW.PrintMore
set_option linter.unusedVariables false
set_option linter.unusedSimpArgs false
set_option maxRecDepth 100000 in
theorem refN_calls (w : World) (n : Int) :
    Calls Try.prog 15 #[.int .i64 n] w fun e w' => e = .returned (.agg #[.bool true, .slice none 0 0, .int .i64 n]) ∧ w' = w.alloc (.cells #[.bool true, .slice none 0 0, .int .i64 n] 30) := by
  go_enter Try.func15, Try.ntmps15
  go_wp2
  (try simp only [Exit.inBlock, Exit.then])
  exact bodyPost_ret (v := .agg #[.bool true, .slice none 0 0, .int .i64 n]) (by simp [results, Try.results15, go_sem]) rfl ⟨rfl, rfl⟩
theorem below_first {w W : World} {o : Obj} (h : Below (w.alloc o).heap.size (w.alloc o) W) : Below w.heap.size w W := below_weaken (below_alloc (Below.refl _ _) o) (by simp) h
set_option maxRecDepth 100000 in
theorem refAt_calls (w : World) (kind k n : Int) :
    Calls Try.prog 16 #[.int .i64 kind, .int .i64 k, .agg #[.bool true, .slice none 0 0, .int .i64 n]] w fun e w' => e = .returned (.agg #[.bool true, .slice (some ⟨w.heap.size + 1 + 1, 0, none⟩) 1 1, .int .i64 n]) ∧
      w' = ((w.alloc (.cells #[.bool true, .slice none 0 0, .int .i64 n] 30)).alloc (.cells #[.bool true, .slice (some ⟨w.heap.size + 1 + 1, 0, none⟩) 1 1, .int .i64 n] 30)).alloc (.cells #[.int .i64 kind, .int .i64 k] 64) := by
  go_enter Try.func16, Try.ntmps16
  go_wp2
  (try simp only [Exit.inBlock, Exit.then])
  exact bodyPost_ret (v := .agg #[.bool true, .slice (some ⟨w.heap.size + 1 + 1, 0, none⟩) 1 1, .int .i64 n]) (by simp [results, Try.results16, go_sem]) rfl ⟨rfl, rfl⟩
theorem refAt_E (w : World) (kind k n : Int) :
    Calls Try.prog 16 #[.int .i64 kind, .int .i64 k, .agg #[.bool true, .slice none 0 0, .int .i64 n]] w fun e w' => ∃ A an c, e = .returned (.agg #[.bool true, .slice A an c, .int .i64 n]) ∧ Below w.heap.size w w' := by
  refine (refAt_calls w kind k n).mono ?_
  rintro e w2 ⟨rfl, rfl⟩
  exact ⟨_, _, _, rfl, by repeat (first | exact Below.refl _ _ | refine below_alloc ?_ _)⟩
theorem E_cells {W : World} {g : Nat} {a b c : Value} {t : Nat} {x : Nat × Nat} (h : W.heap[g]? = some (.cells #[a, b, c] t)) :
    (W.cell? ⟨g, 0, none⟩ = some a ∧ W.cell? ⟨g, 1, none⟩ = some b ∧ W.cell? ⟨g, 2, none⟩ = some c) ∧ W.frozen? ⟨g, 0, none⟩ = false ∧ W.frozen? ⟨g, 1, none⟩ = false ∧ W.frozen? ⟨g, 2, none⟩ = false := by
  unfold World.cell? World.frozen?
  rw [h]
  exact ⟨⟨rfl, rfl, rfl⟩, rfl, rfl, rfl⟩
theorem E_put {W : World} {g : Nat} {a b c : Value} {t : Nat} (h : W.heap[g]? = some (.cells #[a, b, c] t)) (a' b' c' : Value) :
    (((W.setCell ⟨g, 0, none⟩ a').setCell ⟨g, 1, none⟩ b').setCell ⟨g, 2, none⟩ c').heap[g]? = some (.cells #[a', b', c'] t) := blk_set (blk_set (blk_set h 0 a') 1 b') 2 c'
theorem below_put {w W : World} {g : Nat} (h : Below w.heap.size w W) (hg : w.heap.size ≤ g) (a b c : Value) : Below w.heap.size w (((W.setCell ⟨g, 0, none⟩ a).setCell ⟨g, 1, none⟩ b).setCell ⟨g, 2, none⟩ c) := below_set (below_set (below_set h hg) hg) hg
theorem alloc_sz (w : World) (o : Obj) : (w.alloc o).heap.size = w.heap.size + 1 := Array.size_push _
theorem heap_old (W : World) (o : Obj) (i : Nat) (h : i < W.heap.size) : (W.alloc o).heap[i]? = W.heap[i]? := Below.heap_alloc W o i h
theorem put_far {W : World} {g h : Nat} {o : Obj} (h1 : W.heap[h]? = some o) (hgh : h ≠ g) (x y z : Value) : (((W.setCell ⟨g, 0, none⟩ x).setCell ⟨g, 1, none⟩ y).setCell ⟨g, 2, none⟩ z).heap[h]? = some o := by
  rw [Below.heap_setCell _ _ _ _ hgh, Below.heap_setCell _ _ _ _ hgh, Below.heap_setCell _ _ _ _ hgh]
  exact h1
/-- A cell of two. -/
theorem P_cells {W : World} {g : Nat} {a b : Value} {t : Nat} {x : Nat × Nat} (h : W.heap[g]? = some (.cells #[a, b] t)) :
    W.cell? ⟨g, 0, none⟩ = some a ∧ W.cell? ⟨g, 1, none⟩ = some b := by
  unfold World.cell?
  rw [h]
  exact ⟨rfl, rfl⟩
end Go.Proofs.Ytpnokpoikhpiiaa
