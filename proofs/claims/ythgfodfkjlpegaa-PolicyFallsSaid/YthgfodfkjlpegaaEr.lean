/- The document's errors, told plainly (the plain seat: no errors.As here): served as the text Er (Er=PoE). -/
import Derived.Test.YthgfodfkjlpegaaWErrC
namespace Go.Proofs.Ythgfodfkjlpegaa
open Go.RowKit Go.Proofs.YthgfodfkjlpegaaW.PrintWords Go.Proofs.YthgfodfkjlpegaaW.PrintLast Go.Proofs.YthgfodfkjlpegaaW.PrintMore
set_option linter.unusedVariables false
set_option linter.unusedSimpArgs false
def okE : Value := .agg #[.bool false, .slice none 0 0, .int .i64 0]
def IsE (w : World) : Er → Value → Prop
  | .ok, v => v = .agg #[.bool false, .slice none 0 0, .int .i64 0]
  | .num c, v => v = .agg #[.bool true, .slice none 0 0, .int .i64 c]
  | .at_ kind k c, v => ∃ g cap, v = .agg #[.bool true, .slice (some ⟨g, 0, none⟩) 1 cap, .int .i64 c] ∧ w.cell? ⟨g, 0, none⟩ = some (.int .i64 kind) ∧ w.cell? ⟨g, 1, none⟩ = some (.int .i64 k)
theorem IsE.below {w w1 : World} {er : Er} {v : Value} (h : IsE w er v) (hb : Below w.heap.size w w1) : IsE w1 er v := by
  cases er with
  | ok => exact h
  | num c => exact h
  | at_ kind k c =>
    obtain ⟨g, cap, rfl, h1, h2⟩ := h
    refine ⟨g, cap, rfl, ?_, ?_⟩
    · rw [← h1]; unfold World.cell?; rw [hb.block _ (World.block_lt_of_cell? _ _ h1)]
    · rw [← h2]; unfold World.cell?; rw [hb.block _ (World.block_lt_of_cell? _ _ h2)]
set_option maxRecDepth 100000 in
theorem refN_calls (w : World) (n : Int) :
    Calls Try.prog 13 #[.int .i64 n] w fun e w' => e = .returned (.agg #[.bool true, .slice none 0 0, .int .i64 n]) ∧ w' = w.alloc (.cells #[.bool true, .slice none 0 0, .int .i64 n] 28) := by
  go_enter Try.func13, Try.ntmps13
  go_wp2
  (try simp only [Exit.inBlock, Exit.then])
  exact bodyPost_ret (v := .agg #[.bool true, .slice none 0 0, .int .i64 n]) (by simp [results, Try.results13, go_sem]) rfl ⟨rfl, rfl⟩
theorem below_first {w W : World} {o : Obj} (h : Below (w.alloc o).heap.size (w.alloc o) W) : Below w.heap.size w W := below_weaken (below_alloc (Below.refl _ _) o) (by simp) h
end Go.Proofs.Ythgfodfkjlpegaa
