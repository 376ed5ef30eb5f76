/- slices.Clone at []int: new memory. -/
import Derived.Test.YtpnokpoikhpiiaaBase
import Derived.Lib.SliceRun
namespace Go.Proofs.Ytpnokpoikhpiiaa
open Go.RowKit Go.Proofs.YtpnokpoikhpiiaaW.PrintWords Go.Proofs.YtpnokpoikhpiiaaW.PrintLast Go.Proofs.YtpnokpoikhpiiaaW.PrintMore
set_option linter.unusedVariables false
set_option linter.unusedSimpArgs false
set_option maxRecDepth 100000 in
theorem clone_calls (w : World) (A : Option Addr) (c : Nat) (xs : List Int) (hr : (Kd.int .i64).C w A xs.length xs) (hl : xs.length * 8 ≤ 140737488351232) :
    Calls Try.prog 22 #[.slice A xs.length c] w fun e w' => ∃ v, e = .returned v ∧ (Kd.int .i64).R 3 w' w.heap.size (fun _ => True) v xs ∧ Below w.heap.size w w' := by
  have HR := Lib.hid hr
  have HL := Lib.hid hl
  clear hl
  cases A with
  | none =>
    have h0 : xs = [] := by
      rcases Nat.eq_zero_or_pos xs.length with h | h
      · exact List.eq_nil_of_length_eq_zero h
      · obtain ⟨ad, h, _⟩ := hr.2.2 h; cases h
    subst h0
    have heq := fun W => Lib.run_eql_slice_nil (P := Try.prog) W 22 3 none 0 c 0 0 Try.underlying22
    clear hr
    go_enter Try.func22, Try.ntmps22
    go_wp2
    go_ret
    exact ⟨_, rfl, Kd.R_nil _ _ _ _ _, Below.refl _ _⟩
  | some ad =>
    have heq := fun W => Lib.run_eql_slice_nil (P := Try.prog) W 22 3 (some ad) xs.length c 0 0 Try.underlying22
    clear hr
    go_enter Try.func22, Try.ntmps22
    go_wp2_with (first
      | (at_builtin; refine Kd.R_append_rows (Kd.int .i64) (w0 := w) w.heap.size rfl _ _ _ 3 (.int .i64 0) 8 rfl Try.underlying22 info3 rfl (by decide) (by omega) (.slice (some ⟨w.heap.size, 0, none⟩) 0 0) [] xs (some ad) xs.length c (fun _ => True) (fun _ => False) rfl rfl (empty_row w _ _ (Nat.le_refl _) trivial _) (Kd.C_alloc HR.out _) (fun _ _ h => h) (fun _ hk => hk.elim) (fun _ _ => trivial) (below_alloc (Below.refl _ _) _) (by simp) (by have := HL.out; simp; omega) ?_; intro v1 w1 ho hb hg hat; have HO := Aside0.mk ho; have HB := Aside0.mk hb; clear ho hb hg hat))
    go_ret
    exact ⟨_, rfl, by simpa using HO.out, HB.out⟩
end Go.Proofs.Ytpnokpoikhpiiaa
