/- A nil desk. -/
import Derived.Test.YtmhfigkdeeldnaaDoorCmRep
namespace Go.Proofs.YtmhfigkdeeldnaaDoor
open Go.RowKit Go.Proofs.YtmhfigkdeeldnaaDoorW.PrintWords Go.Proofs.YtmhfigkdeeldnaaDoorW.PrintLast Go.Proofs.YtmhfigkdeeldnaaDoorW.PrintMore
set_option linter.unusedVariables false
set_option linter.unusedSimpArgs false
def errNil : Value := .iface 36 (.int .i64 19)
set_option maxRecDepth 100000 in
theorem begin_nil (w : World) (A : Option Addr) (n c : Nat) : Calls Tryd.prog 10 #[.pointer none, .slice A n c] w fun e w' => e = .returned (.tuple #[.int .i64 0, .iface 36 (.int .i64 19)]) ∧ w = w' := by
  go_enter Tryd.func10, Tryd.ntmps10
  go_wp2
  go_ret2
  exact ⟨rfl, rfl⟩
set_option maxRecDepth 100000 in
theorem ready_nil (w : World) (i n : Int) : Calls Tryd.prog 13 #[.pointer none, .int .i64 i, .int .i64 n] w fun e w' => e = .returned (.iface 36 (.int .i64 19)) ∧ w = w' := by
  go_enter Tryd.func13, Tryd.ntmps13
  go_wp2
  go_ret
  exact ⟨rfl, rfl⟩
set_option maxRecDepth 100000 in
theorem done_nil (w : World) (i n : Int) : Calls Tryd.prog 14 #[.pointer none, .int .i64 i, .int .i64 n] w fun e w' => e = .returned (.iface 36 (.int .i64 19)) ∧ w = w' := by
  go_enter Tryd.func14, Tryd.ntmps14
  go_wp2
  go_ret
  exact ⟨rfl, rfl⟩
set_option maxRecDepth 100000 in
theorem cancel_nil (w : World) (i : Int) : Calls Tryd.prog 15 #[.pointer none, .int .i64 i] w fun e w' => e = .returned (.iface 36 (.int .i64 19)) ∧ w = w' := by
  go_enter Tryd.func15, Tryd.ntmps15
  go_wp2
  go_ret
  exact ⟨rfl, rfl⟩
set_option maxRecDepth 100000 in
theorem recover_nil (w : World) : Calls Tryd.prog 11 #[.pointer none] w fun e w' => e = .returned (.tuple #[]) ∧ w = w' := by
  go_enter Tryd.func11, Tryd.ntmps11
  go_wp2
  go_end0
  exact ⟨rfl, rfl⟩
set_option maxRecDepth 100000 in
theorem state_nil (w : World) : Calls Tryd.prog 16 #[.pointer none] w fun e w' => e = .returned (.int .i64 0) ∧ w = w' := by
  go_enter Tryd.func16, Tryd.ntmps16
  go_wp2
  go_ret
  exact ⟨rfl, rfl⟩
set_option maxRecDepth 100000 in
theorem change_nil (w : World) : Calls Tryd.prog 17 #[.pointer none] w fun e w' => e = .returned (.int .i64 0) ∧ w = w' := by
  go_enter Tryd.func17, Tryd.ntmps17
  go_wp2
  go_ret
  exact ⟨rfl, rfl⟩
set_option maxRecDepth 100000 in
theorem waits_nil (w : World) : Calls Tryd.prog 18 #[.pointer none] w fun e w' => e = .returned (.slice none 0 0) ∧ w = w' := by
  go_enter Tryd.func18, Tryd.ntmps18
  go_wp2
  go_ret
  exact ⟨rfl, rfl⟩
set_option maxRecDepth 100000 in
theorem decided_nil (w : World) (i : Int) : Calls Tryd.prog 19 #[.pointer none, .int .i64 i] w fun e w' => e = .returned (.int .i64 0) ∧ w = w' := by
  go_enter Tryd.func19, Tryd.ntmps19
  go_wp2
  go_ret
  exact ⟨rfl, rfl⟩
end Go.Proofs.YtmhfigkdeeldnaaDoor
