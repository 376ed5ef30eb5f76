/- link: what is refused. -/
import Derived.Test.YtcdhjkkdenhmcaaDoorLkA
namespace Go.Proofs.YtcdhjkkdenhmcaaDoor
open Go.RowKit Go.Proofs.YtcdhjkkdenhmcaaDoorW.PrintWords Go.Proofs.YtcdhjkkdenhmcaaDoorW.PrintLast Go.Proofs.YtcdhjkkdenhmcaaDoorW.PrintMore
set_option linter.unusedVariables false
set_option linter.unusedSimpArgs false
set_option maxRecDepth 100000 in
theorem pushFull_calls (w : World) (lo : Nat) (K : Nat → Prop) (N : En) (p : Nat) (B : Option Addr) (d : Nat) (m : List UInt8) (hF : EnFine N) (hE : IsEnd w lo K N p) (hl : m.length ≤ 65536) (hq : N.tld + 4096 ≤ N.out.length) :
    Calls Tryd.prog 7 #[.pointer (some ⟨p, 0, none⟩), .slice B m.length d] w fun e w' => e = .returned (.iface 32 (.int .i64 11)) ∧ Drawn0 w w' := by
  obtain ⟨A, c, z⟩ := hE
  obtain ⟨c0, c1, c2, c3, c4, c5, c6⟩ := z.cells
  have h1 := hF.ol
  have h2 := hF.so1
  have h3 := hF.to1
  have b0 : (m.length : Int) ≤ 65536 := by omega
  have b1 : decide ((m.length : Int) > 65536) = false := decide_eq_false (by omega)
  have b2 : (N.out.length : Int) ≤ 100000 := by omega
  have b3 : (N.tld : Int) ≤ N.out.length := by omega
  have b4 : decide ((N.out.length : Int) - N.tld ≥ 4096) = true := decide_eq_true (by omega)
  have b5 : (0 : Int) ≤ N.tld := by omega
  obtain ⟨y, hy⟩ : ∃ y, y = (N.tld : Int) := ⟨_, rfl⟩
  rw [← hy] at c3 b3 b4 b5
  clear z hF hl c0 c2 c4 c5 c6 h1 h2 h3 hq hy
  go_enter Tryd.func7, Tryd.ntmps7
  go_wp2
  go_quiet (fail)
  go_wp2
  go_ret
  exact ⟨rfl, ⟨⟨_, rfl⟩⟩⟩
set_option maxRecDepth 100000 in
theorem pushLong_calls (w : World) (p : Nat) (B : Option Addr) (n d : Nat) (hl : 65536 < n) (hm : n ≤ 1099511627776) :
    Calls Tryd.prog 7 #[.pointer (some ⟨p, 0, none⟩), .slice B n d] w fun e w' => e = .returned (.iface 32 (.int .i64 2)) ∧ w' = w := by
  have b0 : (n : Int) ≤ 1099511627776 := by omega
  have b1 : decide ((n : Int) > 65536) = true := decide_eq_true (by omega)
  clear hl hm
  go_enter Tryd.func7, Tryd.ntmps7
  go_wp2
  go_ret
  exact ⟨rfl, rfl⟩
set_option maxRecDepth 100000 in
theorem newBad_calls (w : World) (n : Int) (h : n < 1 ∨ 64 < n) :
    Calls Tryd.prog 6 #[.int .i64 n] w fun e w' => e = .returned (.tuple #[.pointer none, .iface 32 (.int .i64 1)]) ∧ w' = w := by
  by_cases h1 : n < 1
  · have e1 : decide (n < 1) = true := decide_eq_true h1
    go_enter Tryd.func6, Tryd.ntmps6
    go_wp2
    go_ret2
    exact ⟨rfl, rfl⟩
  · have e1 : decide (n < 1) = false := decide_eq_false h1
    have e2 : decide (n > 64) = true := decide_eq_true (by omega)
    have e4 : n > 64 := by omega
    go_enter Tryd.func6, Tryd.ntmps6
    go_wp2
    go_ret2
    exact ⟨rfl, rfl⟩
section
set_option maxRecDepth 100000
theorem pushNil_calls (w : World) (v : Value) : Calls Tryd.prog 7 #[.pointer none, v] w fun e w' => e = .returned (.iface 32 (.int .i64 19)) ∧ w' = w := by
  go_enter Tryd.func7, Tryd.ntmps7
  go_wp2
  go_ret
  exact ⟨rfl, rfl⟩
theorem receiveNil_calls (w : World) (v u : Value) : Calls Tryd.prog 12 #[.pointer none, v, u] w fun e w' => e = .returned (.tuple #[.slice none 0 0, .iface 32 (.int .i64 19)]) ∧ w' = w := by
  go_enter Tryd.func12, Tryd.ntmps12
  go_wp2
  go_ret2
  exact ⟨rfl, rfl⟩
theorem packetNil_calls (w : World) : Calls Tryd.prog 11 #[.pointer none] w fun e w' => e = .returned (.tuple #[.slice none 0 0, .bool false]) ∧ Drawn0 w w' := by
  go_enter Tryd.func11, Tryd.ntmps11
  go_wp2
  go_quiet (fail)
  go_wp2
  go_ret2
  exact ⟨rfl, ⟨⟨_, rfl⟩⟩⟩
theorem commitNil_calls (w : World) : Calls Tryd.prog 10 #[.pointer none] w fun e w' => e = .returned (.iface 32 (.int .i64 19)) ∧ w' = w := by
  go_enter Tryd.func10, Tryd.ntmps10
  go_wp2
  go_ret
  exact ⟨rfl, rfl⟩
theorem crashNil_calls (w : World) : Calls Tryd.prog 16 #[.pointer none] w fun e w' => e = .returned (.iface 32 (.int .i64 19)) ∧ w' = w := by
  go_enter Tryd.func16, Tryd.ntmps16
  go_wp2
  go_ret
  exact ⟨rfl, rfl⟩
theorem sentNil_calls (w : World) : Calls Tryd.prog 17 #[.pointer none] w fun e w' => e = .returned (.int .i64 0) ∧ w' = w := by
  go_enter Tryd.func17, Tryd.ntmps17
  go_wp2
  go_ret
  exact ⟨rfl, rfl⟩
theorem gotNil_calls (w : World) : Calls Tryd.prog 15 #[.pointer none] w fun e w' => e = .returned (.int .i64 0) ∧ w' = w := by
  go_enter Tryd.func15, Tryd.ntmps15
  go_wp2
  go_ret
  exact ⟨rfl, rfl⟩
theorem openNil_calls (w : World) : Calls Tryd.prog 13 #[.pointer none] w fun e w' => e = .returned (.int .i64 0) ∧ w' = w := by
  go_enter Tryd.func13, Tryd.ntmps13
  go_wp2
  go_ret
  exact ⟨rfl, rfl⟩
end
end Go.Proofs.YtcdhjkkdenhmcaaDoor
