/- The law's own function same, at lists that are alike. -/
import Derived.Test.YthgfodfkjlpegaaDoorPoW
namespace Go.Proofs.YthgfodfkjlpegaaDoor
open Go.RowKit Go.Proofs.YthgfodfkjlpegaaDoorW.PrintWords Go.Proofs.YthgfodfkjlpegaaDoorW.PrintLast Go.Proofs.YthgfodfkjlpegaaDoorW.PrintMore
set_option linter.unusedVariables false
set_option linter.unusedSimpArgs false
set_option maxRecDepth 100000 in
set_option maxHeartbeats 1000000 in
theorem same_calls_ld (w : World) (A B : Option Addr) (c d : Nat) (l : List Ld) (ha : kLd.C w A l.length l) (hb : kLd.C w B l.length l) :
    Calls Tryd.prog 16 #[.slice A l.length c, .slice B l.length d] w fun e w' => e = .returned (.bool true) ∧ Drawn0 w w' := by
  have HA := Lib.hid ha
  have HB := Lib.hid hb
  have hm : (l.length : Int) ≤ 9223372036854775807 := by have : l.length ≤ 9223372036854775807 := ha.2.1; omega
  clear ha hb
  go_enter Tryd.func16, Tryd.ntmps16
  go_wp2
  go_loopw [13] (fun v13 wr => ∃ k : Nat, v13 = .int .i64 k ∧ k ≤ l.length ∧ Drawn0 w wr) (fun v _ => l.length - (intOf v).toNat)
  case atStart => exact ⟨0, rfl, Nat.zero_le _, ⟨⟨0, rfl⟩⟩⟩
  case round =>
    obtain ⟨k, rfl, hk, HD⟩ := hrel
    by_cases hlt : k < l.length
    · have hD := HD
      obtain ⟨⟨nd, rfl⟩⟩ := hD
      obtain ⟨ad, rfl, x0, x1, x2⟩ := Ld_cell (kLd.C_drewN HA.out nd) hlt
      obtain ⟨bd, rfl, y0, y1, y2⟩ := Ld_cell (kLd.C_drewN HB.out nd) hlt
      have k0 : (0 : Int) ≤ k := by omega
      have k1 : (k : Int) < l.length := by omega
      have HLT := Lib.hid hlt
      generalize (ldAt l k).sub = xs at *
      generalize (ldAt l k).node = xn at *
      generalize (ldAt l k).weight = xw at *
      have e0 : (xs != xs) = false := by simp
      have e1 : (xn != xn) = false := by simp
      have e2 : (xw != xw) = false := by simp
      clear hlt
      obtain ⟨wk, hwk⟩ : ∃ wk, wk = w.drewN nd := ⟨_, rfl⟩
      rw [← hwk] at x0 x1 x2 y0 y1 y2 HD ⊢
      clear hwk
      go_wp2
      go_quiet (fail)
      go_wp2
      go_roundw
      case rel => exact ⟨k + 1, by go_num, by have := HLT.out; omega, HD.step nq⟩
      case measure => have := HLT.out; simp [intOf]; omega
    · have k1 : ¬ (k : Int) < l.length := by omega
      clear hlt
      go_wp2
      go_ret
      exact ⟨rfl, HD⟩
end Go.Proofs.YthgfodfkjlpegaaDoor
