/- The references' Has: does a number stand in a list? -/
import Derived.Test.YtpnokpoikhpiiaaBase
namespace Go.Proofs.Ytpnokpoikhpiiaa
open Go.RowKit Go.Proofs.YtpnokpoikhpiiaaW.PrintWords Go.Proofs.YtpnokpoikhpiiaaW.PrintLast Go.Proofs.YtpnokpoikhpiiaaW.PrintMore
set_option linter.unusedVariables false
set_option linter.unusedSimpArgs false
set_option maxRecDepth 100000 in
theorem has_calls (w : World) (A : Option Addr) (c : Nat) (xs : List Int) (n : Int) (hr : (Kd.int .i64).C w A xs.length xs) :
    Calls Try.prog 13 #[.slice A xs.length c, .int .i64 n] w fun e w' => e = .returned (.bool (decide (n ∈ xs))) ∧ w = w' := by
  have HR := Lib.hid hr
  have hm : (xs.length : Int) ≤ 9223372036854775807 := by have := hr.2.1; omega
  clear hr
  go_enter Try.func13, Try.ntmps13
  go_wp2
  go_loop [9] (fun v => ∃ k : Nat, k ≤ xs.length ∧ v = .int .i64 k ∧ Hid (n ∉ xs.take k)) (fun v => xs.length - (intOf v).toNat)
  case atStart => exact ⟨0, Nat.zero_le _, rfl, by unfold Hid; simp⟩
  case round =>
    obtain ⟨k, hk, rfl, hno⟩ := hrel
    by_cases hlt : k < xs.length
    · obtain ⟨ad, rfl, hcell⟩ := C_cell HR.out hlt
      have HL := Lib.hid hlt
      have k0 : (0 : Int) ≤ k := by omega
      have k1 : (k : Int) < xs.length := by omega
      by_cases he : n = rd xs k
      · have hb : (rd xs k == n) = true := beq_iff_eq.2 he.symm
        have HE := Lib.hid (show decide (n ∈ xs) = true by rw [he]; simpa using rd_mem xs k hlt)
        clear he hlt
        go_wp2
        go_ret
        rw [HE.out]
        exact ⟨rfl, rfl⟩
      · have hb : (rd xs k == n) = false := beq_eq_false_iff_ne.2 (fun e => he e.symm)
        have HE := Lib.hid he
        clear he hlt
        go_wp2
        go_round
        case rel =>
          refine ⟨k + 1, by omega, by go_num, ?_⟩
          unfold Hid
          rw [take_rd _ _ HL.out, List.mem_append]
          rintro (h | h)
          · exact hno.out h
          · simp at h; exact HE.out h
        case measure => simp [intOf]; omega
    · have k1 : ¬ (k : Int) < xs.length := by omega
      have HK := Lib.hid (show k = xs.length by omega)
      clear hlt
      go_wp2
      go_ret
      have h1 := hno.out
      rw [HK.out, List.take_length] at h1
      rw [decide_eq_false h1]
      exact ⟨rfl, rfl⟩
end Go.Proofs.Ytpnokpoikhpiiaa
