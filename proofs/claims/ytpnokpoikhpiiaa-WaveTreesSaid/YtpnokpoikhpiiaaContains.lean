/- slices.Index and slices.Contains at []int. -/
import Derived.Test.YtpnokpoikhpiiaaBase
namespace Go.Proofs.Ytpnokpoikhpiiaa
open Go.RowKit Go.Proofs.YtpnokpoikhpiiaaW.PrintWords Go.Proofs.YtpnokpoikhpiiaaW.PrintLast Go.Proofs.YtpnokpoikhpiiaaW.PrintMore
set_option linter.unusedVariables false
set_option linter.unusedSimpArgs false

def idx (xs : List Int) (n : Int) : Int := if n ∈ xs then (xs.idxOf n : Int) else -1
theorem idx_hit {xs : List Int} {k : Nat} (h : k < xs.length) (hno : rd xs k ∉ xs.take k) : idx xs (rd xs k) = k := by
  unfold idx
  rw [if_pos (rd_mem _ _ h)]
  have e : xs = xs.take k ++ rd xs k :: xs.drop (k + 1) := by
    conv => lhs; rw [← List.take_append_drop k xs, List.drop_eq_getElem_cons h, ← rd_get xs k h]
  have h2 : xs.idxOf (rd xs k) = k := by
    generalize hr : rd xs k = r at *
    rw [e, List.idxOf_append, if_neg hno]
    simp; omega
  omega
theorem idx_miss {xs : List Int} {n : Int} (h : n ∉ xs) : idx xs n = -1 := by unfold idx; rw [if_neg h]
theorem idx_nonneg (xs : List Int) (n : Int) : decide (idx xs n ≥ 0) = decide (n ∈ xs) := by
  unfold idx
  by_cases h : n ∈ xs
  · simp [h]
  · simp [h]
theorem idx_bound (xs : List Int) (n : Int) : -1 ≤ idx xs n ∧ idx xs n ≤ xs.length := by
  unfold idx
  by_cases h : n ∈ xs
  · rw [if_pos h]; have := List.idxOf_lt_length_of_mem h; omega
  · rw [if_neg h]; omega

set_option maxRecDepth 100000 in
theorem index_calls (w : World) (A : Option Addr) (c : Nat) (xs : List Int) (n : Int) (hr : (Kd.int .i64).C w A xs.length xs) :
    Calls Try.prog 25 #[.slice A xs.length c, .int .i64 n] w fun e w' => e = .returned (.int .i64 (idx xs n)) ∧ w = w' := by
  have HR := Lib.hid hr
  have hm : (xs.length : Int) ≤ 9223372036854775807 := by have := hr.2.1; omega
  clear hr
  go_enter Try.func25, Try.ntmps25
  go_wp2
  go_loop [8] (fun v => ∃ k : Nat, k ≤ xs.length ∧ v = .int .i64 k ∧ Hid (n ∉ xs.take k)) (fun v => xs.length - (intOf v).toNat)
  case atStart => exact ⟨0, Nat.zero_le _, rfl, by unfold Hid; simp⟩
  case round =>
    obtain ⟨k, hk, rfl, hno⟩ := hrel
    by_cases hlt : k < xs.length
    · obtain ⟨ad, rfl, hcell⟩ := C_cell HR.out hlt
      have HL := Lib.hid hlt
      have k0 : (0 : Int) ≤ k := by omega
      have k1 : (k : Int) < xs.length := by omega
      by_cases he : n = rd xs k
      · have hb : (n == rd xs k) = true := beq_iff_eq.2 he
        have HE := Lib.hid he
        clear he hlt
        go_wp2
        go_ret
        refine ⟨?_, rfl⟩
        have h1 := hno.out
        rw [HE.out] at h1 ⊢
        rw [idx_hit HL.out h1]
        rfl
      · have hb : (n == rd xs k) = false := beq_eq_false_iff_ne.2 he
        have HE := Lib.hid he
        clear he hlt
        go_wp2
        go_round
        case rel =>
          refine ⟨k + 1, by omega, by go_num, ?_⟩
          unfold Hid
          rw [take_rd _ _ HL.out, List.mem_append]
          rintro (h | h)
          · exact hno.out h
          · simp at h; exact HE.out h
        case measure => simp [intOf]; omega
    · have k1 : ¬ (k : Int) < xs.length := by omega
      have HK := Lib.hid (show k = xs.length by omega)
      clear hlt
      go_wp2
      go_ret
      have h1 := hno.out
      rw [HK.out, List.take_length] at h1
      rw [idx_miss h1]
      exact ⟨rfl, rfl⟩

theorem contains_calls (w : World) (A : Option Addr) (c : Nat) (xs : List Int) (n : Int) (hr : (Kd.int .i64).C w A xs.length xs) :
    Calls Try.prog 21 #[.slice A xs.length c, .int .i64 n] w fun e w' => e = .returned (.bool (decide (n ∈ xs))) ∧ w = w' := by
  have HR := Lib.hid hr
  clear hr
  go_enter Try.func21, Try.ntmps21
  go_wp2_with (go_at_call 25; refine (index_calls _ _ _ xs _ HR.out).mono ?_; rintro e w' ⟨rfl, rfl⟩)
  go_ret
  refine ⟨?_, rfl⟩
  rw [← idx_nonneg]
  rfl
end Go.Proofs.Ytpnokpoikhpiiaa
