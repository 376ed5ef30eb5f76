/- wire: step, nibble, Sum: the program's check sum is the sum. -/
import Derived.Test.YthacedijfjcbcaaDoorBy
import Derived.Test.YthacedijfjcbcaaDoorCrc
namespace Go.Proofs.YthacedijfjcbcaaDoor
open Go.RowKit Go.Proofs.YthacedijfjcbcaaDoorW.PrintWords Go.Proofs.YthacedijfjcbcaaDoorW.PrintLast Go.Proofs.YthacedijfjcbcaaDoorW.PrintMore
set_option linter.unusedVariables false
set_option linter.unusedSimpArgs false

theorem and1 (t : Nat) (h : t < 4294967296) : bits .and .u32 (t : Int) 1 = ((t % 2 : Nat) : Int) := by
  rw [show (1 : Int) = ((1 : Nat) : Int) from rfl, u32_and_nat _ _ h (by decide), Nat.and_one_is_mod]
theorem and15 (t : Nat) (h : t < 4294967296) : bits .and .u32 (t : Int) 15 = ((t % 16 : Nat) : Int) := by
  rw [show (15 : Int) = ((15 : Nat) : Int) from rfl, u32_and_nat _ _ h (by decide)]
  congr 1
  exact Nat.and_two_pow_sub_one_eq_mod t 4
theorem and1_true {t : Nat} (h : t < 4294967296) (h1 : t % 2 = 1) : (bits .and .u32 (t : Int) 1 == 1) = true := by rw [and1 t h, h1]; rfl
theorem and1_false {t : Nat} (h : t < 4294967296) (h1 : ¬ t % 2 = 1) : (bits .and .u32 (t : Int) 1 == 1) = false := by
  rw [and1 t h, show t % 2 = 0 by omega]
  rfl
theorem u32_eq {a b : Int} (h : a = b) : Value.int .u32 a = Value.int .u32 b := by rw [h]
theorem ret_u32 {a b : Int} (h : a = b) : Ending.returned (.int .u32 a) = .returned (.int .u32 b) := by rw [h]

set_option maxRecDepth 100000 in
theorem step_calls (w : World) (i : Int) (h0 : 0 ≤ i) (h1 : i ≤ 31) :
    Calls Tryd.prog 48 #[.int .i64 i] w fun e w' => e = .returned (.int .u32 (stepN i.toNat : Nat)) ∧ w = w' := by
  obtain ⟨n, rfl⟩ := Int.eq_ofNat_of_zero_le h0
  rw [Int.toNat_natCast]
  clear h0
  go_enter Tryd.func48, Tryd.ntmps48
  go_wp2
  go_loop [3, 5] (fun v0 v => ∃ (k t : Nat), v = .int .i64 k ∧ k ≤ n ∧ v0 = .int .u32 t ∧ Hid (t = stepN k)) (fun _ v => n - (intOf v).toNat)
  case atStart => exact ⟨0, 3988292384, rfl, Nat.zero_le _, rfl, rfl⟩
  case round =>
    obtain ⟨k, t, rfl, hk, rfl, ht⟩ := hrel
    have htl := stepN_lt k
    rw [← ht.out] at htl
    by_cases hlt : k < n
    · have k1 : (k : Int) < n := by omega
      have t1 : (t : Int) ≤ 4294967295 := by omega
      have HTL := Lib.hid htl
      clear hlt
      by_cases hb : t % 2 = 1
      · have hbb := and1_true htl hb
        have HB := Lib.hid hb
        clear hb htl
        go_wp2
        go_round
        case rel =>
          refine ⟨k + 1, t / 2 ^^^ 3988292384, by go_num, by omega, ?_, ?_⟩
          · refine u32_eq ?_
            have e : (t : Int) / 2 = ((t / 2 : Nat) : Int) := by omega
            rw [e, show (3988292384 : Int) = ((3988292384 : Nat) : Int) from rfl, u32_xor_nat _ _ (by have := HTL.out; omega) (by decide)]
          · show _ = st1 (stepN k)
            rw [← ht.out]
            unfold st1
            rw [if_pos HB.out]
        case measure => simp [intOf]; omega
      · have hbb := and1_false htl hb
        have HB := Lib.hid hb
        clear hb htl
        go_wp2
        go_round
        case rel =>
          refine ⟨k + 1, t / 2, by go_num, by omega, ?_, ?_⟩
          · refine u32_eq ?_
            omega
          · show _ = st1 (stepN k)
            rw [← ht.out]
            unfold st1
            rw [if_neg HB.out]
        case measure => simp [intOf]; omega
    · have k1 : ¬ (k : Int) < n := by omega
      have HE := Lib.hid (show k = n by omega)
      clear hlt
      go_wp2
      go_ret
      refine ⟨ret_u32 ?_, rfl⟩
      rw [ht.out, HE.out]

set_option maxRecDepth 100000 in
set_option maxHeartbeats 1000000 in
theorem nibble_calls (w : World) (s : Nat) (hs : s < 4294967296) :
    Calls Tryd.prog 39 #[.int .u32 (s : Int)] w fun e w' => e = .returned (.int .u32 (nibN s : Nat)) ∧ w = w' := by
  have s1 : (s : Int) ≤ 4294967295 := by omega
  obtain ⟨r, hr⟩ : ∃ r, r = s % 16 := ⟨_, rfl⟩
  have h15 := and15 s hs
  rw [← hr] at h15
  have hr16 : (r : Int) ≤ 15 := by omega
  have HR := Lib.hid hr
  have HS := Lib.hid hs
  clear hr hs
  go_enter Tryd.func39, Tryd.ntmps39
  go_wp2
  go_loop [0, 9] (fun v0 v => ∃ (k t : Nat), v = .int .i64 k ∧ k ≤ 4 ∧ v0 = .int .u32 t ∧ Hid (t = nibP r (s / 16) k ∧ t < 4294967296)) (fun _ v => 4 - (intOf v).toNat)
  case atStart => exact ⟨0, s / 16, rfl, by omega, u32_eq (by omega), ⟨rfl, by have := HS.out; omega⟩⟩
  case round =>
    obtain ⟨k, t, rfl, hk, rfl, ht⟩ := hrel
    have t1 : (t : Int) ≤ 4294967295 := by have := ht.out.2; omega
    by_cases hlt : k < 4
    · have k1 : (k : Int) < 4 := by omega
      have k0 : (0 : Int) ≤ k := by omega
      have hq : r / 2 ^ k < 4294967296 := by
        have := Nat.div_le_self r (2 ^ k)
        omega
      have e : (r : Int) / 2 ^ k = ((r / 2 ^ k : Nat) : Int) := by simp
      clear hlt
      by_cases hb : r / 2 ^ k % 2 = 1
      · have hbb := and1_true hq hb
        rw [← e] at hbb
        have HB := Lib.hid hb
        clear hb hq e
        go_wp2_with (go_at_call 48; refine (step_calls _ _ (by omega) (by omega)).mono ?_; rintro e w1 ⟨rfl, rfl⟩)
        go_round
        case rel =>
          have e3 : ((3 : Int) - k).toNat = 3 - k := by omega
          refine ⟨k + 1, t ^^^ stepN (3 - k), by go_num, by omega, ?_, ?_, Nat.xor_lt_two_pow (n := 32) ht.out.2 (stepN_lt _)⟩
          · refine u32_eq ?_
            first | rw [u32_xor_nat _ _ ht.out.2 (stepN_lt _)] | rw [e3, u32_xor_nat _ _ ht.out.2 (stepN_lt _)]
          · show _ = if r / 2 ^ k % 2 = 1 then _ else _
            rw [if_pos HB.out, ht.out.1]
        case measure => simp [intOf]; omega
      · have hbb := and1_false hq hb
        rw [← e] at hbb
        have HB := Lib.hid hb
        clear hb hq e
        go_wp2
        go_round
        case rel =>
          refine ⟨k + 1, t, by go_num, by omega, rfl, ?_, ht.out.2⟩
          show _ = if r / 2 ^ k % 2 = 1 then _ else _
          rw [if_neg HB.out, ht.out.1]
        case measure => simp [intOf]; omega
    · have k1 : ¬ (k : Int) < 4 := by omega
      have HE := Lib.hid (show k = 4 by omega)
      clear hlt
      go_wp2
      go_ret
      refine ⟨ret_u32 ?_, rfl⟩
      rw [ht.out.1, HE.out, HR.out, nibP_all]

set_option maxRecDepth 100000 in
set_option maxHeartbeats 1000000 in
theorem sum_calls (w : World) (A : Option Addr) (c : Nat) (xs : List UInt8) (hx : kB.C w A xs.length xs) :
    Calls Tryd.prog 19 #[.slice A xs.length c] w fun e w' => e = .returned (.int .u32 (sumN xs : Nat)) ∧ w = w' := by
  have HX := Lib.hid hx
  have hm : (xs.length : Int) ≤ 9223372036854775807 := by have := hx.2.1; omega
  clear hx
  go_enter Tryd.func19, Tryd.ntmps19
  go_wp2
  go_loop [3, 8] (fun v3 v => ∃ (k t : Nat), v = .int .i64 k ∧ k ≤ xs.length ∧ v3 = .int .u32 t ∧ Hid (t = crcF 4294967295 (xs.take k) ∧ t < 4294967296)) (fun _ v => xs.length - (intOf v).toNat)
  case atStart => exact ⟨0, 4294967295, rfl, Nat.zero_le _, rfl, ⟨rfl, by decide⟩⟩
  case round =>
    obtain ⟨k, t, rfl, hk, rfl, ht⟩ := hrel
    have t1 : (t : Int) ≤ 4294967295 := by have := ht.out.2; omega
    by_cases hlt : k < xs.length
    · obtain ⟨ad, rfl, hcell⟩ := B_cell HX.out hlt
      have k0 : (0 : Int) ≤ k := by omega
      have k1 : (k : Int) < xs.length := by omega
      obtain ⟨b, hb⟩ : ∃ b, b = (gb xs k).toNat := ⟨_, rfl⟩
      have hb8 : b < 256 := by rw [hb]; exact (gb xs k).toNat_lt
      rw [← hb] at hcell
      have b1 : (b : Int) ≤ 255 := by omega
      have HL := Lib.hid hlt
      have HB := Lib.hid hb
      have hxor := u32_xor_nat t b ht.out.2 (by omega)
      have HN1 := Lib.hid (show t ^^^ b < 4294967296 from Nat.xor_lt_two_pow (n := 32) ht.out.2 (by omega))
      obtain ⟨z, hz⟩ : ∃ z, z = t ^^^ b := ⟨_, rfl⟩
      rw [← hz] at hxor HN1
      have HZ := Lib.hid hz
      clear hlt hb hb8 hz
      go_wp2_with (first
        | (go_at_call_of 39 (Value.int .u32 (z : Int)); refine (nibble_calls _ z HN1.out).mono ?_; rintro e w1 ⟨rfl, rfl⟩)
        | (go_at_call 39; refine (nibble_calls _ (nibN z) (nibN_lt HN1.out)).mono ?_; rintro e w1 ⟨rfl, rfl⟩))
      go_round
      case rel =>
        refine ⟨k + 1, nibN (nibN z), by go_num, by omega, rfl, ?_, nibN_lt (nibN_lt HN1.out)⟩
        rw [take_gb _ _ HL.out, crcF_snoc, ← ht.out.1, ← HB.out, HZ.out]
        rfl
      case measure => simp [intOf]; omega
    · have k1 : ¬ (k : Int) < xs.length := by omega
      have HE := Lib.hid (show k = xs.length by omega)
      clear hlt
      go_wp2
      go_ret
      refine ⟨ret_u32 ?_, rfl⟩
      have e : IntKind.u32.max = ((4294967295 : Nat) : Int) := by decide
      rw [e, u32_xor_nat _ _ (by decide) ht.out.2, Nat.xor_comm]
      congr 1
      rw [ht.out.1, HE.out, List.take_length]
      rfl
end Go.Proofs.YthacedijfjcbcaaDoor
