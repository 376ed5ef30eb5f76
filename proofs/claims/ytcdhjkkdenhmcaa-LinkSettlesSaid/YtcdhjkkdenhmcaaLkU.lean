/- A number that was put is taken. -/
import Derived.Test.YtcdhjkkdenhmcaaLkBs
namespace Go.Proofs.Ytcdhjkkdenhmcaa
open Go.RowKit Go.Proofs.YtcdhjkkdenhmcaaW.PrintWords Go.Proofs.YtcdhjkkdenhmcaaW.PrintLast Go.Proofs.YtcdhjkkdenhmcaaW.PrintMore
set_option linter.unusedVariables false
set_option linter.unusedSimpArgs false
theorem tkU_uints : ∀ (k x : Nat) (rest : List UInt8) (i acc : Nat), i + k = 9 → x < 2 ^ (7 * k + 1) → (0 < i → 0 < x) → tkU (uintsF x ++ rest) i acc = .ok (acc + x * 2 ^ (7 * i)) (i + (uintsF x).length)
  | 0, x, rest, i, acc, hi, hx, h0 => by
    have hx2 : x < 2 := by simpa using hx
    rw [uintsF_small (by omega)]
    have hb : (UInt8.ofNat x).toNat = x := by rw [UInt8.toNat_ofNat']; omega
    show tkU (UInt8.ofNat x :: rest) i acc = _
    unfold tkU
    rw [hb, if_neg (by omega), if_pos (by omega), Nat.mod_eq_of_lt (show x < 128 by omega)]
    rfl
  | k + 1, x, rest, i, acc, hi, hx, h0 => by
    by_cases hs : x < 128
    · rw [uintsF_small hs]
      have hb : (UInt8.ofNat x).toNat = x := by rw [UInt8.toNat_ofNat']; omega
      show tkU (UInt8.ofNat x :: rest) i acc = _
      unfold tkU
      rw [hb, if_neg (by omega), if_pos (by omega), Nat.mod_eq_of_lt hs]
      rfl
    · rw [uintsF_big hs]
      have hb : (UInt8.ofNat (x % 128 + 128)).toNat = x % 128 + 128 := by rw [UInt8.toNat_ofNat']; omega
      show tkU (UInt8.ofNat (x % 128 + 128) :: (uintsF (x / 128) ++ rest)) i acc = _
      unfold tkU
      have e : 7 * (k + 1) + 1 = 7 * k + 1 + 7 := by omega
      rw [e, Nat.pow_add] at hx
      rw [hb, if_neg (by omega), if_neg (by omega), tkU_uints k (x / 128) rest (i + 1) _ (by omega) (Nat.div_lt_of_lt_mul (by rw [Nat.mul_comm]; exact hx)) (by omega)]
      have e2 : 7 * (i + 1) = 7 * i + 7 := by omega
      have e3 : (x % 128 + 128) % 128 = x % 128 := by omega
      rw [e2, Nat.pow_add, e3]
      have e4 : x / 128 * (2 ^ (7 * i) * 2 ^ 7) = x / 128 * 128 * 2 ^ (7 * i) := by
        rw [Nat.mul_assoc, Nat.mul_comm 128]
      rw [e4, Nat.add_assoc, ← Nat.add_mul]
      have e5 : x % 128 + x / 128 * 128 = x := by omega
      rw [e5]
      simp only [List.length_cons]
      congr 1
      omega
theorem takeU_uints (pre rest : List UInt8) (x : Nat) (hx : x < 18446744073709551616) : takeU (pre ++ (uintsF x ++ rest)) (pre.length : Nat) = (x, ((pre.length + (uintsF x).length : Nat) : Int), .ok) := by
  unfold takeU
  rw [if_pos (by simp; omega), Int.toNat_natCast, List.drop_left, tkU_uints 9 x rest 0 0 (by omega) hx (by omega)]
  simp
end Go.Proofs.Ytcdhjkkdenhmcaa
