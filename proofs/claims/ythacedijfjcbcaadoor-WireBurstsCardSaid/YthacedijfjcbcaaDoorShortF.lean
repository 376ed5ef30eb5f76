/- What is cut short, in plain Lean. -/
import Derived.Test.YthacedijfjcbcaaDoorWBackFD
namespace Go.Proofs.YthacedijfjcbcaaDoor
set_option linter.unusedVariables false
set_option linter.unusedSimpArgs false
/-- A beginning of a number's bytes that is not all of them is too short. -/
theorem tkU_cut : ∀ (k x m : Nat) (i acc : Nat), i + k = 9 → x < 2 ^ (7 * k + 1) → m < (uintsF x).length → tkU ((uintsF x).take m) i acc = .short
  | 0, x, m, i, acc, hi, hx, hm => by
    have hx2 : x < 2 := by simpa using hx
    rw [uintsF_small (by omega)] at hm ⊢
    obtain rfl : m = 0 := by simpa using hm
    rfl
  | k + 1, x, m, i, acc, hi, hx, hm => by
    by_cases hs : x < 128
    · rw [uintsF_small hs] at hm ⊢
      obtain rfl : m = 0 := by simpa using hm
      rfl
    · rw [uintsF_big hs] at hm ⊢
      rcases m with _ | m
      · rfl
      · rw [List.take_succ_cons]
        have hb : (UInt8.ofNat (x % 128 + 128)).toNat = x % 128 + 128 := by rw [UInt8.toNat_ofNat']; omega
        unfold tkU
        have e : 7 * (k + 1) + 1 = 7 * k + 1 + 7 := by omega
        rw [e, Nat.pow_add] at hx
        rw [hb, if_neg (by omega), if_neg (by omega)]
        exact tkU_cut k (x / 128) m (i + 1) _ (by omega) (Nat.div_lt_of_lt_mul (by rw [Nat.mul_comm]; exact hx)) (by simpa using hm)
theorem takeU_cut (pre : List UInt8) (x m : Nat) (hx : x < 18446744073709551616) (hm : m < (uintsF x).length) : takeU (pre ++ (uintsF x).take m) (pre.length : Nat) = (0, 0, .at_ 1 ((pre.length + m : Nat) : Int) 6) := by
  unfold takeU
  rw [if_pos (by simp; omega), Int.toNat_natCast, List.drop_left, tkU_cut 9 x m 0 0 (by omega) hx hm]
  simp
  omega
/-- The first thing, cut short within it. -/
theorem short_first (x : Nat) (hx : x < 18446744073709551616) (L : List UInt8) (m : Nat) (hm : m < (uintsF x).length) : takeU ((uintsF x ++ L).take m) 0 = (0, 0, .at_ 1 (m : Int) 6) := by
  have h := takeU_cut [] x m hx hm
  rw [List.take_append_of_le_length (by omega)]
  simpa using h
theorem short_over (x : Nat) (hx : x < 18446744073709551616) (L : List UInt8) (m : Nat) (hm : (uintsF x).length ≤ m) : takeU ((uintsF x ++ L).take m) 0 = (x, ((uintsF x).length : Int), .ok) := by
  have e : (uintsF x ++ L).take m = [] ++ (uintsF x ++ L.take (m - (uintsF x).length)) := by
    rw [List.take_append, List.take_of_length_le hm]; rfl
  rw [e]
  have h := takeU_uints [] (L.take (m - (uintsF x).length)) x hx
  simpa using h
/-- The bytes behind it, cut short within them. -/
theorem short_second (K p : List UInt8) (m : Nat) (hp : p.length ≤ 1048576) (h1 : K.length ≤ m) (h2 : m < (K ++ uintsF p.length ++ p).length) : takeB ((K ++ uintsF p.length ++ p).take m) (K.length : Nat) = ([], 0, .at_ 1 (m : Int) 6) := by
  have hl : ((K ++ uintsF p.length ++ p).take m).length = m := by rw [List.length_take]; omega
  have e : (K ++ uintsF p.length ++ p).take m = K ++ (uintsF p.length ++ p).take (m - K.length) := by
    rw [List.append_assoc, List.take_append, List.take_of_length_le h1]
  by_cases hs : m - K.length < (uintsF p.length).length
  · have e2 : (uintsF p.length ++ p).take (m - K.length) = (uintsF p.length).take (m - K.length) := List.take_append_of_le_length (by omega)
    unfold takeB
    rw [e, e2, takeU_cut K p.length (m - K.length) (by omega) hs]
    simp only []
    rw [show K.length + (m - K.length) = m by omega]
  · have e2 : (uintsF p.length ++ p).take (m - K.length) = uintsF p.length ++ p.take (m - K.length - (uintsF p.length).length) := by
      rw [List.take_append, List.take_of_length_le (by omega)]
    have hT : takeU ((K ++ uintsF p.length ++ p).take m) (K.length : Nat) = (p.length, ((K.length + (uintsF p.length).length : Nat) : Int), .ok) := by
      rw [e, e2]
      exact takeU_uints K _ p.length (by omega)
    unfold takeB
    rw [hT]
    simp only []
    simp only [List.length_append] at h2
    rw [if_neg (by omega), if_pos (by rw [hl]; omega), hl]
/-- A number of 2^63 or more takes ten bytes. -/
theorem uintsF_ten : ∀ (k x : Nat), 2 ^ (7 * k) ≤ x → k + 1 ≤ (uintsF x).length
  | 0, x, h => by
    by_cases hs : x < 128
    · rw [uintsF_small hs]; simp
    · rw [uintsF_big hs]; simp
  | k + 1, x, h => by
    have e : 7 * (k + 1) = 7 * k + 7 := by omega
    rw [e, Nat.pow_add] at h
    have h1 : 1 ≤ 2 ^ (7 * k) := Nat.one_le_two_pow
    rw [uintsF_big (by omega)]
    have := uintsF_ten k (x / 128) ((Nat.le_div_iff_mul_le (by decide)).2 h)
    simp
    omega
end Go.Proofs.YthacedijfjcbcaaDoor
