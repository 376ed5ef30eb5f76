/- wire: what is put is taken again, in plain Lean. -/
import Derived.Test.YthacedijfjcbcaaDoorWAwakeD
namespace Go.Proofs.YthacedijfjcbcaaDoor
set_option linter.unusedVariables false
set_option linter.unusedSimpArgs false

theorem tkU_uints : ∀ (k x : Nat) (rest : List UInt8) (i acc : Nat), i + k = 9 → x < 2 ^ (7 * k + 1) → (0 < i → 0 < x) → tkU (uintsF x ++ rest) i acc = .ok (acc + x * 2 ^ (7 * i)) (i + (uintsF x).length)
  | 0, x, rest, i, acc, hi, hx, h0 => by
    have hx2 : x < 2 := by simpa using hx
    rw [uintsF_small (by omega)]
    have hb : (UInt8.ofNat x).toNat = x := by rw [UInt8.toNat_ofNat']; omega
    show tkU (UInt8.ofNat x :: rest) i acc = _
    unfold tkU
    rw [hb, if_neg (by omega), if_pos (by omega), Nat.mod_eq_of_lt (show x < 128 by omega)]
    rfl
  | k + 1, x, rest, i, acc, hi, hx, h0 => by
    by_cases hs : x < 128
    · rw [uintsF_small hs]
      have hb : (UInt8.ofNat x).toNat = x := by rw [UInt8.toNat_ofNat']; omega
      show tkU (UInt8.ofNat x :: rest) i acc = _
      unfold tkU
      rw [hb, if_neg (by omega), if_pos (by omega), Nat.mod_eq_of_lt hs]
      rfl
    · rw [uintsF_big hs]
      have hb : (UInt8.ofNat (x % 128 + 128)).toNat = x % 128 + 128 := by rw [UInt8.toNat_ofNat']; omega
      show tkU (UInt8.ofNat (x % 128 + 128) :: (uintsF (x / 128) ++ rest)) i acc = _
      unfold tkU
      have e : 7 * (k + 1) + 1 = 7 * k + 1 + 7 := by omega
      rw [e, Nat.pow_add] at hx
      rw [hb, if_neg (by omega), if_neg (by omega), tkU_uints k (x / 128) rest (i + 1) _ (by omega) (Nat.div_lt_of_lt_mul (by rw [Nat.mul_comm]; exact hx)) (by omega)]
      have e2 : 7 * (i + 1) = 7 * i + 7 := by omega
      have e3 : (x % 128 + 128) % 128 = x % 128 := by omega
      rw [e2, Nat.pow_add, e3]
      have e4 : x / 128 * (2 ^ (7 * i) * 2 ^ 7) = x / 128 * 128 * 2 ^ (7 * i) := by
        rw [Nat.mul_assoc, Nat.mul_comm 128]
      rw [e4, Nat.add_assoc, ← Nat.add_mul]
      have e5 : x % 128 + x / 128 * 128 = x := by omega
      rw [e5]
      simp only [List.length_cons]
      congr 1
      omega
theorem takeU_uints (pre rest : List UInt8) (x : Nat) (hx : x < 18446744073709551616) : takeU (pre ++ (uintsF x ++ rest)) (pre.length : Nat) = (x, ((pre.length + (uintsF x).length : Nat) : Int), .ok) := by
  unfold takeU
  rw [if_pos (by simp; omega), Int.toNat_natCast, List.drop_left, tkU_uints 9 x rest 0 0 (by omega) hx (by omega)]
  simp
theorem zag_zig (y : Int) : zag (zig y) = y := by
  unfold zag zig
  by_cases h : 0 ≤ y
  · rw [if_pos h]
    split <;> omega
  · rw [if_neg h]
    split <;> omega
theorem takeB_bytes (pre p : List UInt8) (hp : p.length ≤ 1048576) : takeB (pre ++ (uintsF p.length ++ p)) (pre.length : Nat) = (p, (((pre ++ (uintsF p.length ++ p)).length : Nat) : Int), .ok) := by
  unfold takeB
  rw [takeU_uints pre p p.length (by omega)]
  simp only []
  rw [if_neg (by omega), if_neg (by simp; omega), Int.toNat_natCast]
  have e : pre.length + (uintsF p.length).length + p.length = (pre ++ (uintsF p.length ++ p)).length := by simp; omega
  rw [e, List.take_length, ← List.append_assoc, ← List.length_append, List.drop_left]
  simp
  omega
theorem tkU_back : ∀ (l : List UInt8) (i acc u n : Nat), tkU l i acc = .ok u n → ∃ x, u = acc + x * 2 ^ (7 * i) ∧ uintsF x = l.take (n - i) ∧ i < n ∧ (0 < i → 0 < x)
  | [], i, acc, u, n, h => by simp [tkU] at h
  | c :: r, i, acc, u, n, h => by
    unfold tkU at h
    have hc := c.toNat_lt
    by_cases h1 : (i = 9 ∧ 1 < c.toNat) ∨ (0 < i ∧ c.toNat = 0)
    · rw [if_pos h1] at h; cases h
    · rw [if_neg h1] at h
      by_cases h2 : c.toNat < 128
      · rw [if_pos h2] at h
        injection h with h3 h4
        refine ⟨c.toNat, ?_, ?_, by omega, by omega⟩
        · rw [← h3, Nat.mod_eq_of_lt h2]
        · rw [uintsF_small h2, ← h4, show i + 1 - i = 1 by omega, UInt8.ofNat_toNat]
          rfl
      · rw [if_neg h2] at h
        obtain ⟨x, h3, h4, h5, h6⟩ := tkU_back r (i + 1) _ u n h
        have h7 := h6 (by omega)
        have hbig : ¬ c.toNat % 128 + 128 * x < 128 := by omega
        refine ⟨c.toNat % 128 + 128 * x, ?_, ?_, by omega, by omega⟩
        · have e2 : 7 * (i + 1) = 7 * i + 7 := by omega
          rw [h3, e2, Nat.pow_add, Nat.add_mul, Nat.add_assoc]
          congr 2
          rw [Nat.mul_comm 128 x, Nat.mul_assoc, Nat.mul_comm 128]
        · rw [uintsF_big hbig]
          have e3 : (c.toNat % 128 + 128 * x) % 128 + 128 = c.toNat := by omega
          have e4 : (c.toNat % 128 + 128 * x) / 128 = x := by omega
          rw [e3, e4, h4, UInt8.ofNat_toNat, show n - i = (n - (i + 1)) + 1 by omega]
          rfl
theorem takeU_back (p : List UInt8) (u : Nat) (n : Int) (h : takeU p 0 = (u, n, .ok)) : uintsF u = p.take n.toNat := by
  unfold takeU at h
  rw [if_pos (by omega)] at h
  simp only [Int.toNat_zero, List.drop_zero] at h
  cases hk : tkU p 0 0 with
  | ok x m =>
    rw [hk] at h
    simp at h
    obtain ⟨y, h1, h2, _⟩ := tkU_back p 0 0 x m hk
    simp at h1 h2
    rw [← h.1, h1, h2, ← h.2]
    simp
  | form i => rw [hk] at h; simp at h
  | short => rw [hk] at h; simp at h
end Go.Proofs.YthacedijfjcbcaaDoor
