/- What is taken from bytes, in plain Lean. -/
namespace Go.Proofs.Ytcdhjkkdenhmcaa
inductive TU where
  | ok (x n : Nat)
  | form (i : Nat)
  | short
/-- A number out of the bytes that are left: i of its bytes, which are x, were read. -/
def tkU : List UInt8 → Nat → Nat → TU
  | [], _, _ => .short
  | c :: r, i, x => if (i = 9 ∧ 1 < c.toNat) ∨ (0 < i ∧ c.toNat = 0) then .form i else if c.toNat < 128 then .ok (x + c.toNat % 128 * 2 ^ (7 * i)) (i + 1) else tkU r (i + 1) (x + c.toNat % 128 * 2 ^ (7 * i))
theorem tkU_bound : ∀ (l : List UInt8) (i x : Nat), i ≤ 9 → x < 2 ^ (7 * i) → ∀ y n, tkU l i x = .ok y n → y < 18446744073709551616 ∧ i < n ∧ n ≤ i + l.length
  | [], i, x, _, _, y, n, h => by simp [tkU] at h
  | c :: r, i, x, hi, hx, y, n, h => by
    unfold tkU at h
    by_cases h1 : (i = 9 ∧ 1 < c.toNat) ∨ (0 < i ∧ c.toNat = 0)
    · rw [if_pos h1] at h; cases h
    · rw [if_neg h1] at h
      have hc : c.toNat % 128 * 2 ^ (7 * i) + x < 2 ^ (7 * (i + 1)) := by
        have e : 7 * (i + 1) = 7 * i + 7 := by omega
        rw [e, Nat.pow_add]
        have : c.toNat % 128 * 2 ^ (7 * i) ≤ 127 * 2 ^ (7 * i) := Nat.mul_le_mul_right _ (by omega)
        omega
      by_cases h2 : c.toNat < 128
      · rw [if_pos h2] at h
        injection h with h3 h4
        refine ⟨?_, by omega, by simp; omega⟩
        rcases Nat.lt_or_ge i 9 with h9 | h9
        · have : 2 ^ (7 * (i + 1)) ≤ 2 ^ 63 := Nat.pow_le_pow_right (by omega) (by omega)
          omega
        · obtain rfl : i = 9 := by omega
          have : c.toNat ≤ 1 := by omega
          have : c.toNat % 128 * 2 ^ (7 * 9) ≤ 1 * 2 ^ (7 * 9) := Nat.mul_le_mul_right _ (by omega)
          omega
      · rw [if_neg h2] at h
        have hi9 : i < 9 := by
          rcases Nat.lt_or_ge i 9 with h9 | h9
          · exact h9
          · exfalso; apply h1; left; omega
        have := tkU_bound r (i + 1) _ (by omega) (by omega) y n h
        simp; omega
end Go.Proofs.Ytcdhjkkdenhmcaa
