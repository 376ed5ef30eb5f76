/- The check sum, in plain numbers: one step, four steps at a time, the sum of bytes; it is linear. -/
namespace Go.Proofs.YthacedijfjcbcaaDoor
/-- One step: a bit leaves. -/
def st1 (t : Nat) : Nat := if t % 2 = 1 then t / 2 ^^^ 3988292384 else t / 2
def stepN : Nat → Nat
  | 0 => 3988292384
  | n + 1 => st1 (stepN n)
def nibN (s : Nat) : Nat := st1 (st1 (st1 (st1 s)))
/-- As the program reckons it: behind i of the four bits. -/
def nibP (r y : Nat) : Nat → Nat
  | 0 => y
  | i + 1 => if r / 2 ^ i % 2 = 1 then nibP r y i ^^^ stepN (3 - i) else nibP r y i
def crcB (s c : Nat) : Nat := nibN (nibN (s ^^^ c))
def crcF (s : Nat) (xs : List UInt8) : Nat := xs.foldl (fun s c => crcB s c.toNat) s
def sumN (xs : List UInt8) : Nat := crcF 4294967295 xs ^^^ 4294967295

theorem st1_lt {t : Nat} (h : t < 4294967296) : st1 t < 4294967296 := by
  unfold st1
  split
  · exact Nat.xor_lt_two_pow (n := 32) (by omega) (by omega)
  · omega
theorem stepN_lt : ∀ n, stepN n < 4294967296
  | 0 => by decide
  | n + 1 => st1_lt (stepN_lt n)
theorem nibN_lt {s : Nat} (h : s < 4294967296) : nibN s < 4294967296 := st1_lt (st1_lt (st1_lt (st1_lt h)))
theorem crcB_lt {s c : Nat} (h : s < 4294967296) (hc : c < 4294967296) : crcB s c < 4294967296 := nibN_lt (nibN_lt (Nat.xor_lt_two_pow (n := 32) h hc))
theorem crcF_lt {xs : List UInt8} : ∀ {s : Nat}, s < 4294967296 → crcF s xs < 4294967296 := by
  induction xs with
  | nil => exact fun h => h
  | cons c xs ih => exact fun h => ih (crcB_lt h (by have := c.toNat_lt; omega))
theorem sumN_lt (xs : List UInt8) : sumN xs < 4294967296 := Nat.xor_lt_two_pow (n := 32) (crcF_lt (by decide)) (by decide)
theorem crcF_snoc (s : Nat) (xs : List UInt8) (c : UInt8) : crcF s (xs ++ [c]) = crcB (crcF s xs) c.toNat := by simp [crcF]
theorem crcF_append (s : Nat) (xs ys : List UInt8) : crcF s (xs ++ ys) = crcF (crcF s xs) ys := by simp [crcF]

theorem xor_mod2 (a b : Nat) : (a ^^^ b) % 2 = (a % 2 + b % 2) % 2 := by
  have h := Nat.xor_mod_two_pow (a := a) (b := b) (n := 1)
  simp only [Nat.pow_one] at h
  rw [h]
  rcases Nat.mod_two_eq_zero_or_one a with ha | ha <;> rcases Nat.mod_two_eq_zero_or_one b with hb | hb <;> rw [ha, hb] <;> rfl
theorem st1_xor (a b : Nat) : st1 (a ^^^ b) = st1 a ^^^ st1 b := by
  unfold st1
  rw [Nat.xor_div_two, xor_mod2]
  rcases Nat.mod_two_eq_zero_or_one a with ha | ha <;> rcases Nat.mod_two_eq_zero_or_one b with hb | hb
  · rw [if_neg (by omega), if_neg (by omega), if_neg (by omega)]
  · rw [if_pos (by omega), if_neg (by omega), if_pos (by omega), Nat.xor_assoc]
  · rw [if_pos (by omega), if_pos (by omega), if_neg (by omega), Nat.xor_assoc, Nat.xor_comm (b / 2), ← Nat.xor_assoc]
  · rw [if_neg (by omega), if_pos (by omega), if_pos (by omega), Nat.xor_assoc, Nat.xor_comm 3988292384 (b / 2 ^^^ 3988292384), Nat.xor_assoc, Nat.xor_self, Nat.xor_zero]
theorem nibN_xor (a b : Nat) : nibN (a ^^^ b) = nibN a ^^^ nibN b := by simp only [nibN, st1_xor]
theorem st1_even (z : Nat) : st1 (2 * z) = z := by
  unfold st1
  rw [if_neg (by omega)]
  omega
theorem nibN_shl (y : Nat) : nibN (16 * y) = y := by
  unfold nibN
  have e : 16 * y = 2 * (2 * (2 * (2 * y))) := by omega
  rw [e, st1_even, st1_even, st1_even, st1_even]
theorem nibP_lin (r y : Nat) : ∀ i, nibP r y i = y ^^^ nibP r 0 i
  | 0 => by simp [nibP]
  | i + 1 => by
    unfold nibP
    rw [nibP_lin r y i]
    split
    · rw [Nat.xor_assoc]
    · rfl
theorem nib_low : ∀ r, r < 16 → nibN r = nibP r 0 4 := by decide
theorem nibP_all (s : Nat) : nibP (s % 16) (s / 16) 4 = nibN s := by
  have e : s = 16 * (s / 16) ^^^ s % 16 := by
    generalize hz : 16 * (s / 16) ^^^ s % 16 = z
    have h1 := Nat.xor_div_two_pow (a := 16 * (s / 16)) (b := s % 16) (n := 4)
    have h2 := Nat.xor_mod_two_pow (a := 16 * (s / 16)) (b := s % 16) (n := 4)
    rw [hz] at h1 h2
    have e1 : 16 * (s / 16) / 2 ^ 4 = s / 16 := by omega
    have e2 : s % 16 / 2 ^ 4 = 0 := by omega
    have e3 : 16 * (s / 16) % 2 ^ 4 = 0 := by omega
    have e4 : s % 16 % 2 ^ 4 = s % 16 := by omega
    rw [e1, e2, Nat.xor_zero] at h1
    rw [e3, e4, Nat.zero_xor] at h2
    omega
  conv => rhs; rw [e, nibN_xor, nibN_shl, nib_low _ (by omega)]
  rw [nibP_lin]
theorem crcB_xor (s t c d : Nat) : crcB (s ^^^ t) (c ^^^ d) = crcB s c ^^^ crcB t d := by
  unfold crcB
  have e : s ^^^ t ^^^ (c ^^^ d) = (s ^^^ c) ^^^ (t ^^^ d) := by
    rw [Nat.xor_assoc, Nat.xor_assoc]
    congr 1
    rw [← Nat.xor_assoc, Nat.xor_comm t c, Nat.xor_assoc]
  rw [e, nibN_xor, nibN_xor]
end Go.Proofs.YthacedijfjcbcaaDoor
