/- A frame of which bits are turned, in plain Lean: the bytes as one number, the sum of bytes as steps on that number. -/
import Derived.Test.YthacedijfjcbcaaDoorR4TakeF
namespace Go.Proofs.YthacedijfjcbcaaDoor
set_option linter.unusedVariables false
set_option linter.unusedSimpArgs false
/-- Bytes as one number, the first one lowest. -/
def numL : List UInt8 → Nat
  | [] => 0
  | c :: r => c.toNat + 256 * numL r
theorem split8 (x : Nat) : x = x % 256 + 256 * (x / 256) := by omega
theorem xor_parts (a b : Nat) : (a ^^^ b) % 256 = (a % 256) ^^^ (b % 256) ∧ (a ^^^ b) / 256 = (a / 256) ^^^ (b / 256) :=
  ⟨Nat.xor_mod_two_pow (n := 8), Nat.xor_div_two_pow (n := 8)⟩
theorem add_xor (c R : Nat) (hc : c < 256) : c + 256 * R = c ^^^ (256 * R) := by
  have h := xor_parts c (256 * R)
  have e1 : 256 * R % 256 = 0 := by omega
  have e2 : 256 * R / 256 = R := by omega
  have e3 : c % 256 = c := by omega
  have e4 : c / 256 = 0 := by omega
  rw [e1, e2, e3, e4, Nat.xor_zero, Nat.zero_xor] at h
  omega
theorem mul_xor (a b : Nat) : 256 * (a ^^^ b) = (256 * a) ^^^ (256 * b) := by
  have h := xor_parts (256 * a) (256 * b)
  have e1 : 256 * a % 256 = 0 := by omega
  have e2 : 256 * a / 256 = a := by omega
  have e3 : 256 * b % 256 = 0 := by omega
  have e4 : 256 * b / 256 = b := by omega
  rw [e1, e2, e3, e4, Nat.xor_zero] at h
  omega
theorem xor4 (a b c d : Nat) : (a ^^^ b) ^^^ (c ^^^ d) = (a ^^^ c) ^^^ (b ^^^ d) := by
  rw [Nat.xor_assoc, Nat.xor_assoc]
  congr 1
  rw [← Nat.xor_assoc, Nat.xor_comm b c, Nat.xor_assoc]
theorem stI_xor (a b : Nat) : ∀ i, stI i (a ^^^ b) = stI i a ^^^ stI i b
  | 0 => rfl
  | i + 1 => by
    show st1 (stI i (a ^^^ b)) = _
    rw [stI_xor a b i, st1_xor]
    rfl
theorem stI_add (a : Nat) (i : Nat) : ∀ j, stI (i + j) a = stI j (stI i a)
  | 0 => rfl
  | j + 1 => by
    show st1 (stI (i + j) a) = _
    rw [stI_add a i j]
    rfl
theorem stI_two (z : Nat) : ∀ i, stI i (2 ^ i * z) = z
  | 0 => by simp [stI]
  | i + 1 => by
    have e : 2 ^ (i + 1) * z = 2 ^ i * (2 * z) := by rw [Nat.pow_succ, Nat.mul_assoc]
    show st1 (stI i (2 ^ (i + 1) * z)) = z
    rw [e, stI_two (2 * z) i, st1_even]
/-- The sum of bytes: as many steps as they have bits, on the one number that they are. -/
theorem crc_steps : ∀ (l : List UInt8) (s : Nat), crcF s l = stI (8 * l.length) (s ^^^ numL l)
  | [], s => by simp [crcF, numL, stI]
  | c :: r, s => by
    have h8 : stI 8 (s ^^^ numL (c :: r)) = crcB s c.toNat ^^^ numL r := by
      have e : s ^^^ numL (c :: r) = (s ^^^ c.toNat) ^^^ (2 ^ 8 * numL r) := by
        show s ^^^ (c.toNat + 256 * numL r) = _
        rw [add_xor _ _ c.toNat_lt, Nat.xor_assoc]
      rw [e, stI_xor, stI_two, stI_eight]
    show crcF (crcB s c.toNat) r = _
    rw [crc_steps r, List.length_cons, show 8 * (r.length + 1) = 8 + 8 * r.length by omega, stI_add, h8]
theorem eq_of_xor {a b : Nat} (h : a ^^^ b = 0) : a = b := by
  have h2 : (a ^^^ b) ^^^ b = 0 ^^^ b := by rw [h]
  rw [Nat.xor_assoc, Nat.xor_self, Nat.xor_zero, Nat.zero_xor] at h2
  exact h2
theorem st1_ne {t : Nat} (h : t < 4294967296) (h0 : t ≠ 0) : st1 t ≠ 0 := by
  unfold st1
  split
  · intro hz
    have h1 := eq_of_xor hz
    omega
  · omega
theorem stI_ne {t : Nat} (h : t < 4294967296) (h0 : t ≠ 0) : ∀ i, stI i t ≠ 0
  | 0 => h0
  | i + 1 => st1_ne (stI_lt h i) (stI_ne h h0 i)
theorem numL_append : ∀ (a b : List UInt8), numL (a ++ b) = numL a + 2 ^ (8 * a.length) * numL b
  | [], b => by simp [numL]
  | c :: r, b => by
    show c.toNat + 256 * numL (r ++ b) = (c.toNat + 256 * numL r) + _
    rw [numL_append r b, List.length_cons, show 8 * (r.length + 1) = 8 + 8 * r.length by omega, Nat.pow_add, Nat.mul_add, Nat.mul_assoc]
    omega
theorem numL_lt : ∀ (a : List UInt8), numL a < 2 ^ (8 * a.length)
  | [] => by simp [numL]
  | c :: r => by
    have h := numL_lt r
    have hc := c.toNat_lt
    rw [List.length_cons, show 8 * (r.length + 1) = 8 + 8 * r.length by omega, Nat.pow_add]
    show c.toNat + 256 * numL r < _
    omega
theorem numL_inj : ∀ (a b : List UInt8), a.length = b.length → numL a = numL b → a = b
  | [], [], _, _ => rfl
  | [], _ :: _, h, _ => by simp at h
  | _ :: _, [], h, _ => by simp at h
  | c :: r, d :: q, h, e => by
    have hc := c.toNat_lt
    have hd := d.toNat_lt
    have e' : c.toNat + 256 * numL r = d.toNat + 256 * numL q := e
    have e1 : c.toNat = d.toNat := by omega
    have e2 : numL r = numL q := by omega
    rw [numL_inj r q (by simpa using h) e2, UInt8.toNat_inj.1 e1]
/-- One bit of one byte turned: one bit of the number turned. -/
theorem numL_set : ∀ (l : List UInt8) (j r : Nat), j < l.length → r < 8 → numL (l.set j (UInt8.ofNat ((gb l j).toNat ^^^ 2 ^ r))) = numL l ^^^ 2 ^ (8 * j + r)
  | [], j, r, h, _ => by simp at h
  | c :: t, 0, r, h, hr => by
    have hc := c.toNat_lt
    have h2 : 2 ^ r < 256 := by
      have := Nat.pow_lt_pow_right (a := 2) (by decide) hr
      omega
    have hx : c.toNat ^^^ 2 ^ r < 256 := Nat.xor_lt_two_pow (n := 8) hc h2
    show (UInt8.ofNat (c.toNat ^^^ 2 ^ r)).toNat + 256 * numL t = (c.toNat + 256 * numL t) ^^^ 2 ^ (8 * 0 + r)
    rw [UInt8.toNat_ofNat', Nat.mod_eq_of_lt hx, add_xor _ _ hx, add_xor _ _ hc, Nat.mul_zero, Nat.zero_add, Nat.xor_assoc, Nat.xor_assoc, Nat.xor_comm (2 ^ r)]
  | c :: t, j + 1, r, h, hr => by
    have hc := c.toNat_lt
    have ih := numL_set t j r (by simpa using h) hr
    show c.toNat + 256 * numL (t.set j (UInt8.ofNat ((gb t j).toNat ^^^ 2 ^ r))) = (c.toNat + 256 * numL t) ^^^ 2 ^ (8 * (j + 1) + r)
    have ep : 2 ^ (8 * (j + 1) + r) = 256 * 2 ^ (8 * j + r) := by
      rw [show 8 * (j + 1) + r = 8 + (8 * j + r) by omega, Nat.pow_add]
    rw [ih, ep, add_xor _ _ hc, add_xor _ _ hc, mul_xor, Nat.xor_assoc]
theorem numF_num (a b c d : UInt8) : numF a b c d = numL [a, b, c, d] := by
  unfold numF
  show _ = a.toNat + 256 * (b.toNat + 256 * (c.toNat + 256 * (d.toNat + 256 * 0)))
  omega
theorem numL_four (x : Nat) (h : x < 4294967296) : numL (fourF x) = x := by
  unfold fourF
  rw [← numF_num, numF_four x h]
/-- Which bits of the mask are turned behind i rounds. -/
theorem mask_step (m i : Nat) : m % 2 ^ (i + 1) = if m / 2 ^ i % 2 = 1 then (m % 2 ^ i) ^^^ 2 ^ i else m % 2 ^ i := by
  have h1 : m % 2 ^ (i + 1) = m % 2 ^ i + 2 ^ i * (m / 2 ^ i % 2) := by rw [Nat.pow_succ, Nat.mod_mul]
  have hl : m % 2 ^ i < 2 ^ i := Nat.mod_lt _ (Nat.two_pow_pos i)
  rcases Nat.mod_two_eq_zero_or_one (m / 2 ^ i) with h | h
  · rw [if_neg (by omega), h1, h]; omega
  · rw [if_pos h, h1, h, Nat.mul_one]
    have a1 := Nat.xor_mod_two_pow (a := m % 2 ^ i) (b := 2 ^ i) (n := i)
    have a2 := Nat.xor_div_two_pow (a := m % 2 ^ i) (b := 2 ^ i) (n := i)
    rw [Nat.mod_self, Nat.xor_zero, Nat.mod_mod] at a1
    rw [Nat.div_self (Nat.two_pow_pos i), Nat.div_eq_of_lt hl, Nat.zero_xor] at a2
    have h3 := Nat.div_add_mod (m % 2 ^ i ^^^ 2 ^ i) (2 ^ i)
    rw [a1, a2] at h3
    omega
theorem shl_xor (a b k : Nat) : (a ^^^ b) * 2 ^ k = a * 2 ^ k ^^^ b * 2 ^ k := by
  have := Nat.shiftLeft_xor_distrib (a := a) (b := b) (i := k)
  simpa [Nat.shiftLeft_eq] using this
/-- The frame of p, the bits X of what is behind its first four bytes turned: is none. -/
theorem burst_take (p cur : List UInt8) (X : Nat) (hp : p.length ≤ 1048576) (hl : cur.length = p.length + 8) (h4 : cur.take 4 = fourF p.length)
    (hX : numL (cur.drop 4) = numL (fourF (sumN p) ++ p) ^^^ X) (hX0 : X ≠ 0) (hb : X < 4294967296 ∨ ∃ M a, X = M * 2 ^ (32 + a) ∧ M < 4294967296 ∧ a ≤ 8 * p.length) :
    takeF cur 0 = ([], 0, .at_ 1 4 7) := by
  obtain ⟨S', q, hSl, hql, hcur⟩ : ∃ S' q, S'.length = 4 ∧ q.length = p.length ∧ cur.drop 4 = S' ++ q :=
    ⟨(cur.drop 4).take 4, (cur.drop 4).drop 4, by simp; omega, by simp; omega, (List.take_append_drop 4 _).symm⟩
  have hc : cur = fourF p.length ++ (S' ++ q) := by rw [← h4, ← hcur, List.take_append_drop]
  have hN : numL S' + 2 ^ 32 * numL q = (sumN p + 2 ^ 32 * numL p) ^^^ X := by
    have e1 := numL_append S' q
    have e2 := numL_append (fourF (sumN p)) p
    rw [hSl] at e1
    rw [fourF_len, numL_four _ (sumN_lt p)] at e2
    rw [← e1, ← hcur, hX, e2]
  have hS32 : numL S' < 2 ^ 32 := by have := numL_lt S'; rw [hSl] at this; exact this
  have hsum := sumN_lt p
  have hmod : numL S' = sumN p ^^^ (X % 2 ^ 32) := by
    have a1 := Nat.xor_mod_two_pow (a := sumN p + 2 ^ 32 * numL p) (b := X) (n := 32)
    rw [← hN] at a1
    have e1 : (numL S' + 2 ^ 32 * numL q) % 2 ^ 32 = numL S' := by omega
    have e2 : (sumN p + 2 ^ 32 * numL p) % 2 ^ 32 = sumN p := by omega
    rw [e1, e2] at a1
    exact a1
  have hdiv : numL q = numL p ^^^ (X / 2 ^ 32) := by
    have a1 := Nat.xor_div_two_pow (a := sumN p + 2 ^ 32 * numL p) (b := X) (n := 32)
    rw [← hN] at a1
    have e1 : (numL S' + 2 ^ 32 * numL q) / 2 ^ 32 = numL q := by omega
    have e2 : (sumN p + 2 ^ 32 * numL p) / 2 ^ 32 = numL p := by omega
    rw [e1, e2] at a1
    exact a1
  have hne : sumN q ≠ numL S' := by
    rcases hb with hs | ⟨M, a, hXM, hM, ha⟩
    · have e1 : X % 2 ^ 32 = X := Nat.mod_eq_of_lt hs
      have e2 : X / 2 ^ 32 = 0 := Nat.div_eq_of_lt hs
      rw [e2, Nat.xor_zero] at hdiv
      have : q = p := numL_inj q p hql hdiv
      rw [this, hmod, e1]
      intro h
      have h5 : sumN p ^^^ sumN p = sumN p ^^^ (sumN p ^^^ X) := by rw [← h]
      rw [Nat.xor_self, ← Nat.xor_assoc, Nat.xor_self, Nat.zero_xor] at h5
      exact hX0 h5.symm
    · have hM0 : M ≠ 0 := by rintro rfl; exact hX0 (by rw [hXM, Nat.zero_mul])
      have e0 : X = 2 ^ 32 * (M * 2 ^ a) := by rw [hXM, Nat.pow_add, Nat.mul_left_comm]
      have e1 : X % 2 ^ 32 = 0 := by rw [e0]; exact Nat.mul_mod_right _ _
      have e2 : X / 2 ^ 32 = M * 2 ^ a := by rw [e0]; exact Nat.mul_div_cancel_left _ (by decide)
      rw [e1, Nat.xor_zero] at hmod
      rw [e2] at hdiv
      have hc1 : crcF 4294967295 q = crcF 4294967295 p ^^^ stI (8 * p.length) (M * 2 ^ a) := by
        rw [crc_steps, crc_steps, hql, hdiv, ← Nat.xor_assoc, stI_xor]
      have hz : stI (8 * p.length) (M * 2 ^ a) ≠ 0 := by
        rw [show 8 * p.length = a + (8 * p.length - a) by omega, stI_add, Nat.mul_comm M, stI_two]
        exact stI_ne hM hM0 _
      rw [hmod]
      unfold sumN
      rw [hc1]
      intro h
      apply hz
      generalize crcF 4294967295 p = A at h
      generalize stI (8 * p.length) (M * 2 ^ a) = B at h
      have h6 : (A ^^^ B ^^^ 4294967295) ^^^ (A ^^^ 4294967295) = 0 := by rw [h, Nat.xor_self]
      rw [xor4, Nat.xor_self, Nat.xor_zero, Nat.xor_assoc, Nat.xor_comm B A, ← Nat.xor_assoc, Nat.xor_self, Nat.zero_xor] at h6
      exact h6
  obtain ⟨s0, s1, s2, s3, rfl⟩ : ∃ s0 s1 s2 s3, S' = [s0, s1, s2, s3] := by
    match S', hSl with
    | [s0, s1, s2, s3], _ => exact ⟨s0, s1, s2, s3, rfl⟩
  have hn : numA cur 0 = p.length := by
    rw [hc]
    exact numF_four p.length (by omega)
  have hy : numA cur (0 + 4) = numL [s0, s1, s2, s3] := by
    rw [hc]
    exact numF_num s0 s1 s2 s3
  have hq : (cur.take (0 + 8 + p.length)).drop (0 + 8) = q := by
    rw [Nat.zero_add, List.take_of_length_le (by omega), hc]
    rfl
  have h := takeF_at cur 0 (Nat.zero_le _)
  rw [hn, hy, hq, if_neg (by omega), if_neg (by omega), if_neg (by omega), if_pos hne] at h
  exact h
/-- The frame itself is taken. -/
theorem frame_take (p : List UInt8) (hp : p.length ≤ 1048576) : (takeF (frameF p) 0).2.2 = .ok := by
  have hl := frameF_len p
  have hc : frameF p = fourF p.length ++ (fourF (sumN p) ++ p) := by unfold frameF; rw [List.append_assoc]
  have hn : numA (frameF p) 0 = p.length := by
    rw [hc]
    exact numF_four p.length (by omega)
  have hy : numA (frameF p) (0 + 4) = sumN p := by
    rw [hc]
    exact numF_four (sumN p) (sumN_lt p)
  have hq : ((frameF p).take (0 + 8 + p.length)).drop (0 + 8) = p := by
    rw [Nat.zero_add, List.take_of_length_le (by omega), hc]
    rfl
  have h := takeF_at (frameF p) 0 (Nat.zero_le _)
  rw [hn, hy, hq, if_neg (by omega), if_neg (by omega), if_neg (by omega), if_neg (by simp)] at h
  show (takeF (frameF p) ((0 : Nat) : Int)).2.2 = .ok
  rw [h]
end Go.Proofs.YthacedijfjcbcaaDoor
