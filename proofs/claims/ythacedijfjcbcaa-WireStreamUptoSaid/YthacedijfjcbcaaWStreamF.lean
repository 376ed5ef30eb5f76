/- wire: frames one behind the other, cut short, in plain Lean. -/
import Derived.Test.YthacedijfjcbcaaWAwake
namespace Go.Proofs.Ythacedijfjcbcaa
set_option linter.unusedVariables false
set_option linter.unusedSimpArgs false

theorem gb_app_left (xs ys : List UInt8) (i : Nat) (h : i < xs.length) : gb (xs ++ ys) i = gb xs i := by
  unfold gb
  rw [List.getD_eq_getElem?_getD, List.getElem?_append_left h, List.getD_eq_getElem?_getD]
theorem gb_app_right (xs ys : List UInt8) (i : Nat) : gb (xs ++ ys) (xs.length + i) = gb ys i := by
  unfold gb
  rw [List.getD_eq_getElem?_getD, List.getElem?_append_right (by omega), List.getD_eq_getElem?_getD, Nat.add_sub_cancel_left]
theorem numA_app (xs ys : List UInt8) (k : Nat) (h : k + 4 ≤ xs.length) : numA (xs ++ ys) k = numA xs k := by
  unfold numA
  rw [gb_app_left _ _ _ (by omega), gb_app_left _ _ _ (by omega), gb_app_left _ _ _ (by omega), gb_app_left _ _ _ (by omega)]
/-- A frame's head. -/
def headF (p : List UInt8) : List UInt8 := fourF p.length ++ fourF (sumN p)
theorem headF_len (p : List UInt8) : (headF p).length = 8 := rfl
theorem frameF_head (p : List UInt8) : frameF p = headF p ++ p := rfl
theorem numA_head0 (p : List UInt8) (h : p.length ≤ 1048576) : numA (headF p) 0 = p.length := numF_four p.length (by omega)
theorem numA_head4 (p : List UInt8) : numA (headF p) 4 = sumN p := numF_four (sumN p) (sumN_lt p)
theorem takeF_frame (pre p post : List UInt8) (h : p.length ≤ 1048576) : takeF (pre ++ (frameF p ++ post)) (pre.length : Nat) = (p, ((pre.length + (frameF p).length : Nat) : Int), .ok) := by
  unfold takeF
  have hfl := frameF_len p
  rw [if_pos (by simp; omega), Int.toNat_natCast, List.drop_left]
  have hl : ¬ (frameF p ++ post).length < 8 := by rw [List.length_append]; omega
  have e0 : numA (frameF p ++ post) 0 = p.length := by
    rw [frameF_head, List.append_assoc, numA_app _ _ _ (by rw [headF_len]; omega), numA_head0 p h]
  have e4 : numA (frameF p ++ post) 4 = sumN p := by
    rw [frameF_head, List.append_assoc, numA_app _ _ _ (by rw [headF_len]; omega), numA_head4]
  have ep : ((frameF p ++ post).take (8 + p.length)).drop 8 = p := by
    rw [show 8 + p.length = (frameF p).length by omega, List.take_left, frameF_head, ← headF_len p, List.drop_left]
  simp only []
  rw [if_neg hl, e0, e4, ep, if_neg (by omega), if_neg (by rw [List.length_append]; omega), if_neg (by simp)]
  simp only [Prod.mk.injEq, and_true, true_and]
  omega
theorem takeF_part (pre p : List UInt8) (m : Nat) (h : p.length ≤ 1048576) (hm : m < (frameF p).length) : (takeF (pre ++ (frameF p).take m) (pre.length : Nat)).2.2 ≠ .ok := by
  unfold takeF
  have hfl := frameF_len p
  rw [if_pos (by simp; omega), Int.toNat_natCast, List.drop_left]
  have hl : ((frameF p).take m).length = m := by rw [List.length_take]; omega
  simp only []
  by_cases h8 : m < 8
  · rw [if_pos (by omega)]
    simp
  · have e0 : numA ((frameF p).take m) 0 = p.length := by
      rw [frameF_head, List.take_append, List.take_of_length_le (by rw [headF_len]; omega), numA_app _ _ _ (by rw [headF_len]; omega), numA_head0 p h]
    rw [if_neg (by omega), e0, if_neg (by omega), if_pos (by omega)]
    simp
theorem takeF_end (pre : List UInt8) : (takeF pre (pre.length : Nat)).2.2 ≠ .ok := by
  unfold takeF
  rw [if_pos (by omega), Int.toNat_natCast, List.drop_length]
  simp
/-- Frames, one behind the other. -/
def flatF (l : List (List UInt8)) : List UInt8 := l.flatMap frameF
theorem flatF_cons (p : List UInt8) (l : List (List UInt8)) : flatF (p :: l) = frameF p ++ flatF l := rfl
/-- How many of them lie whole in the first m bytes. -/
def cntF : List (List UInt8) → Nat → Nat
  | [], _ => 0
  | p :: l, m => if p.length + 8 ≤ m then cntF l (m - (p.length + 8)) + 1 else 0
theorem scan_flat : ∀ (l : List (List UInt8)) (pre : List UInt8) (m fuel : Nat), (∀ p ∈ l, p.length ≤ 1048576) → cntF l m < fuel → m ≤ (flatF l).length →
    scanF (pre ++ (flatF l).take m) fuel (pre.length : Nat) = (l.take (cntF l m), ((pre.length + (flatF (l.take (cntF l m))).length : Nat) : Int))
  | [], pre, m, fuel, hp, hf, hm => by
    obtain ⟨k, rfl⟩ : ∃ k, fuel = k + 1 := ⟨fuel - 1, by omega⟩
    have e : (flatF []).take m = [] := by simp [flatF]
    rw [e, List.append_nil, scanF_bad (takeF_end pre)]
    simp [flatF]
  | p :: l, pre, m, fuel, hp, hf, hm => by
    obtain ⟨k, rfl⟩ : ∃ k, fuel = k + 1 := ⟨fuel - 1, by omega⟩
    have hfl := frameF_len p
    rw [flatF_cons] at hm ⊢
    rw [List.length_append] at hm
    by_cases h : p.length + 8 ≤ m
    · have e : (frameF p ++ flatF l).take m = frameF p ++ (flatF l).take (m - (frameF p).length) := by
        rw [List.take_append, List.take_of_length_le (by omega)]
      have h1 := takeF_frame pre p ((flatF l).take (m - (frameF p).length)) (hp p List.mem_cons_self)
      rw [e, scanF_ok h1]
      have hc : cntF (p :: l) m = cntF l (m - (frameF p).length) + 1 := by
        show (if p.length + 8 ≤ m then _ else _) = _
        rw [if_pos h, hfl]
      have h2 := scan_flat l (pre ++ frameF p) (m - (frameF p).length) k (fun q hq => hp q (List.mem_cons_of_mem _ hq)) (by omega) (by omega)
      rw [List.append_assoc, List.length_append] at h2
      rw [h2, hc]
      simp only [List.take_succ_cons]
      rw [flatF_cons, List.length_append]
      simp only [Prod.mk.injEq, true_and]
      omega
    · have e : (frameF p ++ flatF l).take m = (frameF p).take m := by
        rw [List.take_append, show m - (frameF p).length = 0 by omega, List.take_zero, List.append_nil]
      have hc : cntF (p :: l) m = 0 := by
        show (if p.length + 8 ≤ m then _ else _) = _
        rw [if_neg h]
      rw [e, scanF_bad (takeF_part pre p m (hp p List.mem_cons_self) (by omega)), hc]
      simp [flatF]
theorem cntF_le : ∀ (l : List (List UInt8)) (m : Nat), cntF l m ≤ m
  | [], m => Nat.zero_le _
  | p :: l, m => by
    show (if p.length + 8 ≤ m then _ else _) ≤ _
    split
    · have := cntF_le l (m - (p.length + 8))
      omega
    · omega
/-- Where the k-th frame begins. -/
def endF (l : List (List UInt8)) (k : Nat) : Nat := (flatF (l.take k)).length
theorem cnt_unique : ∀ (l : List (List UInt8)) (m k : Nat), k ≤ l.length → (∀ j, j < k → endF l (j + 1) ≤ m) → (k = l.length ∨ m < endF l (k + 1)) → cntF l m = k
  | [], m, k, hk, _, _ => by
    have : k = 0 := by simpa using hk
    subst this
    rfl
  | p :: l, m, 0, hk, h1, h2 => by
    rcases h2 with h2 | h2
    · simp at h2
    · have : endF (p :: l) (0 + 1) = p.length + 8 := by
        simp [endF, flatF, frameF_len]
      show (if p.length + 8 ≤ m then _ else _) = _
      rw [if_neg (by omega)]
  | p :: l, m, k + 1, hk, h1, h2 => by
    have he : ∀ j, endF (p :: l) (j + 1) = p.length + 8 + endF l j := fun j => by
      unfold endF
      rw [List.take_succ_cons, flatF_cons, List.length_append, frameF_len]
    have h0 := h1 0 (by omega)
    rw [he] at h0
    have e0 : endF l 0 = 0 := by simp [endF, flatF]
    show (if p.length + 8 ≤ m then _ else _) = _
    rw [if_pos (by omega), cnt_unique l (m - (p.length + 8)) k (by simpa using hk) (fun j hj => by have := h1 (j + 1) (by omega); rw [he] at this; omega) ?_]
    rcases h2 with h2 | h2
    · left; simpa using h2
    · right; rw [he] at h2; omega
theorem endF_le (l : List (List UInt8)) (k : Nat) : endF l k ≤ (flatF l).length := by
  have : flatF l = flatF (l.take k) ++ flatF (l.drop k) := by
    unfold flatF
    rw [← List.flatMap_append, List.take_append_drop]
  rw [this, List.length_append]
  unfold endF
  omega
theorem endF_step (l : List (List UInt8)) (k : Nat) (h : k < l.length) : flatF (l.take (k + 1)) = flatF (l.take k) ++ frameF l[k] := by
  rw [List.take_succ_eq_append_getElem h]
  unfold flatF
  rw [List.flatMap_append]
  simp
end Go.Proofs.Ythacedijfjcbcaa
