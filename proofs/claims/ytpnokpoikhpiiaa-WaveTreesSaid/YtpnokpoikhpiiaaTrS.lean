/- The reference's Sorted, near; the law's place. -/
import Derived.Test.YtpnokpoikhpiiaaTrG
namespace Go.Proofs.Ytpnokpoikhpiiaa
open Go.RowKit Go.Proofs.YtpnokpoikhpiiaaW.PrintWords Go.Proofs.YtpnokpoikhpiiaaW.PrintLast Go.Proofs.YtpnokpoikhpiiaaW.PrintMore
set_option linter.unusedVariables false
set_option linter.unusedSimpArgs false
/-- The numbers from -1 on, so many, that stand in a list. -/
def pickTo (l : List Int) : Nat → List Int
  | 0 => []
  | k + 1 => pickTo l k ++ (if ((k : Int) - 1) ∈ l then [(k : Int) - 1] else [])
def sorted15 (l : List Int) : List Int := pickTo l 10
theorem pickTo_len (l : List Int) : ∀ k, (pickTo l k).length ≤ k
  | 0 => by simp [pickTo]
  | k + 1 => by
    have := pickTo_len l k
    simp only [pickTo, List.length_append]
    split <;> simp <;> omega
theorem pickTo_mem (l : List Int) : ∀ k x, x ∈ pickTo l k ↔ x ∈ l ∧ -1 ≤ x ∧ x < (k : Int) - 1
  | 0, x => by
    simp only [pickTo, List.not_mem_nil, false_iff]
    rintro ⟨_, h1, h2⟩
    omega
  | k + 1, x => by
    have ih := pickTo_mem l k x
    simp only [pickTo, List.mem_append, ih]
    by_cases h : ((k : Int) - 1) ∈ l
    · rw [if_pos h]
      simp only [List.mem_singleton]
      constructor
      · rintro (⟨h1, h2, h3⟩ | rfl)
        · exact ⟨h1, h2, by omega⟩
        · exact ⟨h, by omega, by omega⟩
      · rintro ⟨h1, h2, h3⟩
        by_cases e : x = (k : Int) - 1
        · exact .inr e
        · exact .inl ⟨h1, h2, by omega⟩
    · rw [if_neg h]
      simp only [List.not_mem_nil, or_false]
      constructor
      · rintro ⟨h1, h2, h3⟩
        exact ⟨h1, h2, by omega⟩
      · rintro ⟨h1, h2, h3⟩
        refine ⟨h1, h2, ?_⟩
        by_cases e : x = (k : Int) - 1
        · subst e; exact absurd h1 h
        · omega
theorem pickTo_sorted (l : List Int) : ∀ k, (pickTo l k).Pairwise (· < ·)
  | 0 => by simp [pickTo]
  | k + 1 => by
    simp only [pickTo]
    rw [List.pairwise_append]
    refine ⟨pickTo_sorted l k, by split <;> simp, fun a ha b hb => ?_⟩
    have h1 := ((pickTo_mem l k a).1 ha).2.2
    split at hb
    · simp at hb; omega
    · simp at hb
set_option maxRecDepth 100000 in
theorem sorted_calls (w : World) (A : Option Addr) (c : Nat) (l : List Int) (hr : (Kd.int .i64).C w A l.length l) :
    Calls Try.prog 26 #[.slice A l.length c] w fun e w' => ∃ v, e = .returned v ∧ (Kd.int .i64).R 3 w' w.heap.size (fun _ => True) v (sorted15 l) ∧ Below w.heap.size w w' := by
  have HR := Lib.hid hr
  have hm : (l.length : Int) ≤ 9223372036854775807 := by have : l.length ≤ 9223372036854775807 := hr.2.1; omega
  clear hr
  go_enter Try.func26, Try.ntmps26
  go_wp2
  go_loopw [3, 4] (fun v3 v4 wr => ∃ k : Nat, v4 = .int .i64 ((k : Int) - 1) ∧ k ≤ 10 ∧ Aside0 ((Kd.int .i64).R 3 wr w.heap.size (fun _ => True) v3 (pickTo l k)) ∧ Aside0 (Below w.heap.size w wr)) (fun _ v _ => 10 - ((intOf v) + 1).toNat)
  case atStart => exact ⟨0, rfl, by omega, ⟨Kd.R_nil _ _ _ _ _⟩, ⟨Below.refl _ _⟩⟩
  case round =>
    obtain ⟨k, rfl, hk, HK, HB⟩ := hrel
    obtain ⟨n, hn⟩ : ∃ n : Int, n = (k : Int) - 1 := ⟨_, rfl⟩
    have HN := Lib.hid hn
    have hk1 : (k : Int) = n + 1 := by omega
    rw [← hn]
    by_cases hlt : k < 10
    · have n1 : n ≤ 8 := by omega
      have n0 : -1 ≤ n := by omega
      have HLT := Lib.hid hlt
      have HPL := Lib.hid (pickTo_len l k)
      obtain ⟨P, hP⟩ : ∃ P, P = pickTo l k := ⟨_, rfl⟩
      by_cases hin : n ∈ l
      · have hib : decide (n ∈ l) = true := decide_eq_true hin
        have HPT := Lib.hid (show pickTo l (k + 1) = P ++ [n] by rw [hP, hn] at *; simp only [pickTo]; rw [if_pos hin])
        rw [← hP] at HK HPL
        clear hin hlt hP hn
        go_wp2_with (first
          | (go_at_call 13; refine (has_calls wr _ _ l n (Kd.C_below HR.out HB.out)).mono ?_; rintro e w1 ⟨rfl, rfl⟩; rw [hib])
          | (at_builtin; refine app_rows w.heap.size rfl _ _ rfl _ P [n] _ 1 1 rfl rfl (by exact Kd.R_alloc HK.out _) (lit_at _ _ [n] (by simp) (by simp) rfl rfl) (by have := HB.out.size; simp; omega) (by have := HPL.out; have := HLT.out; omega) ?_; intro v1 w1 ho hb; have HO := Aside0.mk ho; have HB1 := Aside0.mk (below_weaken (below_alloc HB.out _) (Nat.le_refl _) hb); clear ho hb))
        go_roundw
        case rel => exact ⟨k + 1, by have := HN.out; go_num, by have := HLT.out; omega, ⟨by rw [HPT.out]; exact HO.out⟩, HB1⟩
        case measure => have := HLT.out; have := HN.out; simp [intOf]; omega
      · have hib : decide (n ∈ l) = false := decide_eq_false hin
        have HPT := Lib.hid (show pickTo l (k + 1) = pickTo l k by rw [hn] at hin; simp only [pickTo]; rw [if_neg hin]; simp)
        clear hin hlt hP hn
        go_wp2_with (go_at_call 13; refine (has_calls wr _ _ l n (Kd.C_below HR.out HB.out)).mono ?_; rintro e w1 ⟨rfl, rfl⟩; rw [hib])
        go_roundw
        case rel => exact ⟨k + 1, by have := HN.out; go_num, by have := HLT.out; omega, ⟨by rw [HPT.out]; exact HK.out⟩, HB⟩
        case measure => have := HLT.out; have := HN.out; simp [intOf]; omega
    · have n1 : ¬ n ≤ 8 := by omega
      have HH := Lib.hid (show k = 10 by omega)
      clear hlt hn
      go_wp2
      go_ret
      exact ⟨_, rfl, by have := HK.out; rw [HH.out] at this; exact this, HB.out⟩
/-- The neighbours of a node, in the links' order. -/
def nearOf (n : Int) : List (Int × Int) → List Int
  | [] => []
  | k :: ls => (if k.1 = n then [k.2] else []) ++ ((if k.2 = n then [k.1] else []) ++ nearOf n ls)
theorem nearOf_app (n : Int) (a b : List (Int × Int)) : nearOf n (a ++ b) = nearOf n a ++ nearOf n b := by
  induction a with
  | nil => rfl
  | cons k a ih => simp [nearOf, ih]
theorem nearOf_mem {n v : Int} {ls : List (Int × Int)} : v ∈ nearOf n ls ↔ WvTree.Edge ls n v := by
  unfold WvTree.Edge
  induction ls with
  | nil => simp [nearOf]
  | cons k ls ih =>
    simp only [nearOf, List.mem_append, ih, List.mem_cons]
    obtain ⟨a, b⟩ := k
    constructor
    · rintro (h | h | h | h)
      · split at h
        · rename_i e; simp at h; left; left; simp [← e, h]
        · simp at h
      · split at h
        · rename_i e; simp at h; right; left; simp [← e, h]
        · simp at h
      · exact .inl (.inr h)
      · exact .inr (.inr h)
    · rintro ((h | h) | (h | h))
      · injection h with h1 h2; left; rw [if_pos h1.symm]; simp [h2]
      · exact .inr (.inr (.inl h))
      · injection h with h1 h2; right; left; rw [if_pos h2.symm]; simp [h1]
      · exact .inr (.inr (.inr h))
theorem nearOf_len (n : Int) (ls : List (Int × Int)) : (nearOf n ls).length ≤ 2 * ls.length := by
  induction ls with
  | nil => simp [nearOf]
  | cons k ls ih =>
    simp only [nearOf, List.length_append, List.length_cons]
    split <;> split <;> simp <;> omega
theorem nearOf_take (n : Int) (ls : List (Int × Int)) (j : Nat) (h : j < ls.length) : nearOf n (ls.take (j + 1)) = nearOf n (ls.take j) ++ ((if (lkAt ls j).1 = n then [(lkAt ls j).2] else []) ++ (if (lkAt ls j).2 = n then [(lkAt ls j).1] else [])) := by
  rw [take_lk ls j h, nearOf_app]
  simp [nearOf]
def near15 (ls : List (Int × Int)) (n : Int) : List Int := sorted15 (nearOf n ls)
end Go.Proofs.Ytpnokpoikhpiiaa
