/- Plain law of PolicyAlike: the turned list settles to the turned list. -/
import Derived.Test.YthgfodfkjlpegaaPoF
namespace Go.Proofs.Ythgfodfkjlpegaa
open Go.RowKit Go.Proofs.YthgfodfkjlpegaaW.PrintWords
set_option linter.unusedVariables false
set_option linter.unusedSimpArgs false
theorem ahead_asymm {d : Int} {x y : Ld} (h : ahead d x y = true) (k : ahead d y x = true) : False := by
  simp only [ahead, Bool.or_eq_true, Bool.and_eq_true, decide_eq_true_eq] at h k
  omega
theorem ahead_trans {d : Int} {x y z : Ld} (h : ahead d x y = true) (k : ahead d y z = true) : ahead d x z = true := by
  simp only [ahead, Bool.or_eq_true, Bool.and_eq_true, decide_eq_true_eq] at h k ⊢
  omega
theorem ahead_total {d : Int} {x y : Ld} (h : x.sub ≠ y.sub) (k : ahead d x y = false) : ahead d y x = true := by
  simp only [ahead, Bool.or_eq_false_iff, Bool.and_eq_false_iff, decide_eq_false_iff_not] at k
  simp only [ahead, Bool.or_eq_true, Bool.and_eq_true, decide_eq_true_eq]
  omega
def IsBest (n d : Int) (l : List Ld) (k : Nat) (b : Int) : Prop :=
  (b = -1 ∧ ∀ j, j < k → elig n d (ldAt l j) = false) ∨ (∃ j : Nat, j < k ∧ b = (j : Int) ∧ elig n d (ldAt l j) = true ∧ ∀ i, i < k → i ≠ j → elig n d (ldAt l i) = true → ahead d (ldAt l j) (ldAt l i) = true)
theorem IsBest.one {n d : Int} {l : List Ld} {k : Nat} {b b' : Int} (h : IsBest n d l k b) (h' : IsBest n d l k b') : b = b' := by
  rcases h with ⟨rfl, h⟩ | ⟨j, hj, rfl, he, h⟩ <;> rcases h' with ⟨rfl, h'⟩ | ⟨j', hj', rfl, he', h'⟩
  · rfl
  · rw [h j' hj'] at he'; cases he'
  · rw [h' j hj] at he; cases he
  · by_cases e : j = j'
    · subst e; rfl
    · exact (ahead_asymm (h j' hj' (fun x => e x.symm) he') (h' j hj e he)).elim
def Apart (l : List Ld) : Prop := ∀ i j, i < l.length → j < l.length → i ≠ j → (ldAt l i).sub ≠ (ldAt l j).sub
theorem apart {l : List Ld} (h : (l.map Ld.sub).Nodup) : Apart l := by
  intro i j hi hj hne e
  rw [ldAt_get l i hi, ldAt_get l j hj] at e
  apply hne
  have h2 : (l.map Ld.sub)[i]'(by simpa using hi) = (l.map Ld.sub)[j]'(by simpa using hj) := by simpa using e
  exact (List.getElem_inj h).1 h2
theorem best_is (n d : Int) (l : List Ld) (hA : Apart l) : ∀ k, k ≤ l.length → IsBest n d l k (bestTo n d l k)
  | 0, _ => Or.inl ⟨rfl, fun j hj => by omega⟩
  | k + 1, hk => by
    have ih := best_is n d l hA k (by omega)
    by_cases he : elig n d (ldAt l k) = true
    · rcases ih with ⟨hb, h⟩ | ⟨j, hj, hb, hej, h⟩
      · rw [best_first n d l k he (by omega)]
        refine Or.inr ⟨k, by omega, rfl, he, fun i hi hne hei => ?_⟩
        rw [h i (by omega)] at hei
        cases hei
      · rw [best_more n d l k j he hb]
        by_cases ha : ahead d (ldAt l k) (ldAt l j) = true
        · rw [if_pos ha]
          refine Or.inr ⟨k, by omega, rfl, he, fun i hi hne hei => ?_⟩
          by_cases e : i = j
          · subst e; exact ha
          · exact ahead_trans ha (h i (by omega) e hei)
        · rw [if_neg ha]
          refine Or.inr ⟨j, by omega, rfl, hej, fun i hi hne hei => ?_⟩
          by_cases e : i = k
          · subst e
            exact ahead_total (hA i j (by omega) (by omega) (by omega)) (by simpa using ha)
          · exact h i (by omega) hne hei
    · have he2 : elig n d (ldAt l k) = false := by simpa using he
      rw [best_skip n d l k he2]
      rcases ih with ⟨hb, h⟩ | ⟨j, hj, hb, hej, h⟩
      · refine Or.inl ⟨hb, fun i hi => ?_⟩
        by_cases e : i = k
        · subst e; exact he2
        · exact h i (by omega)
      · refine Or.inr ⟨j, by omega, hb, hej, fun i hi hne hei => ?_⟩
        by_cases e : i = k
        · subst e; exact absurd hei he
        · exact h i (by omega) hne hei
theorem nodup_rev {l : List Int} (h : l.Nodup) : l.reverse.Nodup := List.pairwise_reverse.2 (h.imp fun hab e => hab e.symm)
theorem ldAt_rev (l : List Ld) (k : Nat) (h : k < l.length) : ldAt l.reverse k = ldAt l (l.length - 1 - k) := by
  rw [ldAt_get _ _ (by simpa using h), ldAt_get _ _ (by omega), List.getElem_reverse]
theorem wsum_rev (n : Int) (l : List Ld) : wsum n l.reverse = wsum n l := by
  induction l with
  | nil => rfl
  | cons x l ih => rw [List.reverse_cons, wsum_app, ih]; simp only [wsum]; omega
theorem sums_rev (nodes : List Int) (l : List Ld) : sumsOf nodes l.reverse = sumsOf nodes l := by simp only [sumsOf, wsum_rev]
theorem pick_rev {nodes : List Int} {l : List Ld} (hG : Good nodes l) : pickI nodes l.reverse = if pickI nodes l < 0 then -1 else ((l.length - 1 - (pickI nodes l).toNat : Nat) : Int) := by
  have h1 : hiN nodes l.reverse = hiN nodes l := by unfold hiN; rw [sums_rev]
  have h2 : gap nodes l.reverse = gap nodes l := by unfold gap; rw [sums_rev]
  have hA := apart hG.nod
  have hA' : Apart l.reverse := apart (by rw [List.map_reverse]; exact nodup_rev hG.nod)
  have hb := best_is (hiN nodes l) (gap nodes l) l hA l.length (Nat.le_refl _)
  have hb' := best_is (hiN nodes l) (gap nodes l) l.reverse hA' l.length (by simp)
  have e : pickI nodes l.reverse = bestTo (hiN nodes l) (gap nodes l) l.reverse l.length := by unfold pickI; rw [h1, h2, List.length_reverse]
  rw [e]
  refine hb'.one ?_
  change IsBest _ _ l _ (pickI nodes l) at hb
  rcases hb with ⟨hb, h⟩ | ⟨j, hj, hb, hej, h⟩
  · rw [hb, if_pos (by omega)]
    exact Or.inl ⟨rfl, fun j hj => by rw [ldAt_rev l j hj]; exact h _ (by omega)⟩
  · rw [hb, if_neg (by omega)]
    refine Or.inr ⟨l.length - 1 - j, by omega, by simp, ?_, fun i hi hne hei => ?_⟩
    · rw [ldAt_rev l _ (by omega), show l.length - 1 - (l.length - 1 - j) = j by omega]
      exact hej
    · rw [ldAt_rev l i hi] at hei ⊢
      rw [ldAt_rev l _ (by omega), show l.length - 1 - (l.length - 1 - j) = j by omega]
      exact h _ (by omega) (by omega) hei
theorem set_rev {α : Type} (l : List α) (i : Nat) (x : α) (h : i < l.length) : l.reverse.set (l.length - 1 - i) x = (l.set i x).reverse := by
  apply List.ext_getElem
  · simp
  · intro j h1 h2
    have hj : j < l.length := by simpa using h1
    simp only [List.getElem_set, List.getElem_reverse, List.length_set]
    by_cases e : l.length - 1 - i = j
    · rw [if_pos e, if_pos (by omega)]
    · rw [if_neg e, if_neg (by omega)]
theorem Good.rev {nodes : List Int} {l : List Ld} (h : Good nodes l) : Good nodes l.reverse :=
  ⟨h.srt, h.ne, ⟨fun x hx => h.fine.at_ x (List.mem_reverse.1 hx), fun x hx => h.fine.w0 x (List.mem_reverse.1 hx), fun x hx => h.fine.w1 x (List.mem_reverse.1 hx), by rw [List.length_reverse]; exact h.fine.len⟩, by rw [List.map_reverse]; exact nodup_rev h.nod⟩
theorem moved_rev {nodes : List Int} {l : List Ld} (hG : Good nodes l) (h0 : 0 ≤ pickI nodes l) : moved nodes l.reverse = (moved nodes l).reverse := by
  have hb := (pickI_bound nodes l).2
  have hl : loN nodes l.reverse = loN nodes l := by unfold loN; rw [sums_rev]
  unfold moved
  rw [pick_rev hG, if_neg (by omega), Int.toNat_natCast, hl, ← set_rev _ _ _ (by omega), ldAt_rev l _ (by omega), show l.length - 1 - (l.length - 1 - (pickI nodes l).toNat) = (pickI nodes l).toNat by omega]
theorem settle_rev {nodes : List Int} : ∀ (n : Nat) {l : List Ld}, Good nodes l → settle nodes n l.reverse = (settle nodes n l).reverse
  | 0, l, _ => rfl
  | n + 1, l, hG => by
    simp only [settle, pick_rev hG]
    by_cases h0 : pickI nodes l < 0
    · rw [if_pos h0, if_pos (by decide), if_pos h0]
    · rw [if_neg h0, if_neg (by omega), if_neg h0, moved_rev hG (by omega)]
      exact settle_rev n (hG.moved (by omega))
theorem settle_len {nodes : List Int} : ∀ (n : Nat) (l : List Ld), (settle nodes n l).length = l.length
  | 0, l => rfl
  | n + 1, l => by
    simp only [settle]
    split
    · rfl
    · rw [settle_len n, moved_len]
end Go.Proofs.Ythgfodfkjlpegaa
