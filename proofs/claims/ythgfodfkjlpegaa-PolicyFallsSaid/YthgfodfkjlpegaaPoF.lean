/- Plain law: a move makes the squares' sum less, keeps every sum between the least and the greatest, and moves one load. -/
import Derived.Test.YthgfodfkjlpegaaPoL
import Derived.Test.YthgfodfkjlpegaaWEqStruct
namespace Go.Proofs.Ythgfodfkjlpegaa
open Go.RowKit Go.Proofs.YthgfodfkjlpegaaW.PrintWords
set_option linter.unusedVariables false
set_option linter.unusedSimpArgs false
theorem load_eq (d : Nat) (a b c x y z : Int) (w : World) : (Op.equalIn (d + 2) 42 (.agg #[.int .i64 a, .int .i64 b, .int .i64 c]) (.agg #[.int .i64 x, .int .i64 y, .int .i64 z])).run Try.prog w = .ok ((a == x) && ((b == y) && (c == z))) w := by
  refine eqA_of Try.underlying42 (by kernel_rfl) ?_
  refine eqf_cons (by kernel_rfl) (by kernel_rfl) (by kernel_rfl) (run_equalIn_int w d _ .i64 .i64 a x Try.underlying3) ?_
  refine eqf_cons (by kernel_rfl) (by kernel_rfl) (by kernel_rfl) (run_equalIn_int w d _ .i64 .i64 b y Try.underlying3) ?_
  exact eqf_last (by kernel_rfl) (by kernel_rfl) (by kernel_rfl) (run_equalIn_int w d _ .i64 .i64 c z Try.underlying3)
theorem load_neq (a b c x y z : Int) (w : World) : (binOp .neq 42 (.agg #[.int .i64 a, .int .i64 b, .int .i64 c]) (.agg #[.int .i64 x, .int .i64 y, .int .i64 z])).run Try.prog w = .ok (.bool (!((a == x) && ((b == y) && (c == z))))) w := by
  rw [run_neq_struct, load_eq 9998]
  rfl
theorem ldAt_cons_zero (x : Ld) (l : List Ld) : ldAt (x :: l) 0 = x := rfl
theorem ldAt_cons_succ (x : Ld) (l : List Ld) (i : Nat) : ldAt (x :: l) (i + 1) = ldAt l i := rfl
theorem wsum_set (n : Int) : ∀ (l : List Ld) (i : Nat) (y : Ld), i < l.length → wsum n (l.set i y) = wsum n l - (if (ldAt l i).node = n then (ldAt l i).weight else 0) + (if y.node = n then y.weight else 0)
  | [], i, y, h => by simp at h
  | x :: l, 0, y, h => by
    simp only [List.set_cons_zero, wsum, ldAt_cons_zero]
    omega
  | x :: l, i + 1, y, h => by
    have ih := wsum_set n l i y (by simpa using h)
    simp only [List.set_cons_succ, wsum, ldAt_cons_succ, ih]
    omega
theorem sq_set : ∀ (S : List Int) (j : Nat) (v : Int) (h : j < S.length), sq (S.set j v) = sq S - S[j] * S[j] + v * v
  | [], j, v, h => by simp at h
  | x :: S, 0, v, h => by
    simp only [List.set_cons_zero, sq, List.getElem_cons_zero]
    omega
  | x :: S, j + 1, v, h => by
    have ih := sq_set S j v (by simpa using h)
    simp only [List.set_cons_succ, sq, List.getElem_cons_succ, ih]
    omega
theorem best_elig (n d : Int) (l : List Ld) : ∀ k, 0 ≤ bestTo n d l k → elig n d (ldAt l (bestTo n d l k).toNat) = true
  | 0, h => by simp [bestTo] at h
  | k + 1, h => by
    rw [best_step] at h ⊢
    split
    · rename_i hc
      rw [Bool.and_eq_true] at hc
      simpa using hc.1
    · rename_i hc
      rw [if_neg hc] at h
      exact best_elig n d l k h
/-- What is so of the load that goes. -/
structure Going (nodes : List Int) (l : List Ld) (i h g : Nat) (hi lo w : Int) : Prop where
  il : i < l.length
  pick : pickI nodes l = i
  hl : h < nodes.length
  gl : g < nodes.length
  hs : (sumsOf nodes l)[h]'(by rw [sumsOf_len]; exact hl) = hi
  gs : (sumsOf nodes l)[g]'(by rw [sumsOf_len]; exact gl) = lo
  node : (ldAt l i).node = nodes[h]
  tn : loN nodes l = nodes[g]
  weight : (ldAt l i).weight = w
  w1 : 1 ≤ w
  wd : w < hi - lo
  max : IsMax (sumsOf nodes l) hi
  min : IsMin (sumsOf nodes l) lo
theorem going {nodes : List Int} {l : List Ld} (hG : Good nodes l) (h0 : 0 ≤ pickI nodes l) : ∃ i h g hi lo w, Going nodes l i h g hi lo w := by
  have hne : sumsOf nodes l ≠ [] := ne_of rfl hG.ne
  have hmax := hiOf_is hne
  have hmin := loOf_is hne
  have hh := List.idxOf_lt_length_of_mem hmax.1
  have hg := List.idxOf_lt_length_of_mem hmin.1
  have hh2 : (sumsOf nodes l).idxOf (hiOf (sumsOf nodes l)) < nodes.length := by rw [sumsOf_len] at hh; exact hh
  have hg2 : (sumsOf nodes l).idxOf (loOf (sumsOf nodes l)) < nodes.length := by rw [sumsOf_len] at hg; exact hg
  have he := best_elig (hiN nodes l) (gap nodes l) l l.length h0
  have hb := (pickI_bound nodes l).2
  simp only [elig, Bool.and_eq_true, decide_eq_true_eq] at he
  refine ⟨(pickI nodes l).toNat, _, _, hiOf (sumsOf nodes l), loOf (sumsOf nodes l), (ldAt l (pickI nodes l).toNat).weight, by omega, by omega, hh2, hg2, List.getElem_idxOf hh, List.getElem_idxOf hg, ?_, ?_, rfl, he.1.2, he.2, hmax, hmin⟩
  · rw [show (ldAt l (pickI nodes l).toNat).node = hiN nodes l from he.1.1]
    exact rd_get _ _ hh2
  · exact rd_get _ _ hg2
section
variable {nodes : List Int} {l : List Ld} {i h g : Nat} {hi lo w : Int}
theorem Going.ne (H : Going nodes l i h g hi lo w) : h ≠ g := by
  intro e
  have h1 := H.hs
  have h2 := H.gs
  subst e
  have := H.wd
  have := H.w1
  omega
theorem Going.nodes_ne (H : Going nodes l i h g hi lo w) (hG : Good nodes l) : nodes[h]'H.hl ≠ nodes[g]'H.gl := fun e => H.ne ((List.getElem_inj hG.nodup).1 e)
theorem Going.moved (H : Going nodes l i h g hi lo w) : moved nodes l = l.set i { ldAt l i with node := loN nodes l } := by
  unfold Go.Proofs.Ythgfodfkjlpegaa.moved
  rw [H.pick]
  rfl
theorem Going.sums (H : Going nodes l i h g hi lo w) (hG : Good nodes l) : sumsOf nodes (Go.Proofs.Ythgfodfkjlpegaa.moved nodes l) = ((sumsOf nodes l).set h (hi - w)).set g (lo + w) := by
  rw [H.moved]
  apply List.ext_getElem
  · simp [sumsOf]
  · intro j h1 h2
    have hj : j < nodes.length := by simpa [sumsOf] using h1
    have e1 : (sumsOf nodes (l.set i { ldAt l i with node := loN nodes l }))[j] = wsum nodes[j] (l.set i { ldAt l i with node := loN nodes l }) := by simp [sumsOf]
    have hn := H.node
    have ht := H.tn
    have hw := H.weight
    have es : ∀ (q : Nat) (hq : q < nodes.length), (sumsOf nodes l)[q]'(by rw [sumsOf_len]; exact hq) = wsum nodes[q] l := fun q hq => by simp [sumsOf]
    have hne := H.nodes_ne hG
    rw [e1, wsum_set _ l i _ H.il, List.getElem_set]
    by_cases hg : g = j
    · subst hg
      rw [if_pos rfl]
      have h3 := H.gs
      rw [es g hj] at h3
      simp only []
      rw [if_neg (by rw [hn]; exact hne), if_pos ht, h3, hw]
      omega
    · rw [if_neg hg, List.getElem_set]
      have n1 : ¬ nodes[g]'H.gl = nodes[j] := fun e => hg ((List.getElem_inj hG.nodup).1 e)
      by_cases hh : h = j
      · subst hh
        rw [if_pos rfl]
        have h3 := H.hs
        rw [es h hj] at h3
        simp only []
        rw [if_pos hn, if_neg (by rw [ht]; exact n1), h3, hw]
        omega
      · have n2 : ¬ nodes[h]'H.hl = nodes[j] := fun e => hh ((List.getElem_inj hG.nodup).1 e)
        rw [if_neg hh, es j hj]
        simp only []
        rw [if_neg (by rw [hn]; exact n2), if_neg (by rw [ht]; exact n1)]
        omega
theorem Going.falls (H : Going nodes l i h g hi lo w) (hG : Good nodes l) : sq (sumsOf nodes (Go.Proofs.Ythgfodfkjlpegaa.moved nodes l)) < sq (sumsOf nodes l) := by
  have hl := H.hl
  have gl := H.gl
  rw [H.sums hG, sq_set _ _ _ (by rw [List.length_set, sumsOf_len]; exact gl), sq_set _ _ _ (by rw [sumsOf_len]; exact hl), List.getElem_set_ne H.ne, H.hs, H.gs]
  have h1 := H.w1
  have h2 := H.wd
  have e1 : (hi - w) * (hi - w) = hi * hi - 2 * (w * hi) + w * w := by rw [Int.sub_mul, Int.mul_sub, Int.mul_sub, Int.mul_comm hi w]; omega
  have e2 : (lo + w) * (lo + w) = lo * lo + 2 * (w * lo) + w * w := by rw [Int.add_mul, Int.mul_add, Int.mul_add, Int.mul_comm lo w]; omega
  have e3 : w * (hi - lo - w) = w * hi - w * lo - w * w := by rw [Int.mul_sub, Int.mul_sub]
  have e4 : 0 < w * (hi - lo - w) := Int.mul_pos (by omega) (by omega)
  omega
theorem Going.between (H : Going nodes l i h g hi lo w) (hG : Good nodes l) : ∀ y ∈ sumsOf nodes (Go.Proofs.Ythgfodfkjlpegaa.moved nodes l), lo ≤ y ∧ y ≤ hi := by
  intro y hy
  rw [H.sums hG] at hy
  have h1 := H.w1
  have h2 := H.wd
  rcases List.mem_or_eq_of_mem_set hy with hy | rfl
  · rcases List.mem_or_eq_of_mem_set hy with hy | rfl
    · exact ⟨H.min.2 y hy, H.max.2 y hy⟩
    · omega
  · omega
theorem Going.at_ (H : Going nodes l i h g hi lo w) (k : Nat) (hk : k < l.length) : ldAt (Go.Proofs.Ythgfodfkjlpegaa.moved nodes l) k = if i = k then { ldAt l i with node := loN nodes l } else ldAt l k := by
  rw [H.moved, ldAt_get _ _ (by rw [List.length_set]; exact hk), List.getElem_set]
  split
  · rfl
  · rw [ldAt_get l k hk]
theorem Going.differs (H : Going nodes l i h g hi lo w) (hG : Good nodes l) : (ldAt l i).node ≠ loN nodes l := by
  rw [H.node, H.tn]
  exact H.nodes_ne hG
end
end Go.Proofs.Ythgfodfkjlpegaa
