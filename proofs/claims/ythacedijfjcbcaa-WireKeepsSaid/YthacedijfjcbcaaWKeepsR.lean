/- wire: rows that are written, beside others that are not (for WireKeeps). -/
import Derived.Test.YthacedijfjcbcaaWBackF
namespace Go.Proofs.Ythacedijfjcbcaa
open Go.RowKit Go.Proofs.YthacedijfjcbcaaW.PrintWords Go.Proofs.YthacedijfjcbcaaW.PrintLast Go.Proofs.YthacedijfjcbcaaW.PrintMore
set_option linter.unusedVariables false
set_option linter.unusedSimpArgs false

/-- A row of bytes, whatever they are, whose block lies between. -/
def Rw (w : World) (lo hi : Nat) (v : Value) : Prop := ∃ xs, kB.R 5 w lo (fun k => lo ≤ k ∧ k < hi) v xs
theorem Rw.of {w W : World} {lo : Nat} {ok : Nat → Prop} {v : Value} {xs : List UInt8} (h : kB.R 5 w lo ok v xs) (hb : Below w.heap.size w W) : Rw W lo w.heap.size v :=
  ⟨xs, Kd.R_below (Kd.R_mono (Kd.R_bound h) fun k hk => ⟨hk.2.1, hk.2.2.1⟩) hb⟩
theorem Rw.far {w : World} {lo hi g i : Nat} {v u : Value} (h : Rw w lo hi v) (hg : ¬ (lo ≤ g ∧ g < hi)) : Rw (w.setCell ⟨g, i, none⟩ u) lo hi v := by
  obtain ⟨xs, h⟩ := h
  exact ⟨xs, Kd.R_far h (fun k hk e => hg (by rw [← show k = g from e]; exact hk)) _⟩
theorem Rw.at_ {w : World} {lo hi n c i : Nat} {A : Option Addr} (h : Rw w lo hi (.slice A n c)) (hin : i < n) :
    ∃ g y0, A = some ⟨g, 0, none⟩ ∧ (lo ≤ g ∧ g < hi) ∧ w.cell? ⟨g, i, none⟩ = some (encB y0) ∧ w.frozen? ⟨g, i, none⟩ = false ∧ ∀ y, Rw (w.setCell ⟨g, i, none⟩ (encB y)) lo hi (.slice A n c) := by
  obtain ⟨xs, h⟩ := h
  obtain ⟨hn, _, _⟩ := Kd.R_reads' h
  have ho := Kd.own_of_R (enc := encB) h
  obtain ⟨g, cap, e, _, _⟩ := ho.form (by omega)
  injection e with e1 e2 e3
  subst e1
  have hb := h.1 g (by simp [Value.ownBlock])
  obtain ⟨h1, h2⟩ := Kd.R_celln (enc := encB) 0 h (i : Int) (by omega) (by omega)
  simp only [Int.toNat_natCast] at h1 h2
  refine ⟨g, _, rfl, hb, h1, h2, fun y => ⟨xs.set i y, ?_⟩⟩
  have h3 := Kd.R_putn (enc := encB) h (i : Int) y
  simp only [Int.toNat_natCast] at h3
  exact h3
section
variable {W : World} {ops : Array Oper} {rest : List Oper} {o : Oper} {a : Act} {Q : Exit → Act → World → Prop}
/-- append(s, b), one byte: only the row's own block changes. -/
theorem app_byteK (base : Nat) (hgd : o.guard = none) (s x : Operand)
    (ho : o.op = .call { callee := .builtin .append, args := #[s, x], argTypes := #[22, 22] }) (v : Value) (xs : List UInt8) (b : UInt8) (u : Value) (hu : u = encB b) (hs : a.eval s = v) (hx : a.eval x = .slice (some ⟨W.heap.size, 0, none⟩) 1 1) (ok : Nat → Prop)
    (HO : kB.R 5 W base ok v xs) (hf : ∀ k, W.heap.size ≤ k → ok k) (hb : base ≤ W.heap.size) (hl : xs.length + 1 ≤ 140737488355328)
    (h : ∀ v1 w1, kB.R 5 w1 base ok v1 (xs ++ [b]) → Below base W w1 → W.grownBy w1 v.ownBlock → wpList Try.prog ops Q rest (a.put o.dst v1) w1) : wpList Try.prog ops Q (o :: rest) a (W.alloc (.cells #[u] 5)) := by
  subst hu
  exact Kd.R_append kB (w0 := W) base hgd s x _ 5 (.int .u8 0) 1 ho Try.underlying22 info5 rfl (by decide) (by omega) v xs b [encB b] ok (fun _ => False) hs hx rfl (fun _ hk => hk.elim) hf HO (Below.refl _ _) hb (by omega)
    fun v1 w1 h1 h2 h3 _ => h v1 w1 h1 h2 h3
end

/-- What the loop over four rows keeps: all but their blocks; the list of them; each is a row still. -/
def KJ (w W7 : World) (lo hi : Nat → Nat) (vl : Nat → Value) (wr : World) : Prop :=
  Kept W7 wr (fun b => ∃ k, k < 4 ∧ lo k ≤ b ∧ b < hi k) ∧ W7.heap.size < wr.heap.size ∧ wr.heap[W7.heap.size]? = some (.cells #[vl 0, vl 1, vl 2, vl 3] 22) ∧ (∀ k, k < 4 → Rw wr (lo k) (hi k) (vl k)) ∧ Below w.heap.size w wr
theorem KJ.cell {w W7 wr : World} {lo hi : Nat → Nat} {vl : Nat → Value} (h : KJ w W7 lo hi vl wr) {k : Nat} (hk : k < 4) : wr.cell? ⟨W7.heap.size, k, none⟩ = some (vl k) := by
  unfold World.cell?
  rw [h.2.2.1]
  rcases k with _ | _ | _ | _ | k
  · rfl
  · rfl
  · rfl
  · rfl
  · omega
theorem KJ.at_ {w W7 wr : World} {lo hi : Nat → Nat} {vl : Nat → Value} (h : KJ w W7 lo hi vl wr) (hm : ∀ j k, j < k → k < 4 → hi j ≤ lo k) (hs : ∀ k, k < 4 → hi k ≤ W7.heap.size) (hw : ∀ k, k < 4 → w.heap.size ≤ lo k) {k : Nat} (hk : k < 4) {A : Option Addr} {n c i : Nat} (hv : vl k = .slice A n c) (hin : i < n) :
    ∃ g y0, A = some ⟨g, 0, none⟩ ∧ wr.cell? ⟨g, i, none⟩ = some (encB y0) ∧ wr.frozen? ⟨g, i, none⟩ = false ∧ ∀ y, KJ w W7 lo hi vl (wr.setCell ⟨g, i, none⟩ (encB y)) := by
  obtain ⟨h1, h2, h3, h4, h6⟩ := h
  have h5 := h4 k hk
  rw [hv] at h5
  obtain ⟨g, y0, e, hg, hc, hf, hy⟩ := h5.at_ hin
  refine ⟨g, y0, e, hc, hf, fun y => ⟨?_, ?_, ?_, fun j hj => ?_, below_set h6 (by have := hw k hk; omega)⟩⟩
  · exact Kept.setCell h1 (.inl ⟨k, hk, hg⟩) _
  · simpa [World.setCell] using h2
  · rw [Below.heap_setCell wr ⟨g, i, none⟩ _ _ (show W7.heap.size ≠ g by have := hs k hk; omega)]
    exact h3
  · by_cases hjk : j = k
    · subst hjk
      rw [hv]
      exact hy y
    · refine (h4 j hj).far ?_
      intro hgj
      rcases Nat.lt_or_ge j k with hlt | hge
      · have := hm j k hlt hk; omega
      · have := hm k j (by omega) hj; omega
end Go.Proofs.Ythacedijfjcbcaa
