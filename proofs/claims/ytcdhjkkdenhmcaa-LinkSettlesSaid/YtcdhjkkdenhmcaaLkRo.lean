/- A row of lists of bytes of an end: its own, or cut at its length (then an append makes a new one). -/
import Derived.Test.YtcdhjkkdenhmcaaLkBs
import Derived.ArgAppend
namespace Go.Proofs.Ytcdhjkkdenhmcaa
open Go.RowKit Go.Proofs.YtcdhjkkdenhmcaaW.PrintWords Go.Proofs.YtcdhjkkdenhmcaaW.PrintLast Go.Proofs.YtcdhjkkdenhmcaaW.PrintMore
set_option linter.unusedVariables false
set_option linter.unusedSimpArgs false
def Ro (w : World) (lo : Nat) (ok : Nat → Prop) (v : Value) (xs : List (List UInt8)) : Prop := Kd.N kBs 29 w lo ok v xs ∨ ∃ A, v = .slice A xs.length xs.length ∧ Kd.F kBs w ok A xs.length xs
section
variable {w w1 : World} {lo lo' : Nat} {ok ok' : Nat → Prop} {v : Value} {xs : List (List UInt8)}
theorem Ro.nil (w : World) (lo : Nat) (ok : Nat → Prop) : Ro w lo ok (.slice none 0 0) [] := .inl (Kd.N_nil _ _ _ _ _)
theorem Ro.step (h : Ro w lo ok v xs) (hm : ∀ k, ok k → k < w.heap.size → w1.heap[k]? = w.heap[k]?) : Ro w1 lo ok v xs := by
  rcases h with h | ⟨A, e, h⟩
  · exact .inl (Kd.N_step h hm)
  · exact .inr ⟨A, e, Kd.F_step h hm⟩
theorem Ro.mono (h : Ro w lo ok v xs) (hm : ∀ k, ok k → k < w.heap.size → ok' k) : Ro w lo ok' v xs := by
  rcases h with h | ⟨A, e, h⟩
  · exact .inl (Kd.N_mono (Kd.N_bound h) (fun k hk => hm k hk.1 hk.2))
  · exact .inr ⟨A, e, Kd.F_mono (Kd.F_bound h) (fun k hk => hm k hk.1 hk.2)⟩
theorem Ro.lower (h : Ro w lo ok v xs) (hl : lo' ≤ lo) : Ro w lo' ok v xs := by
  rcases h with h | h
  · exact .inl (Kd.N_lower h hl)
  · exact .inr h
theorem Ro.reads (h : Ro w lo ok v xs) : ∃ A c, v = .slice A xs.length c ∧ xs.length ≤ c ∧ kBs.C w A xs.length xs := by
  rcases h with h | ⟨A, e, h⟩
  · exact Kd.N_reads h
  · exact ⟨A, _, e, Nat.le_refl _, Kd.F_now h⟩
theorem Ro.reads' {A : Option Addr} {c : Nat} (h : Ro w lo ok (.slice A xs.length c) xs) : xs.length ≤ c ∧ kBs.C w A xs.length xs := by
  obtain ⟨A', c', e, h1, h2⟩ := h.reads
  injection e with e1 _ e3
  subst e1 e3
  exact ⟨h1, h2⟩
theorem Ro.far (h : Ro w lo ok v xs) {p : Addr} (hok : ∀ k, ok k → k ≠ p.block) (u : Value) : Ro (w.setCell p u) lo ok v xs := h.step (fun k ho _ => Below.heap_setCell w p u k (hok k ho))
/-- Cut at a length: s[:n:n]. -/
theorem Ro.cut {A : Option Addr} {c n : Nat} (h : Ro w lo ok (.slice A xs.length c) xs) (hn : n ≤ xs.length) : Ro w lo ok (.slice A (xs.take n).length (xs.take n).length) (xs.take n) := by
  refine .inr ⟨A, rfl, ?_⟩
  rcases h with h | ⟨A', e, h⟩
  · exact Kd.F_take (Kd.N_F h) hn
  · injection e with e1 _ _
    subst e1
    exact Kd.F_take h hn
end
theorem reps_single {α : Type} {R : α → List Value → Prop} {sz : Nat} {p : α} {cs : List Value} (h : R p cs) (hl : cs.length = sz) : Reps R sz [p] cs := by
  refine ⟨by simp [hl], fun j q hj => ?_⟩
  rcases j with _ | j
  · simp only [List.getElem?_cons_zero, Option.some.injEq] at hj
    subst hj
    rw [Nat.zero_mul, List.drop_zero, ← hl, List.take_length]
    exact h
  · simp at hj
section
variable {ops : Array Oper} {rest : List Oper} {o : Oper} {a : Act} {Q : Exit → Act → World → Prop} {Kc : Act → World → Prop}
theorem Ro_append_step {w0 W : World} (base : Nat) (hw : Region.wanted o (yielded ops a.tmps) = true) (s x : Operand)
    (ho : o.op = .call { callee := .builtin .append, args := #[s, x], argTypes := #[22, 22] })
    (v : Value) (xs : List (List UInt8)) (p : List UInt8) (cs : List Value) (okO ok okp : Nat → Prop) (hO : ∀ k, okO k → ok k) (hs : a.eval s = v) (hx : a.eval x = .slice (some ⟨W.heap.size, 0, none⟩) 1 1) (hp : Kd.FK kBs W okp p cs) (hokp : ∀ k, okp k → ok k ∧ ¬ okO k) (hfresh : ∀ k, W.heap.size ≤ k → ok k)
    (HO : Ro W base okO v xs) (HB : Below base w0 W) (hbase : base ≤ W.heap.size) (hl : (xs.length + 1) * 24 ≤ 140737488355328)
    (h : ∀ v1 w1, Ro w1 base ok v1 (xs ++ [p]) → Below base w0 w1 → W.heap.size ≤ w1.heap.size → (∀ k, k < W.heap.size → ¬ ok k → w1.heap[k]? = W.heap[k]?) → Kc (a.put o.dst v1) w1) :
    if Region.wanted o (yielded ops a.tmps) = true then Oper.wp Try.prog o a (W.alloc (.cells cs.toArray 29)) Kc Q else Kc (a.put o.dst undef) (W.alloc (.cells cs.toArray 29)) := by
  have nrow : ∀ (v' : Value) (HN0 : Kd.N kBs 29 W base okO v' xs), a.eval s = v' → _ := fun v' HN0 hs' =>
    have HN := Kd.N_mono HN0 hO
    Kd.N_append_step (Kc := Kc) (Q := Q) kBs (w0 := w0) (W := W) base hw s x 22 29 (.slice none 0 0) 24 ho Try.underlying22 info6 rfl (by decide) (by omega) v' xs p cs ok okp hs' hx hp (fun k hk => ⟨(hokp k hk).1, fun e => (hokp k hk).2 (HN0.1 k e.symm)⟩) hfresh HN HB hbase hl
      (fun v1 w1 hN hb hg _ => h v1 w1 (.inl hN) hb hg.size (fun k hk hn => hg.block k hk (fun e => hn (HN.1 k e.symm))))
  rcases HO with HN | ⟨A, rfl, hF⟩
  · exact nrow v HN hs
  · cases A with
    | none =>
      have h0 : xs = [] := by
        rcases Nat.eq_zero_or_pos xs.length with h0 | h0
        · exact List.eq_nil_of_length_eq_zero h0
        · obtain ⟨ad, e, _⟩ := (Kd.F_now hF).2.2 h0; cases e
      subst h0
      exact nrow _ (Kd.N_nil _ _ _ _ _) hs
    | some b =>
      obtain ⟨i0, hi, hz0, hz1, hz2⟩ := info_parts info6
      obtain ⟨olds, hrep, hcell⟩ := ReadsRow.inner_ (Kd.F_rows hF)
      have hcs : cs.length = 1 := kBs.K_len (Kd.FK_now hp)
      have hol : olds.length = xs.length * 1 := hrep.1
      have hsz : (W.alloc (.cells cs.toArray 29)).heap.size = W.heap.size + 1 := Array.size_push _
      rw [if_pos hw]
      obtain ⟨v1, w1, hr, hown, hg⟩ := run_append_arg_grows (P := Try.prog) (W.alloc (.cells cs.toArray 29)) 22 o.type 29 i0 (.slice none 0 0) 1 24 Try.underlying22 hi hz0 hz1 hz2 rfl (by decide) b xs.length xs.length olds hol (fun j u hj => (World.cell?_alloc_lt _ _ _ (World.block_lt_of_cell? _ _ (hcell j u hj))).trans (hcell j u hj)) ⟨W.heap.size, 0, none⟩ 1 1 cs hcs
        (by simpa using World.news_of_block (cs := cs.toArray) (t := 29) (fr := (0, 0)) (heap_alloc_new W (.cells cs.toArray 29))) (by omega) (by simp only [maxLen]; omega) hl
      have hk : ∀ k, k < W.heap.size → w1.heap[k]? = W.heap[k]? := fun k hk => (hg.block k (by omega) (by simp)).trans (heap_alloc_old W _ hk)
      have hob : ∀ k, v1.ownBlock = some k → W.heap.size ≤ k := fun k hk => by have := own_base hown k hk; omega
      have hrep2 : Reps (fun x c => Kd.FK kBs W ok x c) 1 (xs ++ [p]) (olds ++ cs) := Kd.reps_append (hrep.imp_ (fun _ _ hq => Kd.FK_mono hq hO)) (reps_single (Kd.FK_mono hp (fun k hk => (hokp k hk).1)) hcs)
      have hN : Kd.N kBs 29 w1 base ok v1 (xs ++ [p]) := by
        refine ⟨fun k hk => hfresh k (hob k hk), Kd.chunks 1 (xs ++ [p]).length (olds ++ cs), Kd.chunks_length _ _ _, ⟨fun k hk => hk.symm, olds ++ cs, ?_, Kd.reps_raw hrep2 (fun x c hq => ⟨kBs.K_len (Kd.FK_now hq), kBs.K_one (Kd.FK_now hq)⟩)⟩, fun j x c hx hc => ?_⟩
        · rw [Kd.chunks_length, List.length_append]
          exact own_weaken hown (by omega)
        · rw [Kd.chunks_get hc]
          exact Kd.FK_mono (Kd.FK_step (Kd.FK_bound (hrep2.2 j x hx)) (fun k _ hlt => hk k hlt)) (fun k hkk => ⟨hkk.1, fun e => by have := hob k e.symm; omega⟩)
      have h2 := h v1 w1 (.inl hN) ((HB.alloc hbase _).trans ⟨hg.os, hg.tape, hg.output, hg.size, fun k hk => hg.block k (by omega) (by simp)⟩) (by have := hg.size; omega) (fun k hk' _ => hk k hk')
      unfold Oper.wp execOp
      simp only [ho, resolve, invoke, builtin, Sem.run_bind, Sem.run_pure, Result.andThen_ok, List.map_toArray, List.map_cons, List.map_nil, hs, hx, hr]
      exact h2
end
end Go.Proofs.Ytcdhjkkdenhmcaa
