/- Words on lists of numbers that all texts of this seat use. -/
import Derived.Test.YtpnokpoikhpiiaaProg
import Derived.Test.YtpnokpoikhpiiaaWMore
import Derived.Test.YtpnokpoikhpiiaaWKept
import Derived.Test.YtpnokpoikhpiiaaWLast
import Derived.BigQuiet
import Derived.Deep.QuietTactic
import Derived.Deep.LoopGhost
import Derived.WalkSpells
import Derived.Lib.Hide
namespace Go.Proofs.Ytpnokpoikhpiiaa
open Go.RowKit Go.Proofs.YtpnokpoikhpiiaaW.PrintWords Go.Proofs.YtpnokpoikhpiiaaW.PrintLast Go.Proofs.YtpnokpoikhpiiaaW.PrintMore
set_option linter.unusedVariables false
set_option linter.unusedSimpArgs false

theorem info3 : (Try.prog.info? 3).map (fun i => (i.zero, i.size, i.bytes)) = some (some (.int .i64 0), 1, 8) := by kernel_rfl
theorem take_rd (l : List Int) (k : Nat) (h : k < l.length) : l.take (k + 1) = l.take k ++ [rd l k] := by
  rw [List.take_succ_eq_append_getElem h]
  simp [rd, List.getD_eq_getElem?_getD, List.getElem?_eq_getElem h]
theorem rd_get (l : List Int) (k : Nat) (h : k < l.length) : rd l k = l[k] := by
  simp [rd, List.getD_eq_getElem?_getD, List.getElem?_eq_getElem h]
theorem rd_mem (l : List Int) (k : Nat) (h : k < l.length) : rd l k ∈ l := by
  rw [rd_get l k h]
  exact List.getElem_mem h
theorem empty_row (W : World) (base : Nat) (ok : Nat → Prop) (hb : base ≤ W.heap.size) (hok : ok W.heap.size) (t : TypeId) : (Kd.int .i64).R t (W.alloc (.cells #[] t)) base ok (.slice (some ⟨W.heap.size, 0, none⟩) 0 0) [] :=
  Kd.R_of_own (enc := Value.int .i64) (by simpa [encs] using own_lit_of (enc := Value.int .i64) W base t [] hb (by simp)) (fun k hk => by simp [Value.ownBlock] at hk; exact hk ▸ hok)
theorem C_of_own {w : World} {base n c : Nat} {t : TypeId} {A : Option Addr} {xs : List Int} (h : w.ownsRow base t 1 (.slice A n c) n (encs (Value.int .i64) xs)) (hn : xs.length = n) : (Kd.int .i64).C w A n xs := by
  subst hn
  exact (Kd.R_reads' (Kd.R_of_own (ok := fun _ => True) h (fun _ _ => trivial) : (Kd.int .i64).R t w base (fun _ => True) (.slice A xs.length c) xs)).2.2
/-- A literal of numbers. -/
theorem lit_C (W : World) (t : TypeId) (xs : List Int) (hm : xs.length ≤ 9223372036854775807) : (Kd.int .i64).C (W.alloc (.cells (encs (Value.int .i64) xs).toArray t)) (some ⟨W.heap.size, 0, none⟩) xs.length xs :=
  C_of_own (own_lit_of (enc := Value.int .i64) W 0 t xs (Nat.zero_le _) hm) rfl
/-- .. in the goal's own spelling: '(lit_at _ _ XS (by simp) (by simp) rfl rfl)'. -/
theorem lit_at (W : World) (t : TypeId) (xs : List Int) {g n : Nat} {cs : Array Value} (hm : xs.length ≤ 9223372036854775807) (hg : W.heap.size = g) (hcs : cs = (encs (Value.int .i64) xs).toArray) (hn : xs.length = n) : (Kd.int .i64).C (W.alloc (.cells cs t)) (some ⟨g, 0, none⟩) n xs := by
  subst hg hcs hn
  exact lit_C W t xs hm
/-- One cell of a list that is read. -/
theorem C_cell {w : World} {A : Option Addr} {xs : List Int} (h : (Kd.int .i64).C w A xs.length xs) {k : Nat} (hk : k < xs.length) : ∃ ad, A = some ad ∧ w.cell? (ad.add k) = some (.int .i64 (rd xs k)) := by
  obtain ⟨ad, e, hc⟩ := Kd.at_int h k (by omega) (by omega)
  exact ⟨ad, e, by simpa using hc⟩
/-- append(s, x...) at lists of numbers, s a row of the call's own. -/
theorem app_rows {W : World} {ops : Array Oper} {rest : List Oper} {o : Oper} {a : Act} {Q : Exit → Act → World → Prop} (hi : Nat) (hgd : o.guard = none) (s x : Operand)
    (ho : o.op = .call { callee := .builtin .append, args := #[s, x], argTypes := #[22, 22] }) (v : Value) (xs ys : List Int) (A : Option Addr) (n c : Nat) (hs : a.eval s = v) (hx : a.eval x = .slice A n c)
    (HO : (Kd.int .i64).R 3 W hi (fun _ => True) v xs) (HR : (Kd.int .i64).C W A n ys) (hb : hi ≤ W.heap.size) (hl : (xs.length + n) * 8 ≤ 140737488355328)
    (h : ∀ v1 w1, (Kd.int .i64).R 3 w1 hi (fun _ => True) v1 (xs ++ ys) → Below hi W w1 → wpList Try.prog ops Q rest (a.put o.dst v1) w1) : wpList Try.prog ops Q (o :: rest) a W :=
  Kd.R_append_rows (Kd.int .i64) (w0 := W) hi hgd s x _ 3 (.int .i64 0) 8 ho Try.underlying22 info3 rfl (by decide) (by omega) v xs ys A n c (fun _ => True) (fun _ => False) hs hx HO HR (fun _ _ h => h) (fun _ hk => hk.elim) (fun _ _ => trivial) (Below.refl _ _) hb hl
    fun v1 w1 h1 h2 _ _ => h v1 w1 h1 h2
end Go.Proofs.Ytpnokpoikhpiiaa
