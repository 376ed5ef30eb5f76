/- Words on lists of bytes: how they lie in memory, append, make. -/
import Derived.Test.YtcdhjkkdenhmcaaProg
import Derived.Test.YtcdhjkkdenhmcaaWMore
import Derived.Test.YtcdhjkkdenhmcaaWKept
import Derived.Test.YtcdhjkkdenhmcaaWLast
import Derived.BigQuiet
import Derived.Deep.QuietTactic
import Derived.Deep.LoopGhost
import Derived.Deep.DeepCutAuto
import Derived.WalkSpells
import Derived.Lib.Hide
import Derived.Laws.BitsAllLaws
namespace Go.Proofs.Ytcdhjkkdenhmcaa
open Go.RowKit Go.Proofs.YtcdhjkkdenhmcaaW.PrintWords Go.Proofs.YtcdhjkkdenhmcaaW.PrintLast Go.Proofs.YtcdhjkkdenhmcaaW.PrintMore
set_option linter.unusedVariables false
set_option linter.unusedSimpArgs false

def encB (b : UInt8) : Value := .int .u8 (b.toNat : Int)
def kB : Kd UInt8 := Kd.scalar encB (fun _ => rfl)
def gb (xs : List UInt8) (k : Nat) : UInt8 := xs.getD k 0
theorem gb_get (xs : List UInt8) (k : Nat) (h : k < xs.length) : gb xs k = xs[k] := by
  simp [gb, List.getD_eq_getElem?_getD, List.getElem?_eq_getElem h]
theorem take_gb (xs : List UInt8) (k : Nat) (h : k < xs.length) : xs.take (k + 1) = xs.take k ++ [gb xs k] := by
  rw [List.take_succ_eq_append_getElem h, gb_get xs k h]
theorem byte_lt (b : UInt8) : (b.toNat : Int) ≤ 255 := by have := b.toNat_lt; omega
theorem byte_nn (b : UInt8) : (0 : Int) ≤ (b.toNat : Int) := by omega

theorem encB_ofNat {y : Nat} (h : y < 256) : Value.int .u8 (y : Int) = encB (UInt8.ofNat y) := by
  unfold encB
  rw [UInt8.toNat_ofNat']
  congr 2
  omega
theorem info5 : (Try.prog.info? 5).map (fun i => (i.zero, i.size, i.bytes)) = some (some (.int .u8 0), 1, 1) := by kernel_rfl

theorem B_cell {w : World} {A : Option Addr} {xs : List UInt8} (h : kB.C w A xs.length xs) {k : Nat} (hk : k < xs.length) : ∃ ad, A = some ad ∧ w.cell? (ad.add k) = some (.int .u8 ((gb xs k).toNat : Int)) := by
  obtain ⟨ad, e, hc⟩ := ReadsOf.at_ (Kd.reads_of_C (enc := encB) (d := 0) h) (k : Int) (by omega) (by omega)
  refine ⟨ad, e, ?_⟩
  have := hc
  simp only [Int.toNat_natCast] at this
  exact this
theorem B_row {w : World} {a : Option Addr} {len cap : Nat} {zs : List Int} (h : (a = none ∧ len = 0 ∧ cap = 0 ∧ zs = []) ∨ ∃ x, a = some x ∧ len ≤ cap ∧ cap ≤ maxLen ∧ zs.length = cap ∧ (∀ i, i < zs.length → w.cell? (x.add i) = some (.int .u8 (zs.getD i 0))) ∧ ∀ n ∈ zs, (Lit.int .u8 n).wf = true) :
    ∃ l : List UInt8, len = l.length ∧ kB.C w a l.length l ∧ l.length ≤ cap ∧ l.length ≤ maxLen := by
  obtain ⟨l, e, h1, h2, h3, h4⟩ := ReadsInt.ofRowC h
  refine ⟨l.map fun z => UInt8.ofNat z.toNat, by simpa using e, ?_, by simpa using h4, by simpa using h2⟩
  refine Kd.C_of_reads (enc := encB) (d := 0) ⟨rfl, ?_, fun hn => ?_⟩
  · have := h1.2.1
    simpa using this
  · obtain ⟨ad, e, hc⟩ := h1.2.2 (by simpa using hn)
    refine ⟨ad, e, fun j hj => ?_⟩
    have hj' : j < l.length := by simpa using hj
    rw [hc j hj']
    have hw := h3 (l[j]) (List.getElem_mem hj')
    have hb : 0 ≤ l[j] ∧ l[j] ≤ 255 := by simpa [Lit.wf, IntKind.min, IntKind.max, IntKind.signed, IntKind.bits] using hw
    simp only [encB, List.getD_eq_getElem?_getD, List.getElem?_map, List.getElem?_eq_getElem hj', Option.map_some, Option.getD_some]
    congr 2
    rw [UInt8.toNat_ofNat']
    omega

theorem B_empty (W : World) (base : Nat) (hb : base ≤ W.heap.size) : kB.R 5 (W.alloc (.cells #[] 5)) base (fun _ => True) (.slice (some ⟨W.heap.size, 0, none⟩) 0 0) [] :=
  Kd.R_of_own (enc := encB) (by simpa [encs] using own_lit_of (enc := encB) W base 5 [] hb (by simp)) (fun _ _ => trivial)
theorem B_lit (W : World) (xs : List UInt8) {g n : Nat} {cs : Array Value} (base : Nat) (hm : xs.length ≤ 9223372036854775807) (hg : W.heap.size = g) (hb : base ≤ g) (hcs : cs = (encs encB xs).toArray) (hn : xs.length = n) :
    kB.R 5 (W.alloc (.cells cs 5)) base (fun _ => True) (.slice (some ⟨g, 0, none⟩) n n) xs := by
  subst hg hcs hn
  exact Kd.R_of_own (enc := encB) (own_lit_of (enc := encB) W base 5 xs hb hm) (fun _ _ => trivial)
theorem B_litC (W : World) (xs : List UInt8) {g n : Nat} {cs : Array Value} (hm : xs.length ≤ 9223372036854775807) (hg : W.heap.size = g) (hcs : cs = (encs encB xs).toArray) (hn : xs.length = n) : kB.C (W.alloc (.cells cs 5)) (some ⟨g, 0, none⟩) n xs := by
  have h := B_lit W xs 0 hm hg (Nat.zero_le _) hcs hn
  subst hn
  exact (Kd.R_reads' h).2.2

section
variable {W : World} {ops : Array Oper} {rest : List Oper} {o : Oper} {a : Act} {Q : Exit → Act → World → Prop}
/-- append(s, x...) at lists of bytes, s a row of the call's own. -/
theorem app_bytes (hi : Nat) (hgd : o.guard = none) (s x : Operand)
    (ho : o.op = .call { callee := .builtin .append, args := #[s, x], argTypes := #[29, 29] }) (v : Value) (xs ys : List UInt8) (A : Option Addr) (n c : Nat) (hs : a.eval s = v) (hx : a.eval x = .slice A n c)
    (HO : kB.R 5 W hi (fun _ => True) v xs) (HR : kB.C W A n ys) (hb : hi ≤ W.heap.size) (hl : xs.length + n ≤ 140737488355328)
    (h : ∀ v1 w1, kB.R 5 w1 hi (fun _ => True) v1 (xs ++ ys) → Below hi W w1 → wpList Try.prog ops Q rest (a.put o.dst v1) w1) : wpList Try.prog ops Q (o :: rest) a W :=
  Kd.R_append_rows kB (w0 := W) hi hgd s x _ 5 (.int .u8 0) 1 ho Try.underlying29 info5 rfl (by decide) (by omega) v xs ys A n c (fun _ => True) (fun _ => False) hs hx HO HR (fun _ _ h => h) (fun _ hk => hk.elim) (fun _ _ => trivial) (Below.refl _ _) hb (by omega)
    fun v1 w1 h1 h2 _ _ => h v1 w1 h1 h2
/-- append(s, b), one byte. -/
theorem app_byte (hi : Nat) (hgd : o.guard = none) (s x : Operand)
    (ho : o.op = .call { callee := .builtin .append, args := #[s, x], argTypes := #[29, 29] }) (v : Value) (xs : List UInt8) (b : UInt8) (u : Value) (hu : u = encB b) (hs : a.eval s = v) (hx : a.eval x = .slice (some ⟨W.heap.size, 0, none⟩) 1 1)
    (HO : kB.R 5 W hi (fun _ => True) v xs) (hb : hi ≤ W.heap.size) (hl : xs.length + 1 ≤ 140737488355328)
    (h : ∀ v1 w1, kB.R 5 w1 hi (fun _ => True) v1 (xs ++ [b]) → Below hi W w1 → wpList Try.prog ops Q rest (a.put o.dst v1) w1) : wpList Try.prog ops Q (o :: rest) a (W.alloc (.cells #[u] 5)) := by
  subst hu
  exact Kd.R_append kB (w0 := W) hi hgd s x _ 5 (.int .u8 0) 1 ho Try.underlying29 info5 rfl (by decide) (by omega) v xs b [encB b] (fun _ => True) (fun _ => False) hs hx rfl (fun _ hk => hk.elim) (fun _ _ => trivial) HO (Below.refl _ _) hb (by omega)
    fun v1 w1 h1 h2 _ _ => h v1 w1 h1 h2
/-- make([]byte, 0, n). -/
theorem make_bytes (hgd : o.guard = none) (x : Operand) (ho : o.op = .makeSlice 29 (.const (.int .i64 0)) x) (n : Nat) (m : Int) (hm : m = (n : Int)) (hx : a.eval x = .int .i64 m) (hn : n ≤ 140737488355328)
    (h : ∀ w1, kB.R 5 w1 W.heap.size (fun _ => True) (.slice (some ⟨W.heap.size, 0, none⟩) 0 n) [] → Below W.heap.size W w1 → wpList Try.prog ops Q rest (a.put o.dst (.slice (some ⟨W.heap.size, 0, none⟩) 0 n)) w1) : wpList Try.prog ops Q (o :: rest) a W := by
  subst hm
  obtain ⟨i0, hi, hz0, hz1, hz2⟩ := info_parts info5
  obtain ⟨w', hr, h1, h2⟩ := run_make_own (P := Try.prog) W W.heap.size 29 5 i0 (.int .u8 0) 1 Try.underlying29 hi hz0 hz1 .i64 .i64 n (by rw [hz2]; omega) (by unfold maxLen; omega) (Nat.le_refl _)
  refine wpList_plain hgd fun K' hK' => ?_
  unfold Oper.wp
  have hc : a.eval (.const (.int .i64 0)) = .int .i64 0 := rfl
  simp [execOp, ho, hx, hc, hr, Result.andThen]
  exact hK' _ _ (h w' (Kd.R_of_own (enc := encB) h1 (fun _ _ => trivial)) ⟨h2.os, h2.tape, h2.output, h2.size, fun i hi => h2.block i hi (by simp)⟩)
end
/-- b[f:], without a case on the capacity. -/
theorem B_cut {w : World} {A : Option Addr} {c f : Nat} {b : List UInt8} (h : kB.C w A b.length b) (hf : f ≤ b.length) (hc : b.length ≤ c) :
    ∃ A', (∀ W : World, (Instr.slice 29 (.slice A b.length c) (some (.int .i64 (f : Int))) none none).run Try.prog W = .ok (.slice A' (b.drop f).length (c - f)) W) ∧ kB.C w A' (b.drop f).length (b.drop f) ∧ (b.drop f).length ≤ c - f := by
  obtain ⟨i0, hi, hz0, hz1, hz2⟩ := info_parts info5
  obtain ⟨A', h1, h2⟩ := print_cut_of (P := Try.prog) encB 0 29 5 .i64 Try.underlying29 hi hz1 A b.length c f hf
  have e : (b.drop f).length = b.length - f := List.length_drop
  refine ⟨A', fun W => by rw [h1 W, e], ?_, by omega⟩
  have := Kd.C_of_reads (enc := encB) (h1 := fun _ => rfl) (h2 w b hc (Kd.reads_of_C (enc := encB) h))
  rw [e]
  exact this
end Go.Proofs.Ytcdhjkkdenhmcaa
