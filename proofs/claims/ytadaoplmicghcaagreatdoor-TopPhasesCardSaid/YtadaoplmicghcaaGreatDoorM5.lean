/- Words on lists of bytes; numbers and bytes that are put and taken; how an end of a session lies in memory. -/
import Derived.Test.YtadaoplmicghcaaGreatDoorProg
import Derived.Test.YtadaoplmicghcaaGreatDoorWMore
import Derived.Test.YtadaoplmicghcaaGreatDoorWKept
import Derived.Test.YtadaoplmicghcaaGreatDoorWLast
import Derived.BigQuiet
import Derived.Deep.QuietTactic
import Derived.Deep.LoopGhost
import Derived.Deep.DeepCutAuto
import Derived.WalkSpells
import Derived.Lib.Hide
import Derived.Laws.BitsAllLaws
import Derived.Lib.SliceRun
import Derived.ArgAppend
import Derived.Deep.RegionHeld3
namespace Go.Proofs.YtadaoplmicghcaaGreatDoor.Lk
open Go.RowKit Go.Proofs.YtadaoplmicghcaaGreatDoorW.PrintWords Go.Proofs.YtadaoplmicghcaaGreatDoorW.PrintLast Go.Proofs.YtadaoplmicghcaaGreatDoorW.PrintMore
set_option linter.unusedVariables false
set_option linter.unusedSimpArgs false

def encB (b : UInt8) : Value := .int .u8 (b.toNat : Int)
def kB : Kd UInt8 := Kd.scalar encB (fun _ => rfl)
def gb (xs : List UInt8) (k : Nat) : UInt8 := xs.getD k 0
theorem gb_get (xs : List UInt8) (k : Nat) (h : k < xs.length) : gb xs k = xs[k] := by
  simp [gb, List.getD_eq_getElem?_getD, List.getElem?_eq_getElem h]
theorem take_gb (xs : List UInt8) (k : Nat) (h : k < xs.length) : xs.take (k + 1) = xs.take k ++ [gb xs k] := by
  rw [List.take_succ_eq_append_getElem h, gb_get xs k h]
theorem byte_lt (b : UInt8) : (b.toNat : Int) ≤ 255 := by have := b.toNat_lt; omega
theorem byte_nn (b : UInt8) : (0 : Int) ≤ (b.toNat : Int) := by omega

theorem encB_ofNat {y : Nat} (h : y < 256) : Value.int .u8 (y : Int) = encB (UInt8.ofNat y) := by
  unfold encB
  rw [UInt8.toNat_ofNat']
  congr 2
  omega
theorem info5 : (Tryz.prog.info? 5).map (fun i => (i.zero, i.size, i.bytes)) = some (some (.int .u8 0), 1, 1) := by kernel_rfl

theorem B_cell {w : World} {A : Option Addr} {xs : List UInt8} (h : kB.C w A xs.length xs) {k : Nat} (hk : k < xs.length) : ∃ ad, A = some ad ∧ w.cell? (ad.add k) = some (.int .u8 ((gb xs k).toNat : Int)) := by
  obtain ⟨ad, e, hc⟩ := ReadsOf.at_ (Kd.reads_of_C (enc := encB) (d := 0) h) (k : Int) (by omega) (by omega)
  refine ⟨ad, e, ?_⟩
  have := hc
  simp only [Int.toNat_natCast] at this
  exact this
theorem B_row {w : World} {a : Option Addr} {len cap : Nat} {zs : List Int} (h : (a = none ∧ len = 0 ∧ cap = 0 ∧ zs = []) ∨ ∃ x, a = some x ∧ len ≤ cap ∧ cap ≤ maxLen ∧ zs.length = cap ∧ (∀ i, i < zs.length → w.cell? (x.add i) = some (.int .u8 (zs.getD i 0))) ∧ ∀ n ∈ zs, (Lit.int .u8 n).wf = true) :
    ∃ l : List UInt8, len = l.length ∧ kB.C w a l.length l ∧ l.length ≤ cap ∧ l.length ≤ maxLen := by
  obtain ⟨l, e, h1, h2, h3, h4⟩ := ReadsInt.ofRowC h
  refine ⟨l.map fun z => UInt8.ofNat z.toNat, by simpa using e, ?_, by simpa using h4, by simpa using h2⟩
  refine Kd.C_of_reads (enc := encB) (d := 0) ⟨rfl, ?_, fun hn => ?_⟩
  · have := h1.2.1
    simpa using this
  · obtain ⟨ad, e, hc⟩ := h1.2.2 (by simpa using hn)
    refine ⟨ad, e, fun j hj => ?_⟩
    have hj' : j < l.length := by simpa using hj
    rw [hc j hj']
    have hw := h3 (l[j]) (List.getElem_mem hj')
    have hb : 0 ≤ l[j] ∧ l[j] ≤ 255 := by simpa [Lit.wf, IntKind.min, IntKind.max, IntKind.signed, IntKind.bits] using hw
    simp only [encB, List.getD_eq_getElem?_getD, List.getElem?_map, List.getElem?_eq_getElem hj', Option.map_some, Option.getD_some]
    congr 2
    rw [UInt8.toNat_ofNat']
    omega

theorem B_empty (W : World) (base : Nat) (hb : base ≤ W.heap.size) : kB.R 5 (W.alloc (.cells #[] 5)) base (fun _ => True) (.slice (some ⟨W.heap.size, 0, none⟩) 0 0) [] :=
  Kd.R_of_own (enc := encB) (by simpa [encs] using own_lit_of (enc := encB) W base 5 [] hb (by simp)) (fun _ _ => trivial)
theorem B_lit (W : World) (xs : List UInt8) {g n : Nat} {cs : Array Value} (base : Nat) (hm : xs.length ≤ 9223372036854775807) (hg : W.heap.size = g) (hb : base ≤ g) (hcs : cs = (encs encB xs).toArray) (hn : xs.length = n) :
    kB.R 5 (W.alloc (.cells cs 5)) base (fun _ => True) (.slice (some ⟨g, 0, none⟩) n n) xs := by
  subst hg hcs hn
  exact Kd.R_of_own (enc := encB) (own_lit_of (enc := encB) W base 5 xs hb hm) (fun _ _ => trivial)
theorem B_litC (W : World) (xs : List UInt8) {g n : Nat} {cs : Array Value} (hm : xs.length ≤ 9223372036854775807) (hg : W.heap.size = g) (hcs : cs = (encs encB xs).toArray) (hn : xs.length = n) : kB.C (W.alloc (.cells cs 5)) (some ⟨g, 0, none⟩) n xs := by
  have h := B_lit W xs 0 hm hg (Nat.zero_le _) hcs hn
  subst hn
  exact (Kd.R_reads' h).2.2

section
variable {W : World} {ops : Array Oper} {rest : List Oper} {o : Oper} {a : Act} {Q : Exit → Act → World → Prop}
/-- append(s, x...) at lists of bytes, s a row of the call's own. -/
theorem app_bytes (hi : Nat) (hgd : o.guard = none) (s x : Operand)
    (ho : o.op = .call { callee := .builtin .append, args := #[s, x], argTypes := #[68, 68] }) (v : Value) (xs ys : List UInt8) (A : Option Addr) (n c : Nat) (hs : a.eval s = v) (hx : a.eval x = .slice A n c)
    (HO : kB.R 5 W hi (fun _ => True) v xs) (HR : kB.C W A n ys) (hb : hi ≤ W.heap.size) (hl : xs.length + n ≤ 140737488355328)
    (h : ∀ v1 w1, kB.R 5 w1 hi (fun _ => True) v1 (xs ++ ys) → Below hi W w1 → wpList Tryz.prog ops Q rest (a.put o.dst v1) w1) : wpList Tryz.prog ops Q (o :: rest) a W :=
  Kd.R_append_rows kB (w0 := W) hi hgd s x _ 5 (.int .u8 0) 1 ho Tryz.underlying68 info5 rfl (by decide) (by omega) v xs ys A n c (fun _ => True) (fun _ => False) hs hx HO HR (fun _ _ h => h) (fun _ hk => hk.elim) (fun _ _ => trivial) (Below.refl _ _) hb (by omega)
    fun v1 w1 h1 h2 _ _ => h v1 w1 h1 h2
/-- append(s, b), one byte. -/
theorem app_byte (hi : Nat) (hgd : o.guard = none) (s x : Operand)
    (ho : o.op = .call { callee := .builtin .append, args := #[s, x], argTypes := #[68, 68] }) (v : Value) (xs : List UInt8) (b : UInt8) (u : Value) (hu : u = encB b) (hs : a.eval s = v) (hx : a.eval x = .slice (some ⟨W.heap.size, 0, none⟩) 1 1)
    (HO : kB.R 5 W hi (fun _ => True) v xs) (hb : hi ≤ W.heap.size) (hl : xs.length + 1 ≤ 140737488355328)
    (h : ∀ v1 w1, kB.R 5 w1 hi (fun _ => True) v1 (xs ++ [b]) → Below hi W w1 → wpList Tryz.prog ops Q rest (a.put o.dst v1) w1) : wpList Tryz.prog ops Q (o :: rest) a (W.alloc (.cells #[u] 5)) := by
  subst hu
  exact Kd.R_append kB (w0 := W) hi hgd s x _ 5 (.int .u8 0) 1 ho Tryz.underlying68 info5 rfl (by decide) (by omega) v xs b [encB b] (fun _ => True) (fun _ => False) hs hx rfl (fun _ hk => hk.elim) (fun _ _ => trivial) HO (Below.refl _ _) hb (by omega)
    fun v1 w1 h1 h2 _ _ => h v1 w1 h1 h2
/-- make([]byte, 0, n). -/
theorem make_bytes (hgd : o.guard = none) (x : Operand) (ho : o.op = .makeSlice 68 (.const (.int .i64 0)) x) (n : Nat) (m : Int) (hm : m = (n : Int)) (hx : a.eval x = .int .i64 m) (hn : n ≤ 140737488355328)
    (h : ∀ w1, kB.R 5 w1 W.heap.size (fun _ => True) (.slice (some ⟨W.heap.size, 0, none⟩) 0 n) [] → Below W.heap.size W w1 → wpList Tryz.prog ops Q rest (a.put o.dst (.slice (some ⟨W.heap.size, 0, none⟩) 0 n)) w1) : wpList Tryz.prog ops Q (o :: rest) a W := by
  subst hm
  obtain ⟨i0, hi, hz0, hz1, hz2⟩ := info_parts info5
  obtain ⟨w', hr, h1, h2⟩ := run_make_own (P := Tryz.prog) W W.heap.size 68 5 i0 (.int .u8 0) 1 Tryz.underlying68 hi hz0 hz1 .i64 .i64 n (by rw [hz2]; omega) (by unfold maxLen; omega) (Nat.le_refl _)
  refine wpList_plain hgd fun K' hK' => ?_
  unfold Oper.wp
  have hc : a.eval (.const (.int .i64 0)) = .int .i64 0 := rfl
  simp [execOp, ho, hx, hc, hr, Result.andThen]
  exact hK' _ _ (h w' (Kd.R_of_own (enc := encB) h1 (fun _ _ => trivial)) ⟨h2.os, h2.tape, h2.output, h2.size, fun i hi => h2.block i hi (by simp)⟩)
end
/-- b[f:], without a case on the capacity. -/
theorem B_cut {w : World} {A : Option Addr} {c f : Nat} {b : List UInt8} (h : kB.C w A b.length b) (hf : f ≤ b.length) (hc : b.length ≤ c) :
    ∃ A', (∀ W : World, (Instr.slice 68 (.slice A b.length c) (some (.int .i64 (f : Int))) none none).run Tryz.prog W = .ok (.slice A' (b.drop f).length (c - f)) W) ∧ kB.C w A' (b.drop f).length (b.drop f) ∧ (b.drop f).length ≤ c - f := by
  obtain ⟨i0, hi, hz0, hz1, hz2⟩ := info_parts info5
  obtain ⟨A', h1, h2⟩ := print_cut_of (P := Tryz.prog) encB 0 68 5 .i64 Tryz.underlying68 hi hz1 A b.length c f hf
  have e : (b.drop f).length = b.length - f := List.length_drop
  refine ⟨A', fun W => by rw [h1 W, e], ?_, by omega⟩
  have := Kd.C_of_reads (enc := encB) (h1 := fun _ => rfl) (h2 w b hc (Kd.reads_of_C (enc := encB) h))
  rw [e]
  exact this
end Go.Proofs.YtadaoplmicghcaaGreatDoor.Lk
namespace Go.Proofs.YtadaoplmicghcaaGreatDoor.Lk
open Go.RowKit Go.Proofs.YtadaoplmicghcaaGreatDoorW.PrintWords Go.Proofs.YtadaoplmicghcaaGreatDoorW.PrintLast Go.Proofs.YtadaoplmicghcaaGreatDoorW.PrintMore
set_option linter.unusedVariables false
set_option linter.unusedSimpArgs false

/-- New bytes. -/
def NewBytes (w : World) (l : List UInt8) (e : Ending) (w' : World) : Prop := ∃ v, e = .returned v ∧ kB.R 5 w' w.heap.size (fun _ => True) v l ∧ Below w.heap.size w w'
theorem NewBytes.open_ {w w' : World} {l : List UInt8} {e : Ending} (h : NewBytes w l e w') : ∃ A c, e = .returned (.slice A l.length c) ∧ l.length ≤ c ∧ kB.R 5 w' w.heap.size (fun _ => True) (.slice A l.length c) l ∧ kB.C w' A l.length l ∧ Below w.heap.size w w' := by
  obtain ⟨v, rfl, hr, hb⟩ := h
  obtain ⟨A, c, rfl, hc, hC⟩ := Kd.R_reads hr
  exact ⟨A, c, rfl, hc, hr, hC, hb⟩
set_option maxRecDepth 100000 in
theorem put_calls (w : World) (A : Option Addr) (c : Nat) (xs : List UInt8) (B : Option Addr) (d : Nat) (ys : List UInt8) (hx : kB.C w A xs.length xs) (hy : kB.C w B ys.length ys) (hl : xs.length + ys.length ≤ 140737488355328) :
    Calls Tryz.prog 75 #[.slice A xs.length c, .slice B ys.length d] w (NewBytes w (xs ++ ys)) := by
  have HX := Lib.hid hx
  have HY := Lib.hid hy
  have HL := Lib.hid hl
  have h1 : (xs.length : Int) + (ys.length : Int) ≤ 140737488355328 := by omega
  clear hx hy hl
  go_enter Tryz.func75, Tryz.ntmps75
  go_wp2_with (first
    | (at_make; refine make_bytes rfl _ rfl (xs.length + ys.length) _ (by simp) rfl HL.out ?_; intro w1 hr hb; have HR1 := Aside0.mk hr; have HB1 := Aside0.mk hb; have HS1 := Aside0.mk hb.size; clear hr hb)
    | (at_builtin; refine app_bytes w.heap.size rfl _ _ rfl _ xs ys B ys.length d rfl rfl HR2.out (Kd.C_below HY.out (HB1.out.trans HB2.out)) (Nat.le_trans HS1.out HB2.out.size) HL.out ?_; intro v3 w3 hr hb; have HR3 := Aside0.mk hr; have HB3 := Aside0.mk hb; clear hr hb)
    | (at_builtin; refine app_bytes w.heap.size rfl _ _ rfl _ [] xs A xs.length c rfl rfl HR1.out (Kd.C_below HX.out HB1.out) HS1.out (by have := HL.out; simp; omega) ?_; intro v2 w2 hr hb; have HR2 := Aside0.mk hr; have HB2 := Aside0.mk hb; clear hr hb))
  go_ret
  exact ⟨_, rfl, by simpa using HR3.out, (HB1.out.trans HB2.out).trans HB3.out⟩

/-- The bytes of a number: groups of seven bits, the lowest first. -/
def uintsF (x : Nat) : List UInt8 := if x < 128 then [UInt8.ofNat x] else UInt8.ofNat (x % 128 + 128) :: uintsF (x / 128)
termination_by x
decreasing_by omega
theorem uintsF_small {x : Nat} (h : x < 128) : uintsF x = [UInt8.ofNat x] := by rw [uintsF, if_pos h]
theorem uintsF_big {x : Nat} (h : ¬ x < 128) : uintsF x = UInt8.ofNat (x % 128 + 128) :: uintsF (x / 128) := by rw [uintsF, if_neg h]

theorem or128 (y : Nat) : Value.int .u8 (bits .or .u8 ((y : Int) % 256) 128) = encB (UInt8.ofNat (y % 128 + 128)) := by
  have e : ((y : Int) % 256) = ((y % 256 : Nat) : Int) := by omega
  rw [e, show (128 : Int) = ((128 : Nat) : Int) from rfl, u8_or_nat _ _ (by omega) (by omega)]
  rw [encB_ofNat (show (y % 256 ||| 128) < 256 from Nat.or_lt_two_pow (n := 8) (by omega) (by omega))]
  congr 2
  have h1 : y % 128 < 2 ^ 7 := by omega
  have h2 : y % 256 = y % 128 ∨ y % 256 = 128 + y % 128 := by omega
  have h3 : 128 ||| y % 128 = 128 + y % 128 := by
    have := Nat.two_pow_add_eq_or_of_lt h1 1
    simpa using this.symm
  rcases h2 with h2 | h2
  · rw [h2, Nat.or_comm, h3, Nat.add_comm]
  · rw [h2, ← h3, Nat.or_assoc, Nat.or_comm (y % 128), ← Nat.or_assoc, Nat.or_self, h3, Nat.add_comm]
set_option maxRecDepth 100000 in
theorem uints_calls (w : World) (x : Nat) (hx : x < 18446744073709551616) :
    Calls Tryz.prog 76 #[.int .u64 (x : Int)] w (NewBytes w (uintsF x)) := by
  have HX := Lib.hid hx
  clear hx
  go_enter Tryz.func76, Tryz.ntmps76
  go_wp2
  go_loopw [0, 3] (fun v0 v3 wr => ∃ (y : Nat) (l : List UInt8), v0 = .int .u64 y ∧ Hid (y < 18446744073709551616 ∧ l ++ uintsF y = uintsF x ∧ l.length ≤ 10 ∧ y < 2 ^ (7 * (10 - l.length))) ∧ Aside0 (kB.R 5 wr w.heap.size (fun _ => True) v3 l) ∧ Aside0 (Below w.heap.size w wr)) (fun v _ _ => (intOf v).toNat)
  case atStart => exact ⟨x, [], rfl, ⟨HX.out, rfl, by simp, by have := HX.out; simp; omega⟩, ⟨Kd.R_nil _ _ _ _ _⟩, ⟨Below.refl _ _⟩⟩
  case round =>
    obtain ⟨y, l, rfl, hy, HR, HB⟩ := hrel
    by_cases hs : y < 128
    · have y1 : ¬ (128 : Int) ≤ y := by omega
      have HS := Lib.hid hs
      clear hs
      go_wp2_with (at_builtin; refine app_byte w.heap.size rfl _ _ rfl u3 l (UInt8.ofNat y) _ ?hu rfl rfl HR.out (HB.out.size) (by have := hy.out.2.2.1; omega) ?_; (case hu => exact encB_ofNat (by have := HS.out; omega)); intro v3 w3 hr hb; have HR3 := Aside0.mk hr; have HB3 := Aside0.mk hb; clear hr hb)
      go_ret
      refine ⟨_, rfl, ?_, HB.out.trans HB3.out⟩
      have := HR3.out
      rw [← hy.out.2.1, uintsF_small HS.out]
      exact this
    · have y1 : (128 : Int) ≤ y := by omega
      have HS := Lib.hid hs
      clear hs
      go_wp2_with (at_builtin; refine app_byte w.heap.size rfl _ _ rfl u3 l (UInt8.ofNat (y % 128 + 128)) _ ?hu rfl rfl HR.out (HB.out.size) (by have := hy.out.2.2.1; omega) ?_; (case hu => exact or128 y); intro v3 w3 hr hb; have HR3 := Aside0.mk hr; have HB3 := Aside0.mk hb; clear hr hb)
      go_roundw
      case rel =>
        obtain ⟨h1, h2, h3, h4⟩ := hy.out
        have hs := HS.out
        have hl : l.length < 10 := by
          rcases Nat.lt_or_ge l.length 10 with h | h
          · exact h
          · exfalso
            have : 7 * (10 - l.length) = 0 := by omega
            rw [this] at h4
            omega
        refine ⟨y / 128, l ++ [UInt8.ofNat (y % 128 + 128)], ?_, ⟨by omega, ?_, by simp; omega, ?_⟩, HR3, ⟨HB.out.trans HB3.out⟩⟩
        · first | rfl | (congr 1; omega)
        · rw [← h2, uintsF_big hs]; simp
        · have e : 7 * (10 - l.length) = 7 * (10 - (l ++ [UInt8.ofNat (y % 128 + 128)]).length) + 7 := by simp; omega
          rw [e, Nat.pow_add] at h4
          exact Nat.div_lt_of_lt_mul (by rw [Nat.mul_comm]; exact h4)
      case measure => have := HS.out; simp [intOf]; omega

theorem uintsF_len (x : Nat) (h : x < 18446744073709551616) : 1 ≤ (uintsF x).length ∧ (uintsF x).length ≤ 10 := by
  have key : ∀ k x, x < 2 ^ (7 * (k + 1)) → 1 ≤ (uintsF x).length ∧ (uintsF x).length ≤ k + 1 := by
    intro k
    induction k with
    | zero => intro x hx; rw [uintsF_small (by simpa using hx)]; simp
    | succ k ih =>
      intro x hx
      by_cases hs : x < 128
      · rw [uintsF_small hs]; simp
      · rw [uintsF_big hs]
        have e : 7 * (k + 1 + 1) = 7 * (k + 1) + 7 := by omega
        rw [e, Nat.pow_add] at hx
        have := ih (x / 128) (Nat.div_lt_of_lt_mul (by rw [Nat.mul_comm]; exact hx))
        simp; omega
  exact key 9 x (by omega)

set_option maxRecDepth 100000 in
theorem putUint_calls (w : World) (A : Option Addr) (c : Nat) (xs : List UInt8) (x : Nat) (hx : kB.C w A xs.length xs) (hn : x < 18446744073709551616) (hl : xs.length ≤ 1099511627776) :
    Calls Tryz.prog 53 #[.slice A xs.length c, .int .u64 (x : Int)] w (NewBytes w (xs ++ uintsF x)) := by
  have HX := Lib.hid hx
  have HN := Lib.hid hn
  have HL := Lib.hid hl
  have hU := Lib.hid (uintsF_len x hn)
  clear hx hn hl
  go_enter Tryz.func53, Tryz.ntmps53
  go_wp2_with (first
    | (go_at_call 76; refine (uints_calls _ x HN.out).mono ?_; intro e w1 h1; obtain ⟨A1, c1, rfl, _, _, hC, hb⟩ := h1.open_; have HC1 := Aside0.mk hC; have HB1 := Aside0.mk hb; clear h1 hC hb)
    | (go_at_call 75; refine (put_calls _ _ _ xs _ _ (uintsF x) (Kd.C_below HX.out HB1.out) HC1.out (by have := HL.out; have := hU.out; omega)).mono ?_; intro e w2 h2; obtain ⟨v2, rfl, hr, hb⟩ := h2; have HR2 := Aside0.mk hr; have HB2 := Aside0.mk hb; clear hr hb))
  go_ret
  exact ⟨_, rfl, Kd.R_lower HR2.out HB1.out.size, below_then HB1.out HB1.out.size HB2.out⟩

set_option maxRecDepth 100000 in
theorem putBytes_calls (w : World) (A : Option Addr) (c : Nat) (xs : List UInt8) (B : Option Addr) (d : Nat) (ys : List UInt8) (hx : kB.C w A xs.length xs) (hy : kB.C w B ys.length ys) (hl : xs.length ≤ 1099511627776) (hl2 : ys.length ≤ 1099511627776) :
    Calls Tryz.prog 54 #[.slice A xs.length c, .slice B ys.length d] w (NewBytes w (xs ++ uintsF ys.length ++ ys)) := by
  have HX := Lib.hid hx
  have HY := Lib.hid hy
  have HL := Lib.hid hl
  have HL2 := Lib.hid hl2
  have hU := Lib.hid (uintsF_len ys.length (by omega))
  have h1 : (ys.length : Int) ≤ 1099511627776 := by omega
  clear hx hy hl hl2
  go_enter Tryz.func54, Tryz.ntmps54
  go_wp2_with (first
    | (go_at_call 76; refine (uints_calls _ ys.length (by have := HL2.out; omega)).mono ?_; intro e w1 h1; obtain ⟨A1, c1, rfl, _, _, hC, hb⟩ := h1.open_; have HC1 := Aside0.mk hC; have HB1 := Aside0.mk hb; clear h1 hC hb)
    | (go_at_call 75; refine (put_calls _ _ _ L _ _ ys HC2.out (Kd.C_below HY.out (below_then HB1.out HB1.out.size HB2.out)) (by have := HL.out; have := HL2.out; have := hU.out; rw [HQ.out]; simp only [List.length_append]; omega)).mono ?_; intro e w3 h3; obtain ⟨v3, rfl, hr, hb⟩ := h3; have HR3 := Aside0.mk hr; have HB3 := Aside0.mk hb; clear hr hb)
    | (go_at_call 75; refine (put_calls _ _ _ xs _ _ (uintsF ys.length) (Kd.C_below HX.out HB1.out) HC1.out (by have := HL.out; have := hU.out; omega)).mono ?_; intro e w2 h2; obtain ⟨L, hL⟩ : ∃ L, L = xs ++ uintsF ys.length := ⟨_, rfl⟩; rw [← hL] at h2; have HQ := Lib.hid hL; obtain ⟨A2, c2, rfl, _, _, hC, hb⟩ := h2.open_; have HC2 := Aside0.mk hC; have HB2 := Aside0.mk hb; clear h2 hC hb hL))
  go_ret
  have hs := Nat.le_trans HB1.out.size HB2.out.size
  rw [← HQ.out]
  exact ⟨_, rfl, Kd.R_lower HR3.out hs, below_then (below_then HB1.out HB1.out.size HB2.out) hs HB3.out⟩

end Go.Proofs.YtadaoplmicghcaaGreatDoor.Lk
namespace Go.Proofs.YtadaoplmicghcaaGreatDoor.Lk
open Go.RowKit Go.Proofs.YtadaoplmicghcaaGreatDoorW.PrintWords Go.Proofs.YtadaoplmicghcaaGreatDoorW.PrintLast Go.Proofs.YtadaoplmicghcaaGreatDoorW.PrintMore
set_option linter.unusedVariables false
set_option linter.unusedSimpArgs false

inductive Er where
  | ok
  | num (c : Int)
  | at_ (kind k c : Int)
/-- A fault in memory. -/
def IsFault (w : World) (base : Nat) (kind k c : Int) (v : Value) : Prop :=
  ∃ g, v = .iface 170 (.pointer (some ⟨g, 0, none⟩)) ∧ base ≤ g ∧ w.heap[g]? = some (.cells #[.int .i64 kind, .int .i64 k, .iface 28 (.int .i64 c)] 172 (0, 0))
def IsEr (w : World) (base : Nat) : Er → Value → Prop
  | .ok, v => v = .nilIface
  | .num c, v => v = .iface 28 (.int .i64 c)
  | .at_ kind k c, v => IsFault w base kind k c v
theorem IsFault.below {w w1 : World} {base : Nat} {kind k c : Int} {v : Value} (h : IsFault w base kind k c v) (hb : Below w.heap.size w w1) : IsFault w1 base kind k c v := by
  obtain ⟨g, rfl, hg, hh⟩ := h
  exact ⟨g, rfl, hg, (hb.block g (blk_lt hh)).trans hh⟩
theorem IsEr.below {w w1 : World} {base : Nat} {er : Er} {v : Value} (h : IsEr w base er v) (hb : Below w.heap.size w w1) : IsEr w1 base er v := by
  cases er with
  | ok => exact h
  | num c => exact h
  | at_ kind k c => exact IsFault.below h hb
theorem IsEr.lower {w : World} {base base' : Nat} {er : Er} {v : Value} (h : IsEr w base er v) (hb : base' ≤ base) : IsEr w base' er v := by
  cases er with
  | ok => exact h
  | num c => exact h
  | at_ kind k c =>
    obtain ⟨g, rfl, hg, hh⟩ := h
    exact ⟨g, rfl, Nat.le_trans hb hg, hh⟩
/-- How an error that is one stands in a slot. -/
theorem IsEr.bad {w : World} {base : Nat} {er : Er} {v : Value} (h : IsEr w base er v) (hn : er ≠ .ok) : ∃ t u, v = .iface t u := by
  cases er with
  | ok => exact absurd rfl hn
  | num c => exact ⟨_, _, h⟩
  | at_ kind k c =>
    obtain ⟨g, rfl, _⟩ := h
    exact ⟨_, _, rfl⟩

set_option maxRecDepth 100000 in
theorem faultAt_calls (w : World) (kind k c : Int) :
    Calls Tryz.prog 71 #[.int .i64 kind, .int .i64 k, .iface 28 (.int .i64 c)] w fun e w' => ∃ v, e = .returned v ∧ IsFault w' w.heap.size kind k c v ∧ Below w.heap.size w w' := by
  go_enter Tryz.func71, Tryz.ntmps71
  go_wp2
  go_ret
  exact ⟨_, rfl, ⟨_, rfl, by simp, by simpa using heap_alloc_new w _⟩, below_alloc (Below.refl _ _) _⟩
set_option maxRecDepth 100000 in
theorem at_calls (w : World) (k c : Int) :
    Calls Tryz.prog 88 #[.int .i64 k, .int .i64 c] w fun e w' => ∃ v, e = .returned v ∧ IsFault w' w.heap.size 1 k c v ∧ Below w.heap.size w w' := by
  go_enter Tryz.func88, Tryz.ntmps88
  go_wp2_with (go_at_call 71; refine (faultAt_calls _ 1 k c).mono ?_; rintro e w1 ⟨v, rfl, hv, hb⟩; have HV := Aside0.mk hv; have HB := Aside0.mk hb; clear hv hb)
  go_ret
  exact ⟨_, rfl, HV.out, HB.out⟩
end Go.Proofs.YtadaoplmicghcaaGreatDoor.Lk
namespace Go.Proofs.YtadaoplmicghcaaGreatDoor.Lk
inductive TU where
  | ok (x n : Nat)
  | form (i : Nat)
  | short
/-- A number out of the bytes that are left: i of its bytes, which are x, were read. -/
def tkU : List UInt8 → Nat → Nat → TU
  | [], _, _ => .short
  | c :: r, i, x => if (i = 9 ∧ 1 < c.toNat) ∨ (0 < i ∧ c.toNat = 0) then .form i else if c.toNat < 128 then .ok (x + c.toNat % 128 * 2 ^ (7 * i)) (i + 1) else tkU r (i + 1) (x + c.toNat % 128 * 2 ^ (7 * i))
theorem tkU_bound : ∀ (l : List UInt8) (i x : Nat), i ≤ 9 → x < 2 ^ (7 * i) → ∀ y n, tkU l i x = .ok y n → y < 18446744073709551616 ∧ i < n ∧ n ≤ i + l.length
  | [], i, x, _, _, y, n, h => by simp [tkU] at h
  | c :: r, i, x, hi, hx, y, n, h => by
    unfold tkU at h
    by_cases h1 : (i = 9 ∧ 1 < c.toNat) ∨ (0 < i ∧ c.toNat = 0)
    · rw [if_pos h1] at h; cases h
    · rw [if_neg h1] at h
      have hc : c.toNat % 128 * 2 ^ (7 * i) + x < 2 ^ (7 * (i + 1)) := by
        have e : 7 * (i + 1) = 7 * i + 7 := by omega
        rw [e, Nat.pow_add]
        have : c.toNat % 128 * 2 ^ (7 * i) ≤ 127 * 2 ^ (7 * i) := Nat.mul_le_mul_right _ (by omega)
        omega
      by_cases h2 : c.toNat < 128
      · rw [if_pos h2] at h
        injection h with h3 h4
        refine ⟨?_, by omega, by simp; omega⟩
        rcases Nat.lt_or_ge i 9 with h9 | h9
        · have : 2 ^ (7 * (i + 1)) ≤ 2 ^ 63 := Nat.pow_le_pow_right (by omega) (by omega)
          omega
        · obtain rfl : i = 9 := by omega
          have : c.toNat ≤ 1 := by omega
          have : c.toNat % 128 * 2 ^ (7 * 9) ≤ 1 * 2 ^ (7 * 9) := Nat.mul_le_mul_right _ (by omega)
          omega
      · rw [if_neg h2] at h
        have hi9 : i < 9 := by
          rcases Nat.lt_or_ge i 9 with h9 | h9
          · exact h9
          · exfalso; apply h1; left; omega
        have := tkU_bound r (i + 1) _ (by omega) (by omega) y n h
        simp; omega
end Go.Proofs.YtadaoplmicghcaaGreatDoor.Lk
namespace Go.Proofs.YtadaoplmicghcaaGreatDoor.Lk
open Go.RowKit Go.Proofs.YtadaoplmicghcaaGreatDoorW.PrintWords Go.Proofs.YtadaoplmicghcaaGreatDoorW.PrintLast Go.Proofs.YtadaoplmicghcaaGreatDoorW.PrintMore
set_option linter.unusedVariables false
set_option linter.unusedSimpArgs false

/-- TakeUint: the number, the place behind it, the error. -/
def takeU (b : List UInt8) (from_ : Int) : Nat × Int × Er :=
  if 0 ≤ from_ ∧ from_ ≤ b.length then
    match tkU (b.drop from_.toNat) 0 0 with
    | .ok x n => (x, from_ + n, .ok)
    | .form i => (0, 0, .at_ 1 (from_ + i) 3)
    | .short => (0, 0, .at_ 1 b.length 6)
  else (0, 0, .num 1)
def TakeUPost (w : World) (b : List UInt8) (from_ : Int) (e : Ending) (w' : World) : Prop :=
  ∃ v, e = .returned (.tuple #[.int .u64 ((takeU b from_).1 : Nat), .int .i64 (takeU b from_).2.1, v]) ∧ IsEr w' w.heap.size (takeU b from_).2.2 v ∧ Below w.heap.size w w'

theorem and127 (t : Nat) (h : t < 256) : bits .and .u8 (t : Int) 127 = ((t % 128 : Nat) : Int) := by
  rw [show (127 : Int) = ((127 : Nat) : Int) from rfl, u8_and_nat _ _ h (by decide)]
  congr 1
  exact Nat.and_two_pow_sub_one_eq_mod t 7

theorem orShift (x n k : Nat) (hx : x < 2 ^ (7 * k)) (hk : k ≤ 9) (hn : n < 256) (h9 : ¬ (k = 9 ∧ 1 < n ∨ 0 < k ∧ n = 0)) :
    bits .or .u64 (x : Int) (IntKind.u64.wrap ((n : Int) % 128 * 2 ^ (7 * k))) = ((x + n % 128 * 2 ^ (7 * k) : Nat) : Int) := by
  have hm : n % 128 * 2 ^ (7 * k) < 18446744073709551616 := by
    rcases Nat.lt_or_ge k 9 with h | h
    · have h1 : n % 128 * 2 ^ (7 * k) ≤ 127 * 2 ^ 56 := Nat.mul_le_mul (by omega) (Nat.pow_le_pow_right (by omega) (by omega))
      omega
    · obtain rfl : k = 9 := by omega
      have h1 : n % 128 * 2 ^ (7 * 9) ≤ 1 * 2 ^ 63 := Nat.mul_le_mul (by omega) (Nat.pow_le_pow_right (by omega) (by omega))
      omega
  have hx2 : x < 18446744073709551616 := by
    have : 2 ^ (7 * k) ≤ 2 ^ 63 := Nat.pow_le_pow_right (by omega) (by omega)
    omega
  have e1 : ((n : Int) % 128 * 2 ^ (7 * k)) = ((n % 128 * 2 ^ (7 * k) : Nat) : Int) := by simp
  have e2 : ((n % 128 * 2 ^ (7 * k) : Nat) : Int) % 18446744073709551616 = ((n % 128 * 2 ^ (7 * k) : Nat) : Int) := Int.emod_eq_of_lt (by omega) (by omega)
  rw [IntKind.wrap_u64, e1, e2, u64_or_nat _ _ hx2 hm]
  congr 1
  have h := Nat.two_pow_add_eq_or_of_lt hx (n % 128)
  rw [Nat.or_comm, Nat.mul_comm, ← h]
  exact Nat.add_comm _ _
theorem u64_eq {a b : Int} (h : a = b) : Value.int .u64 a = Value.int .u64 b := by rw [h]

set_option maxRecDepth 100000 in
set_option maxHeartbeats 2000000 in
theorem takeUint_calls (w : World) (A : Option Addr) (c : Nat) (b : List UInt8) (from_ : Int) (hx : kB.C w A b.length b) (hc : b.length ≤ c) (hl : b.length ≤ 1099511627776) :
    Calls Tryz.prog 68 #[.slice A b.length c, .int .i64 from_] w (TakeUPost w b from_) := by
  have HX := Lib.hid hx
  have HC := Lib.hid hc
  have hl1 : (b.length : Int) ≤ 1099511627776 := by omega
  clear hx
  by_cases h0 : from_ < 0
  · have HE := Lib.hid (show takeU b from_ = (0, 0, .num 1) by unfold takeU; rw [if_neg (by omega)])
    go_enter Tryz.func68, Tryz.ntmps68
    go_wp2
    go_ret3
    unfold TakeUPost
    rw [HE.out]
    exact ⟨_, rfl, rfl, Below.refl _ _⟩
  · by_cases h1 : (b.length : Int) < from_
    · have HE := Lib.hid (show takeU b from_ = (0, 0, .num 1) by unfold takeU; rw [if_neg (by omega)])
      go_enter Tryz.func68, Tryz.ntmps68
      go_wp2
      go_ret3
      unfold TakeUPost
      rw [HE.out]
      exact ⟨_, rfl, rfl, Below.refl _ _⟩
    · obtain ⟨f, rfl⟩ := Int.eq_ofNat_of_zero_le (Int.not_lt.1 h0)
      have hf : f ≤ b.length := by omega
      have HE := Lib.hid (show takeU b (f : Int) = match tkU (b.drop f) 0 0 with | .ok x n => (x, (f : Int) + n, .ok) | .form i => (0, 0, .at_ 1 ((f : Int) + i) 3) | .short => (0, 0, .at_ 1 b.length 6) by
        unfold takeU; rw [if_pos (by omega)]; rfl)
      have HF := Lib.hid hf
      have f0 : (0 : Int) ≤ f := by omega
      have f1 : (f : Int) ≤ b.length := by omega
      have f2 : (f : Int) ≤ c := by omega
      clear h0 h1
      obtain ⟨rest, hrest⟩ : ∃ rest, rest = b.drop f := ⟨_, rfl⟩
      obtain ⟨A', hcut, hD, hc2⟩ := B_cut HX.out hf hc
      rw [← hrest] at hcut hD hc2
      have HD := Aside0.mk hD
      have hrl : (rest.length : Int) ≤ 1099511627776 := by rw [hrest, List.length_drop]; omega
      have HRL := Lib.hid (show rest.length = b.length - f by rw [hrest, List.length_drop])
      rw [← hrest] at HE
      have HQ := Lib.hid hrest
      have d1 : decide ((f : Int) < 0) = false := by simp
      have d2 : decide (b.length < f) = false := by simp; omega
      clear hrest hf hD hc2
      go_enter Tryz.func68, Tryz.ntmps68
      go_wp2
      go_loop [7, 23] (fun v7 v => ∃ (k x : Nat), v = .int .i64 k ∧ k ≤ rest.length ∧ v7 = .int .u64 x ∧ Hid (tkU rest 0 0 = tkU (rest.drop k) k x ∧ k ≤ 9 ∧ x < 2 ^ (7 * k))) (fun _ v => rest.length - (intOf v).toNat)
      case atStart => exact ⟨0, 0, rfl, Nat.zero_le _, rfl, ⟨rfl, by omega, by decide⟩⟩
      case round =>
        obtain ⟨k, x, rfl, hk, rfl, ht⟩ := hrel
        by_cases hlt : k < rest.length
        · obtain ⟨ad, rfl, hcell⟩ := B_cell HD.out hlt
          have k0 : (0 : Int) ≤ k := by omega
          have k1 : (k : Int) < rest.length := by omega
          obtain ⟨d, hd⟩ : ∃ d, d = gb rest k := ⟨_, rfl⟩
          rw [← hd] at hcell
          obtain ⟨n, hn⟩ : ∃ n, n = d.toNat := ⟨_, rfl⟩
          rw [← hn] at hcell
          have hn8 : n < 256 := by rw [hn]; exact d.toNat_lt
          have n1 : (n : Int) ≤ 255 := by omega
          have k9 : (k : Int) ≤ 9 := by have := ht.out.2.1; omega
          have x1 : (x : Int) ≤ 18446744073709551615 := by
            have := ht.out.2
            have : 2 ^ (7 * k) ≤ 2 ^ 63 := Nat.pow_le_pow_right (by omega) (by omega)
            omega
          have HS := Lib.hid (show tkU (rest.drop k) k x = if (k = 9 ∧ 1 < n) ∨ (0 < k ∧ n = 0) then .form k else if n < 128 then .ok (x + n % 128 * 2 ^ (7 * k)) (k + 1) else tkU (rest.drop (k + 1)) (k + 1) (x + n % 128 * 2 ^ (7 * k)) by
            rw [List.drop_eq_getElem_cons hlt, hn, hd, gb_get rest k hlt]
            rfl)
          have h127 := and127 n hn8
          have HL := Lib.hid hlt
          clear hlt hd hn
          go_upto_region 7 with (fail)
          obtain ⟨B, hB⟩ : ∃ B : Bool, B = decide ((k = 9 ∧ 1 < n) ∨ (0 < k ∧ n = 0)) := ⟨_, rfl⟩
          have HB := Lib.hid hB
          clear hB
          go_cut [41] (fun s41 wx => s41 = .bool B ∧ wx = w)
          case first =>
            by_cases e1 : k = 9
            · have b1 : ((k : Int) == 9) = true := beq_iff_eq.2 (by omega)
              by_cases e2 : 1 < n
              · have e2' : (1 : Int) < n := by omega
                have HV := Lib.hid (show B = true by rw [HB.out, decide_eq_true_iff]; omega)
                clear e1 e2
                go_wp2
                go_meet
                case rel => rw [HV.out]; exact ⟨rfl, rfl⟩
              · have e2' : ¬ (1 : Int) < n := by omega
                have e3 : (0 : Int) < k := by omega
                by_cases e4 : n = 0
                · have b4 : ((n : Int) == 0) = true := beq_iff_eq.2 (by omega)
                  have HV := Lib.hid (show B = true by rw [HB.out, decide_eq_true_iff]; omega)
                  clear e1 e2 e4
                  go_wp2
                  go_meet
                  case rel => rw [HV.out]; exact ⟨rfl, rfl⟩
                · have b4 : ((n : Int) == 0) = false := beq_eq_false_iff_ne.2 (by omega)
                  have HV := Lib.hid (show B = false by rw [HB.out, decide_eq_false_iff_not]; omega)
                  clear e1 e2 e4
                  go_wp2
                  go_meet
                  case rel => rw [HV.out]; exact ⟨rfl, rfl⟩
            · have b1 : ((k : Int) == 9) = false := beq_eq_false_iff_ne.2 (by omega)
              by_cases e3 : 0 < k
              · have e3' : (0 : Int) < k := by omega
                by_cases e4 : n = 0
                · have b4 : ((n : Int) == 0) = true := beq_iff_eq.2 (by omega)
                  have HV := Lib.hid (show B = true by rw [HB.out, decide_eq_true_iff]; omega)
                  clear e1 e3 e4
                  go_wp2
                  go_meet
                  case rel => rw [HV.out]; exact ⟨rfl, rfl⟩
                · have b4 : ((n : Int) == 0) = false := beq_eq_false_iff_ne.2 (by omega)
                  have HV := Lib.hid (show B = false by rw [HB.out, decide_eq_false_iff_not]; omega)
                  clear e1 e3 e4
                  go_wp2
                  go_meet
                  case rel => rw [HV.out]; exact ⟨rfl, rfl⟩
              · have e3' : ¬ (0 : Int) < k := by omega
                have HV := Lib.hid (show B = false by rw [HB.out, decide_eq_false_iff_not]; omega)
                clear e1 e3
                go_wp2
                go_meet
                case rel => rw [HV.out]; exact ⟨rfl, rfl⟩
          case rest =>
            obtain ⟨rfl, hwc⟩ := hcut
            subst hwc
            cases B with
            | true =>
              have hd := of_decide_eq_true HB.out.symm
              have HV := Lib.hid (show takeU b (f : Int) = (0, 0, .at_ 1 ((f : Int) + k) 3) by rw [HE.out, ht.out.1, HS.out, if_pos hd])
              clear hd HB HS
              go_wp2_with (go_at_call 88; refine (at_calls _ _ _).mono ?_; rintro e w1 ⟨v, rfl, hv, hb⟩; have HVV := Aside0.mk hv; have HBB := Aside0.mk hb; clear hv hb)
              go_ret3
              unfold TakeUPost
              rw [HV.out]
              exact ⟨_, rfl, HVV.out, HBB.out⟩
            | false =>
              have hd := of_decide_eq_false HB.out.symm
              have HD2 := Lib.hid hd
              clear hd HB
              by_cases hs : n < 128
              · have n2 : (n : Int) < 128 := by omega
                have HV := Lib.hid (show takeU b (f : Int) = (x + n % 128 * 2 ^ (7 * k), (f : Int) + (k + 1 : Nat), .ok) by rw [HE.out, ht.out.1, HS.out, if_neg HD2.out, if_pos hs])
                have HO := Lib.hid (orShift x n k ht.out.2.2 ht.out.2.1 hn8 HD2.out)
                clear hs HS
                go_wp2
                go_ret3
                unfold TakeUPost
                rw [HV.out]
                refine ⟨_, ?_, rfl, Below.refl _ _⟩
                show Ending.returned (.tuple #[.int .u64 _, .int .i64 _, .nilIface]) = _
                rw [HO.out]
                have e : ((f : Int) + k + 1) = (f : Int) + (k + 1 : Nat) := by omega
                rw [e]
              · have n2 : ¬ (n : Int) < 128 := by omega
                have HV := Lib.hid (show tkU rest 0 0 = tkU (rest.drop (k + 1)) (k + 1) (x + n % 128 * 2 ^ (7 * k)) by rw [ht.out.1, HS.out, if_neg HD2.out, if_neg hs])
                have HO := Lib.hid (orShift x n k ht.out.2.2 ht.out.2.1 hn8 HD2.out)
                have HN := Lib.hid hs
                clear hs HS
                go_wp2
                go_round
                case rel =>
                  refine ⟨k + 1, x + n % 128 * 2 ^ (7 * k), by go_num, by have := HL.out; omega, u64_eq HO.out, HV.out, ?_, ?_⟩
                  · have := HD2.out; have := HN.out; have := ht.out.2.1; omega
                  · have e : 7 * (k + 1) = 7 * k + 7 := by omega
                    rw [e, Nat.pow_add]
                    have h1 : n % 128 * 2 ^ (7 * k) ≤ 127 * 2 ^ (7 * k) := Nat.mul_le_mul_right _ (by omega)
                    have h2 := ht.out.2.2
                    omega
                case measure => have := HL.out; simp [intOf]; omega
        · have k1 : ¬ (k : Int) < rest.length := by omega
          have HV := Lib.hid (show takeU b (f : Int) = (0, 0, .at_ 1 b.length 6) by rw [HE.out, ht.out.1, List.drop_of_length_le (by omega)]; rfl)
          clear hlt
          go_wp2_with (go_at_call 88; refine (at_calls _ _ _).mono ?_; rintro e w1 ⟨v, rfl, hv, hb⟩; have HVV := Aside0.mk hv; have HBB := Aside0.mk hb; clear hv hb)
          go_ret3
          unfold TakeUPost
          rw [HV.out]
          exact ⟨_, rfl, HVV.out, HBB.out⟩
end Go.Proofs.YtadaoplmicghcaaGreatDoor.Lk
namespace Go.Proofs.YtadaoplmicghcaaGreatDoor.Lk
open Go.RowKit Go.Proofs.YtadaoplmicghcaaGreatDoorW.PrintWords Go.Proofs.YtadaoplmicghcaaGreatDoorW.PrintLast Go.Proofs.YtadaoplmicghcaaGreatDoorW.PrintMore
set_option linter.unusedVariables false
set_option linter.unusedSimpArgs false

theorem takeU_bound (b : List UInt8) (f : Int) : (takeU b f).1 < 18446744073709551616 ∧ 0 ≤ (takeU b f).2.1 ∧ (takeU b f).2.1 ≤ b.length ∧ ((takeU b f).2.2 ≠ .ok → (takeU b f).1 = 0 ∧ (takeU b f).2.1 = 0) ∧ ((takeU b f).2.2 = .ok → 0 ≤ f ∧ f < (takeU b f).2.1) := by
  unfold takeU
  split
  · next h =>
    cases he : tkU (b.drop f.toNat) 0 0 with
    | ok x n =>
      have := tkU_bound _ 0 0 (by decide) (by decide) x n he
      rw [List.length_drop] at this
      simp
      omega
    | form i => simp
    | short => simp
  · simp

set_option maxRecDepth 100000 in
theorem cloneB_calls (w : World) (A : Option Addr) (c : Nat) (xs : List UInt8) (hr : kB.C w A xs.length xs) (hl : xs.length ≤ 1099511627776) :
    Calls Tryz.prog 56 #[.slice A xs.length c] w (NewBytes w xs) := by
  have HR := Lib.hid hr
  have HL := Lib.hid hl
  clear hl
  cases A with
  | none =>
    have h0 : xs = [] := by
      rcases Nat.eq_zero_or_pos xs.length with h | h
      · exact List.eq_nil_of_length_eq_zero h
      · obtain ⟨ad, h, _⟩ := hr.2.2 h; cases h
    subst h0
    have heq := fun W => Lib.run_eql_slice_nil (P := Tryz.prog) W 68 5 none 0 c 0 0 Tryz.underlying68
    clear hr
    go_enter Tryz.func56, Tryz.ntmps56
    go_wp2
    go_ret
    exact ⟨_, rfl, Kd.R_nil _ _ _ _ _, Below.refl _ _⟩
  | some ad =>
    have heq := fun W => Lib.run_eql_slice_nil (P := Tryz.prog) W 68 5 (some ad) xs.length c 0 0 Tryz.underlying68
    clear hr
    go_enter Tryz.func56, Tryz.ntmps56
    go_wp2_with (first
      | (at_builtin; refine app_bytes w.heap.size rfl _ _ rfl (.slice (some ⟨w.heap.size, 0, none⟩) 0 0) [] xs (some ad) xs.length c rfl rfl (B_empty w _ (Nat.le_refl _)) (Kd.C_alloc HR.out _) (by simp) (by have := HL.out; simp; omega) ?_; intro v1 w1 ho hb; have HO := Aside0.mk ho; have HB := Aside0.mk hb; clear ho hb))
    go_ret
    exact ⟨_, rfl, by simpa using HO.out, (below_alloc (Below.refl _ _) _).trans HB.out⟩

/-- b[lo:hi], without a case on the capacity. -/
theorem B_win {w : World} {A : Option Addr} {c lo hi : Nat} {b : List UInt8} (h : kB.C w A b.length b) (h1 : lo ≤ hi) (h2 : hi ≤ b.length) (hc : b.length ≤ c) (x y : Int) (hx : x = (lo : Int)) (hy : y = (hi : Int)) :
    ∃ A', (∀ W : World, (Instr.slice 68 (.slice A b.length c) (some (.int .i64 x)) (some (.int .i64 y)) none).run Tryz.prog W = .ok (.slice A' ((b.take hi).drop lo).length (c - lo)) W) ∧ kB.C w A' ((b.take hi).drop lo).length ((b.take hi).drop lo) ∧ ((b.take hi).drop lo).length ≤ c - lo := by
  subst hx hy
  have hl : ((b.take hi).drop lo).length = hi - lo := by rw [List.length_drop, List.length_take]; omega
  have hC := Kd.C_mid (k := kB) h h1 h2 hc
  refine ⟨if c = lo then A else A.map (·.add (lo * kB.sz)), fun W => ?_, hC, by omega⟩
  obtain ⟨i0, hi0, hz0, hz1, hz2⟩ := info_parts info5
  have ht := Tryz.underlying68
  have hel : Tryz.prog.elem 68 = 5 := by simp [Program.elem, ht]
  have hu : Tryz.prog.underlying 68 = some (.slice (Tryz.prog.elem 68)) := by rw [hel]; exact ht
  rw [run_slice_lh (w := W) 68 A b.length c hu .i64 .i64 (lo : Int) (hi : Int) (Int.natCast_nonneg _) (by omega) (by omega), hel, hl]
  have e1 : kB.sz = 1 := rfl
  simp [sizeOf, typeInfo, hi0, hz1, sliced, Result.andThen, e1]

/-- TakeBytes: the bytes, the place behind them, the error. -/
def takeB (b : List UInt8) (f : Int) : List UInt8 × Int × Er :=
  match takeU b f with
  | (x, n, .ok) => if 1048576 < x then ([], 0, .at_ 1 f 2) else if (b.length : Int) - n < x then ([], 0, .at_ 1 b.length 6) else ((b.take (n.toNat + x)).drop n.toNat, n + x, .ok)
  | (_, _, er) => ([], 0, er)
def TakeBPost (w : World) (b : List UInt8) (from_ : Int) (e : Ending) (w' : World) : Prop :=
  ∃ p v, e = .returned (.tuple #[p, .int .i64 (takeB b from_).2.1, v]) ∧ kB.R 5 w' w.heap.size (fun _ => True) p (takeB b from_).1 ∧ IsEr w' w.heap.size (takeB b from_).2.2 v ∧ Below w.heap.size w w'
set_option maxRecDepth 100000 in
set_option maxHeartbeats 1000000 in
theorem takeBytes_calls (w : World) (A : Option Addr) (c : Nat) (b : List UInt8) (from_ : Int) (hx : kB.C w A b.length b) (hc : b.length ≤ c) (hl : b.length ≤ 1099511627776) :
    Calls Tryz.prog 69 #[.slice A b.length c, .int .i64 from_] w (TakeBPost w b from_) := by
  have HX := Lib.hid hx
  have HC := Lib.hid hc
  have HL := Lib.hid hl
  have hl1 : (b.length : Int) ≤ 1099511627776 := by omega
  obtain ⟨t, ht⟩ : ∃ t, t = takeU b from_ := ⟨_, rfl⟩
  have hbd := takeU_bound b from_
  rw [← ht] at hbd
  obtain ⟨x, n, er⟩ := t
  have HT := Lib.hid ht
  obtain ⟨g1, g2, g3, g4, g5⟩ := hbd
  simp only at g1 g2 g3 g4 g5
  obtain ⟨n, rfl⟩ := Int.eq_ofNat_of_zero_le g2
  by_cases he : er = .ok
  · subst he
    have g6 := g5 rfl
    have x1 : (x : Int) ≤ 18446744073709551615 := by omega
    by_cases hm : 1048576 < x
    · have hm' : (1048576 : Int) < x := by omega
      have HE := Lib.hid (show takeB b from_ = ([], 0, .at_ 1 from_ 2) by unfold takeB; rw [← HT.out]; simp only []; rw [if_pos hm])
      clear hx hc hl ht hm g1 g2 g4 g5 g6
      go_enter Tryz.func69, Tryz.ntmps69
      go_wp2_with (first
        | (go_at_call 68; refine (takeUint_calls _ _ _ b from_ HX.out HC.out HL.out).mono ?_; intro e w1 h1; unfold TakeUPost at h1; rw [← HT.out] at h1; obtain ⟨v, rfl, hv, hb⟩ := h1; have HV : v = .nilIface := hv; subst HV; have HB := Aside0.mk hb; clear hv hb)
        | (go_at_call 88; refine (at_calls _ _ _).mono ?_; rintro e w2 ⟨v, rfl, hv, hb⟩; have HVV := Aside0.mk hv; have HBB := Aside0.mk hb; clear hv hb))
      go_ret3
      unfold TakeBPost
      rw [HE.out]
      exact ⟨_, _, rfl, Kd.R_nil _ _ _ _ _, IsEr.lower (er := .at_ 1 from_ 2) HVV.out HB.out.size, below_then HB.out HB.out.size HBB.out⟩
    · have hm' : ¬ (1048576 : Int) < x := by omega
      by_cases hs : (b.length : Int) - n < x
      · have HE := Lib.hid (show takeB b from_ = ([], 0, .at_ 1 b.length 6) by unfold takeB; rw [← HT.out]; simp only []; rw [if_neg hm, if_pos hs])
        clear hx hc hl ht hm g1 g2 g4 g5 g6
        go_enter Tryz.func69, Tryz.ntmps69
        go_wp2_with (first
          | (go_at_call 68; refine (takeUint_calls _ _ _ b from_ HX.out HC.out HL.out).mono ?_; intro e w1 h1; unfold TakeUPost at h1; rw [← HT.out] at h1; obtain ⟨v, rfl, hv, hb⟩ := h1; have HV : v = .nilIface := hv; subst HV; have HB := Aside0.mk hb; clear hv hb)
          | (go_at_call 88; refine (at_calls _ _ _).mono ?_; rintro e w2 ⟨v, rfl, hv, hb⟩; have HVV := Aside0.mk hv; have HBB := Aside0.mk hb; clear hv hb))
        go_ret3
        unfold TakeBPost
        rw [HE.out]
        exact ⟨_, _, rfl, Kd.R_nil _ _ _ _ _, IsEr.lower (er := .at_ 1 b.length 6) HVV.out HB.out.size, below_then HB.out HB.out.size HBB.out⟩
      · have HE := Lib.hid (show takeB b from_ = ((b.take (n + x)).drop n, (n : Int) + x, .ok) by unfold takeB; rw [← HT.out]; simp only []; rw [if_neg hm, if_neg hs]; rfl)
        obtain ⟨A', hcut, hD, hc2⟩ := B_win (lo := n) (hi := n + x) HX.out (by omega) (by omega) hc n ((n : Int) + x) rfl (by simp)
        obtain ⟨ys, hys⟩ : ∃ ys, ys = (b.take (n + x)).drop n := ⟨_, rfl⟩
        have hyl : ys.length ≤ 1099511627776 := by rw [hys, List.length_drop, List.length_take]; omega
        rw [← hys] at hcut hD hc2 HE
        have HD := Aside0.mk hD
        have HYL := Lib.hid hyl
        clear hx hc hl ht hm g1 g2 g4 g5 g6 hD hys hc2 hyl
        go_enter Tryz.func69, Tryz.ntmps69
        go_wp2_with (first
          | (go_at_call 68; refine (takeUint_calls _ _ _ b from_ HX.out HC.out HL.out).mono ?_; intro e w1 h1; unfold TakeUPost at h1; rw [← HT.out] at h1; obtain ⟨v, rfl, hv, hb⟩ := h1; have HV : v = .nilIface := hv; subst HV; have HB := Aside0.mk hb; clear hv hb)
          | (go_at_call 56; refine (cloneB_calls _ _ _ ys (Kd.C_below HD.out HB.out) HYL.out).mono ?_; rintro e w2 ⟨v, rfl, hv, hb⟩; have HVV := Aside0.mk hv; have HBB := Aside0.mk hb; clear hv hb))
        go_ret3
        unfold TakeBPost
        rw [HE.out]
        exact ⟨_, _, rfl, Kd.R_lower HVV.out HB.out.size, rfl, below_then HB.out HB.out.size HBB.out⟩
  · have HE := Lib.hid (show takeB b from_ = ([], 0, er) by
      unfold takeB; rw [← HT.out]
      cases er with
      | ok => exact absurd rfl he
      | num c => rfl
      | at_ kind k c => rfl)
    have HN := Lib.hid he
    clear hx hc hl ht g1 g2 g3 g4 g5 he
    go_enter Tryz.func69, Tryz.ntmps69
    go_wp2_with (go_at_call 68; refine (takeUint_calls _ _ _ b from_ HX.out HC.out HL.out).mono ?_; intro e w1 h1; unfold TakeUPost at h1; rw [← HT.out] at h1; obtain ⟨v, rfl, hv, hb⟩ := h1; obtain ⟨ta, ua, rfl⟩ := IsEr.bad hv HN.out; have HV := Aside0.mk hv; have HB := Aside0.mk hb; clear hv hb)
    go_ret3
    unfold TakeBPost
    rw [HE.out]
    exact ⟨_, _, rfl, Kd.R_nil _ _ _ _ _, HV.out, HB.out⟩
end Go.Proofs.YtadaoplmicghcaaGreatDoor.Lk
namespace Go.Proofs.YtadaoplmicghcaaGreatDoor.Lk
open Go.RowKit Go.Proofs.YtadaoplmicghcaaGreatDoorW.PrintWords Go.Proofs.YtadaoplmicghcaaGreatDoorW.PrintLast Go.Proofs.YtadaoplmicghcaaGreatDoorW.PrintMore
set_option linter.unusedVariables false
set_option linter.unusedSimpArgs false
def kBs : Kd (List UInt8) := Kd.slice 5 kB
theorem info6 : (Tryz.prog.info? 68).map (fun i => (i.zero, i.size, i.bytes)) = some (some (.slice none 0 0), 1, 24) := by kernel_rfl
def gl (l : List (List UInt8)) (k : Nat) : List UInt8 := l.getD k []
theorem gl_get (l : List (List UInt8)) (k : Nat) (h : k < l.length) : gl l k = l[k] := by
  simp [gl, List.getD_eq_getElem?_getD, List.getElem?_eq_getElem h]
theorem L_cell {w : World} {A : Option Addr} {l : List (List UInt8)} (h : kBs.C w A l.length l) {k : Nat} (hk : k < l.length) :
    ∃ ad A0 c0, A = some ad ∧ w.cell? (ad.add k) = some (.slice A0 (gl l k).length c0) ∧ (gl l k).length ≤ c0 ∧ kB.C w A0 (gl l k).length (gl l k) := by
  obtain ⟨ad, c, e, _, hK, hc⟩ := Kd.C_get h ([] : List UInt8) (k : Int) (by omega) (by omega)
  obtain ⟨A0, c0, rfl, l0, g0⟩ := hK
  refine ⟨ad, A0, c0, e, ?_, l0, g0⟩
  have hq := hc 0 _ rfl
  have e1 : kBs.sz = 1 := rfl
  rw [e1, Nat.mul_one, Nat.add_zero, Int.toNat_natCast] at hq
  exact hq
theorem L_head {w : World} {A : Option Addr} {c hi : Nat} {l : List (List UInt8)} (h : kBs.C w A l.length l) (h2 : hi ≤ l.length) (hc : l.length ≤ c) (y : Int) (hy : y = (hi : Int)) :
    ∃ A', (∀ W : World, (Instr.slice 79 (.slice A l.length c) none (some (.int .i64 y)) none).run Tryz.prog W = .ok (.slice A' ((l.take hi).drop 0).length c) W) ∧ kBs.C w A' ((l.take hi).drop 0).length ((l.take hi).drop 0) ∧ ((l.take hi).drop 0).length ≤ c := by
  subst hy
  have hl : ((l.take hi).drop 0).length = hi := by rw [List.length_drop, List.length_take]; omega
  have hC := Kd.C_mid (k := kBs) h (Nat.zero_le hi) h2 hc
  refine ⟨if c = 0 then A else A.map (·.add (0 * kBs.sz)), fun W => ?_, hC, by omega⟩
  obtain ⟨i0, hi0, hz0, hz1, hz2⟩ := info_parts info6
  have ht := Tryz.underlying79
  have hel : Tryz.prog.elem 79 = 68 := by simp [Program.elem, ht]
  have hu : Tryz.prog.underlying 79 = some (.slice (Tryz.prog.elem 79)) := by rw [hel]; exact ht
  rw [run_slice_h (w := W) 79 A l.length c hu .i64 (hi : Int) (by omega) (by omega), hel, hl]
  have e1 : kBs.sz = 1 := rfl
  simp [sizeOf, typeInfo, hi0, hz1, sliced, Result.andThen, e1]

end Go.Proofs.YtadaoplmicghcaaGreatDoor.Lk
namespace Go.Proofs.YtadaoplmicghcaaGreatDoor.Lk
open Go.RowKit Go.Proofs.YtadaoplmicghcaaGreatDoorW.PrintWords Go.Proofs.YtadaoplmicghcaaGreatDoorW.PrintLast Go.Proofs.YtadaoplmicghcaaGreatDoorW.PrintMore
set_option linter.unusedVariables false
set_option linter.unusedSimpArgs false
def Ro (w : World) (lo : Nat) (ok : Nat → Prop) (v : Value) (xs : List (List UInt8)) : Prop := Kd.N kBs 68 w lo ok v xs ∨ ∃ A, v = .slice A xs.length xs.length ∧ Kd.F kBs w ok A xs.length xs
section
variable {w w1 : World} {lo lo' : Nat} {ok ok' : Nat → Prop} {v : Value} {xs : List (List UInt8)}
theorem Ro.nil (w : World) (lo : Nat) (ok : Nat → Prop) : Ro w lo ok (.slice none 0 0) [] := .inl (Kd.N_nil _ _ _ _ _)
theorem Ro.step (h : Ro w lo ok v xs) (hm : ∀ k, ok k → k < w.heap.size → w1.heap[k]? = w.heap[k]?) : Ro w1 lo ok v xs := by
  rcases h with h | ⟨A, e, h⟩
  · exact .inl (Kd.N_step h hm)
  · exact .inr ⟨A, e, Kd.F_step h hm⟩
theorem Ro.mono (h : Ro w lo ok v xs) (hm : ∀ k, ok k → k < w.heap.size → ok' k) : Ro w lo ok' v xs := by
  rcases h with h | ⟨A, e, h⟩
  · exact .inl (Kd.N_mono (Kd.N_bound h) (fun k hk => hm k hk.1 hk.2))
  · exact .inr ⟨A, e, Kd.F_mono (Kd.F_bound h) (fun k hk => hm k hk.1 hk.2)⟩
theorem Ro.lower (h : Ro w lo ok v xs) (hl : lo' ≤ lo) : Ro w lo' ok v xs := by
  rcases h with h | h
  · exact .inl (Kd.N_lower h hl)
  · exact .inr h
theorem Ro.reads (h : Ro w lo ok v xs) : ∃ A c, v = .slice A xs.length c ∧ xs.length ≤ c ∧ kBs.C w A xs.length xs := by
  rcases h with h | ⟨A, e, h⟩
  · exact Kd.N_reads h
  · exact ⟨A, _, e, Nat.le_refl _, Kd.F_now h⟩
theorem Ro.reads' {A : Option Addr} {c : Nat} (h : Ro w lo ok (.slice A xs.length c) xs) : xs.length ≤ c ∧ kBs.C w A xs.length xs := by
  obtain ⟨A', c', e, h1, h2⟩ := h.reads
  injection e with e1 _ e3
  subst e1 e3
  exact ⟨h1, h2⟩
theorem Ro.far (h : Ro w lo ok v xs) {p : Addr} (hok : ∀ k, ok k → k ≠ p.block) (u : Value) : Ro (w.setCell p u) lo ok v xs := h.step (fun k ho _ => Below.heap_setCell w p u k (hok k ho))
/-- Cut at a length: s[:n:n]. -/
theorem Ro.cut {A : Option Addr} {c n : Nat} (h : Ro w lo ok (.slice A xs.length c) xs) (hn : n ≤ xs.length) : Ro w lo ok (.slice A (xs.take n).length (xs.take n).length) (xs.take n) := by
  refine .inr ⟨A, rfl, ?_⟩
  rcases h with h | ⟨A', e, h⟩
  · exact Kd.F_take (Kd.N_F h) hn
  · injection e with e1 _ _
    subst e1
    exact Kd.F_take h hn
end
theorem reps_single {α : Type} {R : α → List Value → Prop} {sz : Nat} {p : α} {cs : List Value} (h : R p cs) (hl : cs.length = sz) : Reps R sz [p] cs := by
  refine ⟨by simp [hl], fun j q hj => ?_⟩
  rcases j with _ | j
  · simp only [List.getElem?_cons_zero, Option.some.injEq] at hj
    subst hj
    rw [Nat.zero_mul, List.drop_zero, ← hl, List.take_length]
    exact h
  · simp at hj
section
variable {ops : Array Oper} {rest : List Oper} {o : Oper} {a : Act} {Q : Exit → Act → World → Prop} {Kc : Act → World → Prop}
theorem Ro_append_step {w0 W : World} (base : Nat) (hw : Region.wanted o (yielded ops a.tmps) = true) (s x : Operand)
    (ho : o.op = .call { callee := .builtin .append, args := #[s, x], argTypes := #[79, 79] })
    (v : Value) (xs : List (List UInt8)) (p : List UInt8) (cs : List Value) (okO ok okp : Nat → Prop) (hO : ∀ k, okO k → ok k) (hs : a.eval s = v) (hx : a.eval x = .slice (some ⟨W.heap.size, 0, none⟩) 1 1) (hp : Kd.FK kBs W okp p cs) (hokp : ∀ k, okp k → ok k ∧ ¬ okO k) (hfresh : ∀ k, W.heap.size ≤ k → ok k)
    (HO : Ro W base okO v xs) (HB : Below base w0 W) (hbase : base ≤ W.heap.size) (hl : (xs.length + 1) * 24 ≤ 140737488355328)
    (h : ∀ v1 w1, Ro w1 base ok v1 (xs ++ [p]) → Below base w0 w1 → W.heap.size ≤ w1.heap.size → (∀ k, k < W.heap.size → ¬ ok k → w1.heap[k]? = W.heap[k]?) → Kc (a.put o.dst v1) w1) :
    if Region.wanted o (yielded ops a.tmps) = true then Oper.wp Tryz.prog o a (W.alloc (.cells cs.toArray 68)) Kc Q else Kc (a.put o.dst undef) (W.alloc (.cells cs.toArray 68)) := by
  have nrow : ∀ (v' : Value) (HN0 : Kd.N kBs 68 W base okO v' xs), a.eval s = v' → _ := fun v' HN0 hs' =>
    have HN := Kd.N_mono HN0 hO
    Kd.N_append_step (Kc := Kc) (Q := Q) kBs (w0 := w0) (W := W) base hw s x 79 68 (.slice none 0 0) 24 ho Tryz.underlying79 info6 rfl (by decide) (by omega) v' xs p cs ok okp hs' hx hp (fun k hk => ⟨(hokp k hk).1, fun e => (hokp k hk).2 (HN0.1 k e.symm)⟩) hfresh HN HB hbase hl
      (fun v1 w1 hN hb hg _ => h v1 w1 (.inl hN) hb hg.size (fun k hk hn => hg.block k hk (fun e => hn (HN.1 k e.symm))))
  rcases HO with HN | ⟨A, rfl, hF⟩
  · exact nrow v HN hs
  · cases A with
    | none =>
      have h0 : xs = [] := by
        rcases Nat.eq_zero_or_pos xs.length with h0 | h0
        · exact List.eq_nil_of_length_eq_zero h0
        · obtain ⟨ad, e, _⟩ := (Kd.F_now hF).2.2 h0; cases e
      subst h0
      exact nrow _ (Kd.N_nil _ _ _ _ _) hs
    | some b =>
      obtain ⟨i0, hi, hz0, hz1, hz2⟩ := info_parts info6
      obtain ⟨olds, hrep, hcell⟩ := ReadsRow.inner_ (Kd.F_rows hF)
      have hcs : cs.length = 1 := kBs.K_len (Kd.FK_now hp)
      have hol : olds.length = xs.length * 1 := hrep.1
      have hsz : (W.alloc (.cells cs.toArray 68)).heap.size = W.heap.size + 1 := Array.size_push _
      rw [if_pos hw]
      obtain ⟨v1, w1, hr, hown, hg⟩ := run_append_arg_grows (P := Tryz.prog) (W.alloc (.cells cs.toArray 68)) 79 o.type 68 i0 (.slice none 0 0) 1 24 Tryz.underlying79 hi hz0 hz1 hz2 rfl (by decide) b xs.length xs.length olds hol (fun j u hj => (World.cell?_alloc_lt _ _ _ (World.block_lt_of_cell? _ _ (hcell j u hj))).trans (hcell j u hj)) ⟨W.heap.size, 0, none⟩ 1 1 cs hcs
        (by simpa using World.news_of_block (cs := cs.toArray) (t := 68) (fr := (0, 0)) (heap_alloc_new W (.cells cs.toArray 68))) (by omega) (by simp only [maxLen]; omega) hl
      have hk : ∀ k, k < W.heap.size → w1.heap[k]? = W.heap[k]? := fun k hk => (hg.block k (by omega) (by simp)).trans (heap_alloc_old W _ hk)
      have hob : ∀ k, v1.ownBlock = some k → W.heap.size ≤ k := fun k hk => by have := own_base hown k hk; omega
      have hrep2 : Reps (fun x c => Kd.FK kBs W ok x c) 1 (xs ++ [p]) (olds ++ cs) := Kd.reps_append (hrep.imp_ (fun _ _ hq => Kd.FK_mono hq hO)) (reps_single (Kd.FK_mono hp (fun k hk => (hokp k hk).1)) hcs)
      have hN : Kd.N kBs 68 w1 base ok v1 (xs ++ [p]) := by
        refine ⟨fun k hk => hfresh k (hob k hk), Kd.chunks 1 (xs ++ [p]).length (olds ++ cs), Kd.chunks_length _ _ _, ⟨fun k hk => hk.symm, olds ++ cs, ?_, Kd.reps_raw hrep2 (fun x c hq => ⟨kBs.K_len (Kd.FK_now hq), kBs.K_one (Kd.FK_now hq)⟩)⟩, fun j x c hx hc => ?_⟩
        · rw [Kd.chunks_length, List.length_append]
          exact own_weaken hown (by omega)
        · rw [Kd.chunks_get hc]
          exact Kd.FK_mono (Kd.FK_step (Kd.FK_bound (hrep2.2 j x hx)) (fun k _ hlt => hk k hlt)) (fun k hkk => ⟨hkk.1, fun e => by have := hob k e.symm; omega⟩)
      have h2 := h v1 w1 (.inl hN) ((HB.alloc hbase _).trans ⟨hg.os, hg.tape, hg.output, hg.size, fun k hk => hg.block k (by omega) (by simp)⟩) (by have := hg.size; omega) (fun k hk' _ => hk k hk')
      unfold Oper.wp execOp
      simp only [ho, resolve, invoke, builtin, Sem.run_bind, Sem.run_pure, Result.andThen_ok, List.map_toArray, List.map_cons, List.map_nil, hs, hx, hr]
      exact h2
end
end Go.Proofs.YtadaoplmicghcaaGreatDoor.Lk
namespace Go.Proofs.YtadaoplmicghcaaGreatDoor.Lk
open Go.RowKit Go.Proofs.YtadaoplmicghcaaGreatDoorW.PrintWords Go.Proofs.YtadaoplmicghcaaGreatDoorW.PrintLast Go.Proofs.YtadaoplmicghcaaGreatDoorW.PrintMore
set_option linter.unusedVariables false
set_option linter.unusedSimpArgs false
structure En where
  win : Nat
  out : List (List UInt8)
  so : Nat
  tld : Nat
  got : Nat
  sg : Nat
  rcv : Bool
def En.new (n : Nat) : En := ⟨n, [], 0, 0, 0, 0, false⟩
abbrev enCells (N : En) (A : Option Addr) (c : Nat) : Array Value := #[.int .i64 N.win, .slice A N.out.length c, .int .i64 N.so, .int .i64 N.tld, .int .i64 N.got, .int .i64 N.sg, .bool N.rcv]
structure EndAt (w : World) (lo : Nat) (K : Nat → Prop) (N : En) (p : Nat) (A : Option Addr) (c : Nat) : Prop where
  blk : w.heap[p]? = some (.cells (enCells N A c) 104 (0, 0))
  ro : Ro w lo (fun k => K k ∧ k ≠ p) (.slice A N.out.length c) N.out
  kp : K p
  kb : ∀ k, K k → lo ≤ k ∧ k < w.heap.size
def IsEnd (w : World) (lo : Nat) (K : Nat → Prop) (N : En) (p : Nat) : Prop := ∃ A c, EndAt w lo K N p A c
/-- The blocks of before, and what is new. -/
def Kx (K : Nat → Prop) (w w1 : World) (k : Nat) : Prop := K k ∨ w.heap.size ≤ k ∧ k < w1.heap.size
structure Moved (w w' : World) (lo : Nat) (K K' : Nat → Prop) : Prop where
  below : Below lo w w'
  kept : Kept w w' K
  new : ∀ k, K' k → K k ∨ w.heap.size ≤ k
theorem Moved.trans {w w1 w2 : World} {lo : Nat} {K K1 K2 : Nat → Prop} (h : Moved w w1 lo K K1) (k : Moved w1 w2 lo K1 K2) : Moved w w2 lo K K2 :=
  ⟨h.below.trans k.below, h.kept.then_ k.kept h.new, fun i hi => (k.new i hi).elim (h.new i) (fun h2 => .inr (Nat.le_trans h.below.size h2))⟩
theorem Moved.refl (w : World) (lo : Nat) (K : Nat → Prop) : Moved w w lo K K := ⟨Below.refl _ _, Kept.refl _ _, fun _ h => .inl h⟩
theorem Moved.drew (w : World) (lo : Nat) (K : Nat → Prop) : Moved w w.drew lo K K := ⟨(Below.refl _ _).drew, ⟨Nat.le_refl _, fun _ _ _ => rfl⟩, fun _ h => .inl h⟩
theorem set_size (W : World) (g i : Nat) (u : Value) : (W.setCell ⟨g, i, none⟩ u).heap.size = W.heap.size := by simp [World.setCell]
section
variable {w w1 : World} {lo p c : Nat} {K K' : Nat → Prop} {N : En} {A : Option Addr}
theorem EndAt.move (z : EndAt w lo K N p A c) (hm : ∀ k, K k → w1.heap[k]? = w.heap[k]?) (hs : w.heap.size ≤ w1.heap.size) : EndAt w1 lo K N p A c :=
  ⟨(hm _ z.kp).trans z.blk, z.ro.step fun k hk _ => hm k hk.1, z.kp, fun k hk => ⟨(z.kb k hk).1, Nat.lt_of_lt_of_le (z.kb k hk).2 hs⟩⟩
theorem EndAt.widen (z : EndAt w lo K N p A c) (hk : ∀ k, K k → K' k) (hb : ∀ k, K' k → lo ≤ k ∧ k < w.heap.size) : EndAt w lo K' N p A c :=
  ⟨z.blk, z.ro.mono fun k h _ => ⟨hk k h.1, h.2⟩, hk _ z.kp, hb⟩
theorem EndAt.low (z : EndAt w lo K N p A c) : lo ≤ w.heap.size := by have := z.kb _ z.kp; omega
theorem EndAt.stay (z : EndAt w lo K N p A c) (hb : Below w.heap.size w w1) : EndAt w1 lo K N p A c := z.move (fun k hk => hb.block k (z.kb k hk).2) hb.size
theorem EndAt.below (z : EndAt w lo K N p A c) (hb : Below w.heap.size w w1) : EndAt w1 lo (Kx K w w1) N p A c :=
  (z.stay hb).widen (fun k hk => .inl hk) fun k hk => by
    have := hb.size
    have := z.low
    rcases hk with hk | hk
    · have := z.kb k hk; omega
    · omega
theorem IsEnd.stay (z : IsEnd w lo K N p) (hb : Below w.heap.size w w1) : IsEnd w1 lo K N p := by
  obtain ⟨_, _, z⟩ := z
  exact ⟨_, _, z.stay hb⟩
theorem IsEnd.move (z : IsEnd w lo K N p) (hm : ∀ k, K k → w1.heap[k]? = w.heap[k]?) (hs : w.heap.size ≤ w1.heap.size) : IsEnd w1 lo K N p := by
  obtain ⟨_, _, z⟩ := z
  exact ⟨_, _, z.move hm hs⟩
theorem IsEnd.kb (z : IsEnd w lo K N p) : ∀ k, K k → lo ≤ k ∧ k < w.heap.size := by
  obtain ⟨_, _, z⟩ := z
  exact z.kb
theorem moved_set (z : EndAt w lo K N p A c) (i : Nat) (u : Value) : Moved w (w.setCell ⟨p, i, none⟩ u) lo K K :=
  ⟨(Below.refl _ _).setCell (z.kb p z.kp).1 _, ⟨by rw [set_size]; exact Nat.le_refl _, fun k hk hn => Below.heap_setCell _ _ _ _ (fun e => hn (e ▸ z.kp))⟩, fun k hk => .inl hk⟩
theorem EndAt.set (z : EndAt w lo K N p A c) (i : Nat) (u : Value) {N' : En} {A' : Option Addr} {c' : Nat} (he : (enCells N A c).setIfInBounds i u = enCells N' A' c') (hr : Ro w lo (fun k => K k ∧ k ≠ p) (.slice A' N'.out.length c') N'.out) : EndAt (w.setCell ⟨p, i, none⟩ u) lo K N' p A' c' :=
  ⟨by rw [blk_set z.blk, he], hr.far (fun k hk => hk.2) _, z.kp, fun k hk => by rw [set_size]; exact z.kb k hk⟩
theorem EndAt.cells (z : EndAt w lo K N p A c) : w.cell? ⟨p, 0, none⟩ = some (.int .i64 N.win) ∧ w.cell? ⟨p, 1, none⟩ = some (.slice A N.out.length c) ∧ w.cell? ⟨p, 2, none⟩ = some (.int .i64 N.so) ∧ w.cell? ⟨p, 3, none⟩ = some (.int .i64 N.tld) ∧ w.cell? ⟨p, 4, none⟩ = some (.int .i64 N.got) ∧ w.cell? ⟨p, 5, none⟩ = some (.int .i64 N.sg) ∧ w.cell? ⟨p, 6, none⟩ = some (.bool N.rcv) :=
  ⟨blk_cell z.blk 0, blk_cell z.blk 1, blk_cell z.blk 2, blk_cell z.blk 3, blk_cell z.blk 4, blk_cell z.blk 5, blk_cell z.blk 6⟩
end
set_option maxRecDepth 100000 in
theorem linkNew_calls (w : World) (n : Nat) (h1 : 1 ≤ n) (h2 : n ≤ 64) :
    Calls Tryz.prog 19 #[.int .i64 n] w fun e w' => e = .returned (.tuple #[.pointer (some ⟨w.heap.size, 0, none⟩), .nilIface]) ∧ IsEnd w' w.heap.size (fun k => k = w.heap.size) (En.new n) w.heap.size ∧ w'.heap.size = w.heap.size + 1 ∧ Below w.heap.size w w' := by
  have e1 : decide ((n : Int) < 1) = false := decide_eq_false (by omega)
  have e2 : decide ((n : Int) > 64) = false := decide_eq_false (by omega)
  have e3 : ¬ (n : Int) < 1 := by omega
  have e4 : ¬ (n : Int) > 64 := by omega
  go_enter Tryz.func19, Tryz.ntmps19
  go_wp2
  go_ret2
  refine ⟨rfl, ⟨none, 0, ⟨heap_alloc_new _ _, Ro.nil _ _ _, rfl, fun k hk => ?_⟩⟩, Array.size_push _, below_alloc (Below.refl _ _) _⟩
  subst hk
  exact ⟨Nat.le_refl _, by rw [show ∀ o, (w.alloc o).heap.size = w.heap.size + 1 from fun o => Array.size_push _]; omega⟩
structure EnFine (N : En) : Prop where
  w1 : 1 ≤ N.win
  w2 : N.win ≤ 64
  ol : N.out.length ≤ 100000
  so1 : N.so ≤ N.out.length
  to1 : N.tld ≤ N.so
  gl : N.got ≤ 100000
  sg1 : N.sg ≤ N.got
def En.commit (N : En) : En := { N with so := N.out.length, sg := N.got }
theorem EnFine.commit {N : En} (h : EnFine N) : EnFine N.commit := ⟨h.w1, h.w2, h.ol, Nat.le_refl _, Nat.le_trans h.to1 h.so1, h.gl, Nat.le_refl _⟩
set_option maxRecDepth 100000 in
theorem linkCommit_calls (w : World) (lo : Nat) (K : Nat → Prop) (N : En) (p : Nat) (hF : EnFine N) (hE : IsEnd w lo K N p) :
    Calls Tryz.prog 24 #[.pointer (some ⟨p, 0, none⟩)] w fun e w' => e = .returned .nilIface ∧ IsEnd w' lo K N.commit p ∧ Moved w w' lo K K := by
  obtain ⟨A, c, z⟩ := hE
  have HZ := Aside0.mk z
  obtain ⟨c0, c1, c2, c3, c4, c5, c6⟩ := z.cells
  have f2 := blk_frozen z.blk 2
  have f5 := blk_frozen z.blk 5
  clear z hF c0 c3 c6
  go_enter Tryz.func24, Tryz.ntmps24
  go_wp2
  go_region
  all_goals
    go_wp2
    go_ret
    have z := HZ.out
    have z2 := z.set 2 (.int .i64 (N.out.length : Int)) (N' := { N with so := N.out.length }) rfl z.ro
    have z5 := z2.set 5 (.int .i64 (N.got : Int)) (N' := N.commit) rfl z2.ro
    exact ⟨rfl, ⟨A, c, z5.stay (Below.refl _ _).drew⟩, ((moved_set z 2 _).trans (moved_set z2 5 _)).trans (Moved.drew _ _ _)⟩
def En.push (N : En) (m : List UInt8) : En := { N with out := N.out ++ [m] }
theorem send_end {w w3 : World} {lo p c k3 : Nat} {K : Nat → Prop} {N : En} {A A3 : Option Addr} {m : List UInt8} (z : EndAt w lo K N p A c)
    (hr : Ro w3 lo (fun k => (K k ∧ k ≠ p) ∨ w.heap.size ≤ k) (.slice A3 (N.out ++ [m]).length k3) (N.out ++ [m])) (hp : w3.heap[p]? = some (.cells (enCells N A c) 104 (0, 0)))
    (hk : ∀ k, k < w.heap.size → ¬ K k → w3.heap[k]? = w.heap[k]?) (hs : w.heap.size ≤ w3.heap.size) (hb : Below lo w w3) :
    ∃ K', IsEnd (w3.setCell ⟨p, 1, none⟩ (.slice A3 (N.out.length + 1) k3)) lo K' (N.push m) p ∧ Moved w (w3.setCell ⟨p, 1, none⟩ (.slice A3 (N.out.length + 1) k3)) lo K K' := by
  have hpp := z.kb p z.kp
  have hlen : (N.out ++ [m]).length = N.out.length + 1 := by simp
  have hr2 : Ro w3 lo (fun k => Kx K w w3 k ∧ k ≠ p) (.slice A3 (N.push m).out.length k3) (N.push m).out := hr.mono (fun k hk hlt => by
    rcases hk with h | h
    · exact ⟨.inl h.1, h.2⟩
    · exact ⟨.inr ⟨h, hlt⟩, by omega⟩)
  refine ⟨Kx K w w3, ⟨A3, k3, ⟨?_, hr2.far (fun k hk => hk.2) _, .inl z.kp, fun k hk => ?_⟩⟩, ⟨hb.setCell hpp.1 _, ⟨by rw [set_size]; exact hs, fun k hlt hn => ?_⟩, fun k hk => hk.elim .inl (fun h => .inr h.1)⟩⟩
  · rw [blk_set hp]
    show some (Obj.cells #[_, _, _, _, _, _, _] _ _) = _
    simp [enCells, En.push]
  · rw [set_size]
    have := z.low
    rcases hk with hk | hk
    · have := z.kb k hk; omega
    · omega
  · have hne : k ≠ p := by
      intro e
      subst e
      exact hn z.kp
    rw [Below.heap_setCell _ _ _ _ hne]
    exact hk k hlt hn
set_option maxRecDepth 100000 in
theorem linkSend_calls (w : World) (lo : Nat) (KK : Nat → Prop) (N : En) (p : Nat) (B : Option Addr) (d : Nat) (m : List UInt8) (hF : EnFine N) (hE : IsEnd w lo KK N p) (hm : kB.C w B m.length m) (hl : m.length ≤ 65536) :
    Calls Tryz.prog 47 #[.pointer (some ⟨p, 0, none⟩), .slice B m.length d] w fun e w' => e = .returned (.tuple #[]) ∧ ∃ K', IsEnd w' lo K' (N.push m) p ∧ Moved w w' lo KK K' := by
  obtain ⟨A, c, z⟩ := hE
  have HZ := Aside0.mk z
  have HM := Aside0.mk hm
  have HL := Lib.hid hl
  have HO := Lib.hid hF.ol
  obtain ⟨c0, c1, c2, c3, c4, c5, c6⟩ := z.cells
  have f1 := blk_frozen z.blk 1
  clear z hF hm hl c0 c2 c3 c4 c5 c6
  go_enter Tryz.func47, Tryz.ntmps47
  go_wp2
  -- SEND
  refine wp_region_noPanic ?_
  refine wp_region_held_drew (S := fun _ => True) (by kernel_rfl) trivial (fun hHeld => ?_)
  refine wpAnyH_take (i := 0) (v := ?_) rfl (by kernel_rfl) (by kernel_rfl) (by kernel_rfl) (fun _ _ _ h => h) (Or.inl ⟨by rfl, ?_⟩) trivial ?_
  rotate_left 1
  · first | (intro w hSw; go_simp; done) | (intro w hSw; go_simp; with_reducible rfl)
  try simp only [Act.put, List.getElem_toArray, List.getElem_cons_zero, List.getElem_cons_succ, List.setIfInBounds_toArray, List.set_cons_zero, List.set_cons_succ]
  refine wpAnyH_take (i := 1) (v := ?_) rfl (by kernel_rfl) (by kernel_rfl) (by kernel_rfl) (fun _ _ _ h => h) (Or.inl ⟨by rfl, ?_⟩) trivial ?_
  rotate_left 1
  · first | (intro w hSw; go_simp; done) | (intro w hSw; go_simp; with_reducible rfl)
  try simp only [Act.put, List.getElem_toArray, List.getElem_cons_zero, List.getElem_cons_succ, List.setIfInBounds_toArray, List.set_cons_zero, List.set_cons_succ]
  refine wpAnyH_take (i := 2) (v := ?_) rfl (by kernel_rfl) (by kernel_rfl) (by kernel_rfl) (fun _ _ _ h => h) (Or.inl ⟨by rfl, ?_⟩) trivial ?_
  rotate_left 1
  · first | (intro w hSw; go_simp; done) | (intro w hSw; go_simp; with_reducible rfl)
  try simp only [Act.put, List.getElem_toArray, List.getElem_cons_zero, List.getElem_cons_succ, List.setIfInBounds_toArray, List.set_cons_zero, List.set_cons_succ]
  refine wpAnyH_take (i := 3) (v := ?_) rfl (by kernel_rfl) (by kernel_rfl) (by kernel_rfl) (fun _ _ _ h => h) (Or.inl ⟨by rfl, ?_⟩) trivial ?_
  rotate_left 1
  · first | (intro w hSw; go_simp; done) | (intro w hSw; go_simp; with_reducible rfl)
  try simp only [Act.put, List.getElem_toArray, List.getElem_cons_zero, List.getElem_cons_succ, List.setIfInBounds_toArray, List.set_cons_zero, List.set_cons_succ]
  refine wpAnyH_take (i := 5) (v := ?_) rfl (by kernel_rfl) (by kernel_rfl) (by kernel_rfl) (fun _ _ _ h => h) (Or.inl ⟨by rfl, ?_⟩) trivial ?_
  rotate_left 1
  · first | (intro w hSw; go_simp; done) | (intro w hSw; go_simp; with_reducible rfl)
  try simp only [Act.put, List.getElem_toArray, List.getElem_cons_zero, List.getElem_cons_succ, List.setIfInBounds_toArray, List.set_cons_zero, List.set_cons_succ]
  refine wpAnyH_ready (rs := [4, 6]) (by kernel_rfl) (by simp) ?_
  refine AllReadyH.cons rfl (fun K hK => ?_) (AllReadyH.cons rfl (fun K hK => ?_) AllReadyH.nil)
  · skip
    go_simp
    refine hK.out _ _ trivial (fun hHeld => ?_)
    clear hK K
    try simp only [Act.put, List.getElem_toArray, List.getElem_cons_zero, List.getElem_cons_succ, List.setIfInBounds_toArray, List.set_cons_zero, List.set_cons_succ]
    refine wpAnyH_ready (rs := [6]) (by kernel_rfl) (by simp) ?_
    refine AllReadyH.cons rfl (fun K hK => ?_) AllReadyH.nil
    go_simp
    refine (cloneB_calls _ _ _ m (Kd.C_below HM.out (Below.refl _ _).drew) (by have := HL.out; omega)).mono ?_
    intro e w1 hn
    obtain ⟨A1, c1', rfl, hcl, hR, hC, hb⟩ := hn.open_
    have HR1 := Aside0.mk hR
    have HB1 := Aside0.mk (show Below w.heap.size w w1 from below_step (Below.refl _ _).drew hb)
    clear hn hcl hR hC hb
    go_simp
    refine hK.out _ _ trivial (fun hHeld => ?_)
    clear hK K
    try simp only [Act.put, List.getElem_toArray, List.getElem_cons_zero, List.getElem_cons_succ, List.setIfInBounds_toArray, List.set_cons_zero, List.set_cons_succ]
    refine wpAnyH_ready (rs := [7]) (by kernel_rfl) (by simp) ?_
    refine AllReadyH.cons rfl (fun K hK => ?_) AllReadyH.nil
    go_simp
    refine hK.out _ _ trivial (fun hHeld => ?_)
    clear hK K
    try simp only [Act.put, List.getElem_toArray, List.getElem_cons_zero, List.getElem_cons_succ, List.setIfInBounds_toArray, List.set_cons_zero, List.set_cons_succ]
    refine wpAnyH_ready (rs := [8]) (by kernel_rfl) (by simp) ?_
    refine AllReadyH.cons rfl (fun K hK => ?_) AllReadyH.nil
    refine Ro_append_step (W := w1) (w0 := w1) lo rfl _ _ rfl (.slice A N.out.length c) N.out m [.slice A1 m.length c1'] (fun k => KK k ∧ k ≠ p) (fun k => (KK k ∧ k ≠ p) ∨ w.heap.size ≤ k) (fun k => w.heap.size ≤ k) (fun k hk => .inl hk) rfl rfl (Kd.FK_of_M (d := kBs) ⟨_, rfl, Kd.R_mono (Kd.R_bound HR1.out) (fun k hk => hk.2.1)⟩) ?hok (fun k hk => .inr (Nat.le_trans HB1.out.size hk)) (HZ.out.ro.step (fun k _ hlt => HB1.out.block k hlt)) (Below.refl _ _) (Nat.le_trans HZ.out.low HB1.out.size) (by have := HO.out; omega) ?_
    case hok =>
      intro k hk
      exact ⟨.inr hk, fun h => by have := (HZ.out.kb k h.1).2; omega⟩
    intro v3 w3 hr3 hb3 hs3 hk3
    obtain ⟨A3, k3, hv3, _, _⟩ := hr3.reads
    subst hv3
    have HR3 := Aside0.mk hr3
    have HB3 := Aside0.mk hb3
    have HP3 := Aside0.mk (show w3.heap[p]? = some (.cells (enCells N A c) 104 (0, 0)) from (hk3 p (Nat.lt_of_lt_of_le (HZ.out.kb p HZ.out.kp).2 HB1.out.size) (fun e => e.elim (fun e => e.2 rfl) (fun e => by have := (HZ.out.kb p HZ.out.kp).2; omega))).trans ((HB1.out.block p (HZ.out.kb p HZ.out.kp).2).trans HZ.out.blk))
    have HK3 := Lib.hid (show ∀ k, k < w.heap.size → ¬ KK k → w3.heap[k]? = w.heap[k]? from fun k hk hn => (hk3 k (Nat.lt_of_lt_of_le hk HB1.out.size) (fun e => e.elim (fun e => hn e.1) (fun e => by omega))).trans (HB1.out.block k hk))
    have HS3 := Lib.hid (Nat.le_trans HB1.out.size hs3)
    clear hr3 hb3 hs3 hk3
    refine hK.out _ _ trivial (fun hHeld => ?_)
    clear hK K
    try simp only [Act.put, List.getElem_toArray, List.getElem_cons_zero, List.getElem_cons_succ, List.setIfInBounds_toArray, List.set_cons_zero, List.set_cons_succ]
    refine wpAnyH_take (i := 9) (v := ?_) rfl (by kernel_rfl) (by kernel_rfl) (by kernel_rfl) (fun _ _ _ h => h) (Or.inl ⟨by rfl, ?_⟩) trivial ?_
    rotate_left 1
    · first | (intro w hSw; go_simp; done) | (intro w hSw; go_simp; with_reducible rfl)
    try simp only [Act.put, List.getElem_toArray, List.getElem_cons_zero, List.getElem_cons_succ, List.setIfInBounds_toArray, List.set_cons_zero, List.set_cons_succ]
    refine wpAnyH_take (i := 10) (v := ?_) rfl (by kernel_rfl) (by kernel_rfl) (by kernel_rfl) (fun _ _ _ h => h) (Or.inl ⟨by rfl, ?_⟩) trivial ?_
    rotate_left 1
    · first | (intro w hSw; go_simp; done) | (intro w hSw; go_simp; with_reducible rfl)
    try simp only [Act.put, List.getElem_toArray, List.getElem_cons_zero, List.getElem_cons_succ, List.setIfInBounds_toArray, List.set_cons_zero, List.set_cons_succ]
    refine wpAnyH_ready (rs := [11]) (by kernel_rfl) (by simp) ?_
    refine AllReadyH.cons rfl (fun K hK => ?_) AllReadyH.nil
    have d1 : w3.cell? ⟨p, 1, none⟩ = some (.slice A N.out.length c) := blk_cell HP3.out 1
    have e1 := blk_frozen HP3.out 1
    go_simp
    refine hK.out _ _ trivial (fun hHeld => ?_)
    clear hK K
    try simp only [Act.put, List.getElem_toArray, List.getElem_cons_zero, List.getElem_cons_succ, List.setIfInBounds_toArray, List.set_cons_zero, List.set_cons_succ]
    refine wpAnyH_done (by kernel_rfl) ?_ _
    refine NoPanic.normal ?_
    go_wp2
    refine bodyPost_end (v := .tuple #[]) (by simp [results, Tryz.results47, go_sem]) rfl ?_
    obtain ⟨K9, hz9, hmv⟩ := send_end (m := m) HZ.out HR3.out HP3.out HK3.out HS3.out ((HB1.out.mono HZ.out.low).trans HB3.out)
    exact ⟨rfl, K9, hz9, hmv⟩
  · skip
    go_simp
    refine (cloneB_calls _ _ _ m (Kd.C_below HM.out (Below.refl _ _).drew) (by have := HL.out; omega)).mono ?_
    intro e w1 hn
    obtain ⟨A1, c1', rfl, hcl, hR, hC, hb⟩ := hn.open_
    have HR1 := Aside0.mk hR
    have HB1 := Aside0.mk (show Below w.heap.size w w1 from below_step (Below.refl _ _).drew hb)
    clear hn hcl hR hC hb
    go_simp
    refine hK.out _ _ trivial (fun hHeld => ?_)
    clear hK K
    try simp only [Act.put, List.getElem_toArray, List.getElem_cons_zero, List.getElem_cons_succ, List.setIfInBounds_toArray, List.set_cons_zero, List.set_cons_succ]
    refine wpAnyH_ready (rs := [4, 7]) (by kernel_rfl) (by simp) ?_
    refine AllReadyH.cons rfl (fun K hK => ?_) (AllReadyH.cons rfl (fun K hK => ?_) AllReadyH.nil)
    · skip
      have c1 := (HB1.out.cell (p := ⟨p, 1, none⟩) (HZ.out.kb p HZ.out.kp).2).trans (HZ.out.cells).2.1
      go_simp
      refine hK.out _ _ trivial (fun hHeld => ?_)
      clear hK K
      try simp only [Act.put, List.getElem_toArray, List.getElem_cons_zero, List.getElem_cons_succ, List.setIfInBounds_toArray, List.set_cons_zero, List.set_cons_succ]
      refine wpAnyH_ready (rs := [7]) (by kernel_rfl) (by simp) ?_
      refine AllReadyH.cons rfl (fun K hK => ?_) AllReadyH.nil
      go_simp
      refine hK.out _ _ trivial (fun hHeld => ?_)
      clear hK K
      try simp only [Act.put, List.getElem_toArray, List.getElem_cons_zero, List.getElem_cons_succ, List.setIfInBounds_toArray, List.set_cons_zero, List.set_cons_succ]
      refine wpAnyH_ready (rs := [8]) (by kernel_rfl) (by simp) ?_
      refine AllReadyH.cons rfl (fun K hK => ?_) AllReadyH.nil
      refine Ro_append_step (W := w1) (w0 := w1) lo rfl _ _ rfl (.slice A N.out.length c) N.out m [.slice A1 m.length c1'] (fun k => KK k ∧ k ≠ p) (fun k => (KK k ∧ k ≠ p) ∨ w.heap.size ≤ k) (fun k => w.heap.size ≤ k) (fun k hk => .inl hk) rfl rfl (Kd.FK_of_M (d := kBs) ⟨_, rfl, Kd.R_mono (Kd.R_bound HR1.out) (fun k hk => hk.2.1)⟩) ?hok (fun k hk => .inr (Nat.le_trans HB1.out.size hk)) (HZ.out.ro.step (fun k _ hlt => HB1.out.block k hlt)) (Below.refl _ _) (Nat.le_trans HZ.out.low HB1.out.size) (by have := HO.out; omega) ?_
      case hok =>
        intro k hk
        exact ⟨.inr hk, fun h => by have := (HZ.out.kb k h.1).2; omega⟩
      intro v3 w3 hr3 hb3 hs3 hk3
      obtain ⟨A3, k3, hv3, _, _⟩ := hr3.reads
      subst hv3
      have HR3 := Aside0.mk hr3
      have HB3 := Aside0.mk hb3
      have HP3 := Aside0.mk (show w3.heap[p]? = some (.cells (enCells N A c) 104 (0, 0)) from (hk3 p (Nat.lt_of_lt_of_le (HZ.out.kb p HZ.out.kp).2 HB1.out.size) (fun e => e.elim (fun e => e.2 rfl) (fun e => by have := (HZ.out.kb p HZ.out.kp).2; omega))).trans ((HB1.out.block p (HZ.out.kb p HZ.out.kp).2).trans HZ.out.blk))
      have HK3 := Lib.hid (show ∀ k, k < w.heap.size → ¬ KK k → w3.heap[k]? = w.heap[k]? from fun k hk hn => (hk3 k (Nat.lt_of_lt_of_le hk HB1.out.size) (fun e => e.elim (fun e => hn e.1) (fun e => by omega))).trans (HB1.out.block k hk))
      have HS3 := Lib.hid (Nat.le_trans HB1.out.size hs3)
      clear hr3 hb3 hs3 hk3
      refine hK.out _ _ trivial (fun hHeld => ?_)
      clear hK K
      try simp only [Act.put, List.getElem_toArray, List.getElem_cons_zero, List.getElem_cons_succ, List.setIfInBounds_toArray, List.set_cons_zero, List.set_cons_succ]
      refine wpAnyH_take (i := 9) (v := ?_) rfl (by kernel_rfl) (by kernel_rfl) (by kernel_rfl) (fun _ _ _ h => h) (Or.inl ⟨by rfl, ?_⟩) trivial ?_
      rotate_left 1
      · first | (intro w hSw; go_simp; done) | (intro w hSw; go_simp; with_reducible rfl)
      try simp only [Act.put, List.getElem_toArray, List.getElem_cons_zero, List.getElem_cons_succ, List.setIfInBounds_toArray, List.set_cons_zero, List.set_cons_succ]
      refine wpAnyH_take (i := 10) (v := ?_) rfl (by kernel_rfl) (by kernel_rfl) (by kernel_rfl) (fun _ _ _ h => h) (Or.inl ⟨by rfl, ?_⟩) trivial ?_
      rotate_left 1
      · first | (intro w hSw; go_simp; done) | (intro w hSw; go_simp; with_reducible rfl)
      try simp only [Act.put, List.getElem_toArray, List.getElem_cons_zero, List.getElem_cons_succ, List.setIfInBounds_toArray, List.set_cons_zero, List.set_cons_succ]
      refine wpAnyH_ready (rs := [11]) (by kernel_rfl) (by simp) ?_
      refine AllReadyH.cons rfl (fun K hK => ?_) AllReadyH.nil
      have d1 : w3.cell? ⟨p, 1, none⟩ = some (.slice A N.out.length c) := blk_cell HP3.out 1
      have e1 := blk_frozen HP3.out 1
      go_simp
      refine hK.out _ _ trivial (fun hHeld => ?_)
      clear hK K
      try simp only [Act.put, List.getElem_toArray, List.getElem_cons_zero, List.getElem_cons_succ, List.setIfInBounds_toArray, List.set_cons_zero, List.set_cons_succ]
      refine wpAnyH_done (by kernel_rfl) ?_ _
      refine NoPanic.normal ?_
      go_wp2
      refine bodyPost_end (v := .tuple #[]) (by simp [results, Tryz.results47, go_sem]) rfl ?_
      obtain ⟨K9, hz9, hmv⟩ := send_end (m := m) HZ.out HR3.out HP3.out HK3.out HS3.out ((HB1.out.mono HZ.out.low).trans HB3.out)
      exact ⟨rfl, K9, hz9, hmv⟩
    · skip
      go_simp
      refine hK.out _ _ trivial (fun hHeld => ?_)
      clear hK K
      try simp only [Act.put, List.getElem_toArray, List.getElem_cons_zero, List.getElem_cons_succ, List.setIfInBounds_toArray, List.set_cons_zero, List.set_cons_succ]
      refine wpAnyH_ready (rs := [4]) (by kernel_rfl) (by simp) ?_
      refine AllReadyH.cons rfl (fun K hK => ?_) AllReadyH.nil
      have c1 : (w1.alloc (.cells #[.slice A1 m.length c1'] 68)).cell? ⟨p, 1, none⟩ = some (.slice A N.out.length c) := ((below_alloc HB1.out (.cells #[.slice A1 m.length c1'] 68)).cell (p := ⟨p, 1, none⟩) (HZ.out.kb p HZ.out.kp).2).trans (HZ.out.cells).2.1
      go_simp
      refine hK.out _ _ trivial (fun hHeld => ?_)
      clear hK K
      try simp only [Act.put, List.getElem_toArray, List.getElem_cons_zero, List.getElem_cons_succ, List.setIfInBounds_toArray, List.set_cons_zero, List.set_cons_succ]
      refine wpAnyH_ready (rs := [8]) (by kernel_rfl) (by simp) ?_
      refine AllReadyH.cons rfl (fun K hK => ?_) AllReadyH.nil
      refine Ro_append_step (W := w1) (w0 := w1) lo rfl _ _ rfl (.slice A N.out.length c) N.out m [.slice A1 m.length c1'] (fun k => KK k ∧ k ≠ p) (fun k => (KK k ∧ k ≠ p) ∨ w.heap.size ≤ k) (fun k => w.heap.size ≤ k) (fun k hk => .inl hk) rfl rfl (Kd.FK_of_M (d := kBs) ⟨_, rfl, Kd.R_mono (Kd.R_bound HR1.out) (fun k hk => hk.2.1)⟩) ?hok (fun k hk => .inr (Nat.le_trans HB1.out.size hk)) (HZ.out.ro.step (fun k _ hlt => HB1.out.block k hlt)) (Below.refl _ _) (Nat.le_trans HZ.out.low HB1.out.size) (by have := HO.out; omega) ?_
      case hok =>
        intro k hk
        exact ⟨.inr hk, fun h => by have := (HZ.out.kb k h.1).2; omega⟩
      intro v3 w3 hr3 hb3 hs3 hk3
      obtain ⟨A3, k3, hv3, _, _⟩ := hr3.reads
      subst hv3
      have HR3 := Aside0.mk hr3
      have HB3 := Aside0.mk hb3
      have HP3 := Aside0.mk (show w3.heap[p]? = some (.cells (enCells N A c) 104 (0, 0)) from (hk3 p (Nat.lt_of_lt_of_le (HZ.out.kb p HZ.out.kp).2 HB1.out.size) (fun e => e.elim (fun e => e.2 rfl) (fun e => by have := (HZ.out.kb p HZ.out.kp).2; omega))).trans ((HB1.out.block p (HZ.out.kb p HZ.out.kp).2).trans HZ.out.blk))
      have HK3 := Lib.hid (show ∀ k, k < w.heap.size → ¬ KK k → w3.heap[k]? = w.heap[k]? from fun k hk hn => (hk3 k (Nat.lt_of_lt_of_le hk HB1.out.size) (fun e => e.elim (fun e => hn e.1) (fun e => by omega))).trans (HB1.out.block k hk))
      have HS3 := Lib.hid (Nat.le_trans HB1.out.size hs3)
      clear hr3 hb3 hs3 hk3
      refine hK.out _ _ trivial (fun hHeld => ?_)
      clear hK K
      try simp only [Act.put, List.getElem_toArray, List.getElem_cons_zero, List.getElem_cons_succ, List.setIfInBounds_toArray, List.set_cons_zero, List.set_cons_succ]
      refine wpAnyH_take (i := 9) (v := ?_) rfl (by kernel_rfl) (by kernel_rfl) (by kernel_rfl) (fun _ _ _ h => h) (Or.inl ⟨by rfl, ?_⟩) trivial ?_
      rotate_left 1
      · first | (intro w hSw; go_simp; done) | (intro w hSw; go_simp; with_reducible rfl)
      try simp only [Act.put, List.getElem_toArray, List.getElem_cons_zero, List.getElem_cons_succ, List.setIfInBounds_toArray, List.set_cons_zero, List.set_cons_succ]
      refine wpAnyH_take (i := 10) (v := ?_) rfl (by kernel_rfl) (by kernel_rfl) (by kernel_rfl) (fun _ _ _ h => h) (Or.inl ⟨by rfl, ?_⟩) trivial ?_
      rotate_left 1
      · first | (intro w hSw; go_simp; done) | (intro w hSw; go_simp; with_reducible rfl)
      try simp only [Act.put, List.getElem_toArray, List.getElem_cons_zero, List.getElem_cons_succ, List.setIfInBounds_toArray, List.set_cons_zero, List.set_cons_succ]
      refine wpAnyH_ready (rs := [11]) (by kernel_rfl) (by simp) ?_
      refine AllReadyH.cons rfl (fun K hK => ?_) AllReadyH.nil
      have d1 : w3.cell? ⟨p, 1, none⟩ = some (.slice A N.out.length c) := blk_cell HP3.out 1
      have e1 := blk_frozen HP3.out 1
      go_simp
      refine hK.out _ _ trivial (fun hHeld => ?_)
      clear hK K
      try simp only [Act.put, List.getElem_toArray, List.getElem_cons_zero, List.getElem_cons_succ, List.setIfInBounds_toArray, List.set_cons_zero, List.set_cons_succ]
      refine wpAnyH_done (by kernel_rfl) ?_ _
      refine NoPanic.normal ?_
      go_wp2
      refine bodyPost_end (v := .tuple #[]) (by simp [results, Tryz.results47, go_sem]) rfl ?_
      obtain ⟨K9, hz9, hmv⟩ := send_end (m := m) HZ.out HR3.out HP3.out HK3.out HS3.out ((HB1.out.mono HZ.out.low).trans HB3.out)
      exact ⟨rfl, K9, hz9, hmv⟩
end Go.Proofs.YtadaoplmicghcaaGreatDoor.Lk
namespace Go.Proofs.YtadaoplmicghcaaGreatDoor.Lk
open Go.RowKit Go.Proofs.YtadaoplmicghcaaGreatDoorW.PrintWords Go.Proofs.YtadaoplmicghcaaGreatDoorW.PrintLast Go.Proofs.YtadaoplmicghcaaGreatDoorW.PrintMore
attribute [local go_sem] max2_int min2_int max_two min_two
set_option linter.unusedVariables false
set_option linter.unusedSimpArgs false
theorem Moved.drewN (w : World) (lo : Nat) (K : Nat → Prop) (n : Nat) : Moved w (w.drewN n) lo K K := ⟨pw_below_drewN (Below.refl _ _) _, ⟨Nat.le_refl _, fun _ _ _ => rfl⟩, fun _ h => .inl h⟩
theorem Below.keeps {B : Nat} {w w' : World} (h : Below B w w') {p : Addr} {v : Value} (hc : w.cell? p = some v) (hp : p.block < B) : w'.cell? p = some v := (h.cell hp).trans hc
theorem EnFine.push {N : En} (h : EnFine N) (m : List UInt8) (hl : N.out.length < 100000) : EnFine (N.push m) := ⟨h.w1, h.w2, by simp [En.push]; omega, by have := h.so1; simp [En.push]; omega, h.to1, h.gl, h.sg1⟩
set_option maxRecDepth 100000 in
theorem linkPush_calls (w : World) (lo : Nat) (K : Nat → Prop) (N : En) (p : Nat) (B : Option Addr) (d : Nat) (m : List UInt8) (hF : EnFine N) (hE : IsEnd w lo K N p) (hm : kB.C w B m.length m) (hl : m.length ≤ 65536) (hq : N.out.length < N.tld + 4096) :
    Calls Tryz.prog 23 #[.pointer (some ⟨p, 0, none⟩), .slice B m.length d] w fun e w' => e = .returned .nilIface ∧ ∃ K', IsEnd w' lo K' (N.push m) p ∧ Moved w w' lo K K' := by
  have HE := Aside0.mk hE
  have HF := Lib.hid hF
  have HM := Aside0.mk hm
  have HL := Lib.hid hl
  obtain ⟨A, c, z⟩ := hE
  obtain ⟨c0, c1, c2, c3, c4, c5, c6⟩ := z.cells
  have h1 := hF.ol
  have h2 := hF.so1
  have h3 := hF.to1
  have b0 : (m.length : Int) ≤ 65536 := by omega
  have b1 : decide ((m.length : Int) > 65536) = false := decide_eq_false (by omega)
  have b2 : (N.out.length : Int) ≤ 100000 := by omega
  have b3 : (N.tld : Int) ≤ N.out.length := by omega
  have b4 : decide ((N.out.length : Int) - N.tld ≥ 4096) = false := decide_eq_false (by omega)
  have b5 : (0 : Int) ≤ N.tld := by omega
  obtain ⟨y, hy⟩ : ∃ y, y = (N.tld : Int) := ⟨_, rfl⟩
  rw [← hy] at c3 b3 b4 b5
  clear z hF hm hl c0 c2 c4 c5 c6 h1 h2 h3 hq hy
  go_enter Tryz.func23, Tryz.ntmps23
  go_wp2
  go_quiet (fail)
  go_wp2_with (go_at_call 47; refine (linkSend_calls _ lo K N p _ _ m HF.out (HE.out.stay (pw_below_drewN (Below.refl _ _) _)) (Kd.C_drewN HM.out _) HL.out).mono ?_; rintro e w2 ⟨rfl, K2, hz2, hmv⟩; have HZ2 := Aside0.mk hz2; have HMV := Aside0.mk hmv; clear hz2 hmv)
  go_ret
  exact ⟨rfl, K2, HZ2.out, (Moved.drewN _ _ _ _).trans HMV.out⟩
/-- What a packet holds. -/
def wl (N : En) : List (List UInt8) := (N.out.take (min N.so (N.tld + N.win))).drop N.tld
def putAll (b : List UInt8) (l : List (List UInt8)) : List UInt8 := l.foldl (fun b m => b ++ uintsF m.length ++ m) b
theorem putAll_step (b : List UInt8) (l : List (List UInt8)) (k : Nat) (h : k < l.length) : putAll b (l.take (k + 1)) = putAll b (l.take k) ++ uintsF (gl l k).length ++ gl l k := by
  unfold putAll
  rw [List.take_succ_eq_append_getElem h, List.foldl_append, gl_get l k h]
  rfl
def pkt (N : En) : List UInt8 := putAll (uintsF N.sg ++ uintsF N.tld) (wl N)
theorem L_win {w : World} {A : Option Addr} {c lo hi : Nat} {l : List (List UInt8)} (h : kBs.C w A l.length l) (h1 : lo ≤ hi) (h2 : hi ≤ l.length) (hc : l.length ≤ c) :
    ∃ A', (∀ W : World, (Instr.slice 79 (.slice A l.length c) (some (.int .i64 (lo : Int))) (some (.int .i64 (hi : Int))) none).run Tryz.prog W = .ok (.slice A' ((l.take hi).drop lo).length (c - lo)) W) ∧ kBs.C w A' ((l.take hi).drop lo).length ((l.take hi).drop lo) := by
  have hl : ((l.take hi).drop lo).length = hi - lo := by rw [List.length_drop, List.length_take]; omega
  have hC := Kd.C_mid (k := kBs) h h1 h2 hc
  refine ⟨if c = lo then A else A.map (·.add (lo * kBs.sz)), fun W => ?_, hC⟩
  obtain ⟨i0, hi0, hz0, hz1, hz2⟩ := info_parts info6
  have ht := Tryz.underlying79
  have hel : Tryz.prog.elem 79 = 68 := by simp [Program.elem, ht]
  have hu : Tryz.prog.underlying 79 = some (.slice (Tryz.prog.elem 79)) := by rw [hel]; exact ht
  rw [run_slice_lh (w := W) 79 A l.length c hu .i64 .i64 (lo : Int) (hi : Int) (by omega) (by omega) (by omega), hel, hl]
  have e1 : kBs.sz = 1 := rfl
  simp [sizeOf, typeInfo, hi0, hz1, sliced, Result.andThen, e1]
end Go.Proofs.YtadaoplmicghcaaGreatDoor.Lk
