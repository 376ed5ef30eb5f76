/- For every list of numbers and every script of calls (0: Begin, 1: Hear, else Done): New, Begin, Hear and Done answer just what the document says, with just its errors. Conditions: none beside the card's own: the variable errors.errorType starts as the program's text lays it (more than 50 numbers or 100 calls answer true). -/
import Derived.Test.YtpnokpoikhpiiaaDoorRows
import Derived.Test.YtpnokpoikhpiiaaDoorDWRuns
import Derived.Test.YtpnokpoikhpiiaaDoorLaidW
import Derived.Test.YtpnokpoikhpiiaaDoorTie
import Derived.Test.YtpnokpoikhpiiaaDoorCards
import Derived.SevenTiedAt
import Derived.Deep.SlicePairs
import Derived.WalkKit
import Derived.ProofKit
import Derived.OpenShut
import Derived.ShutString
import Derived.ChangeOld
import Derived.Below
namespace Go.Proofs.YtpnokpoikhpiiaaDoor.waveRuns
open Go.Proofs.YtpnokpoikhpiiaaDoorW.PrintWords Go.Proofs.YtpnokpoikhpiiaaDoorW.PrintLast Go.Proofs.YtpnokpoikhpiiaaDoorW.PrintMore
open Go.ChangeShapes Go.WideShapes Go.ChangeAt Go.RowKit
open Go.ChangeMaps (open_string shut_string)
set_option linter.unusedVariables false

theorem own : ownKnob Tryd.prog.godebug = none := by kernel_rfl
theorem laidOut : laidOutB Tryd.prog = true := by kernel_rfl

/-- WHAT THE WALK IS TOLD OF A SLICE OF INTEGERS THAT CAME IN: it is nil; or it leads to a row of 'cap' cells, the numbers 'zs' (the first 'len' are its elements, the rest its spare room), each fitting its kind. -/
def IsRow (k : IntKind) (w : World) (a : Option Addr) (len cap : Nat) (zs : List Int) : Prop :=
  (a = none ∧ len = 0 ∧ cap = 0 ∧ zs = []) ∨
  ∃ x, a = some x ∧ len ≤ cap ∧ cap ≤ maxLen ∧ zs.length = cap ∧ (∀ i, i < zs.length → w.cell? (x.add i) = some (.int k (zs.getD i 0))) ∧ ∀ n ∈ zs, (Lit.int k n).wf = true

/-! ### THE ROW's STEP: WRITTEN OUT: LEAVE IT -/
set_option maxRecDepth 100000 in
theorem lifted (os : Os) (started : os.Started) (H : Type) (enc : TypeId × Value → H) :
    ReturnsInHanded {} Tryd.checked os 3 .any (fun w args => (Rows.waveRunsSpec.pre enc Tryd.prog Tryd.f3 [] false w args ∧ laidMetH Tryd.prog seatLaid w) ∧ sizedMet enc Tryd.prog Tryd.f3 (OpenSpec.ofChange Rows.waveRunsSpec) false w args) (Rows.waveRunsSpec.post enc Tryd.prog Tryd.f3 false true false false) := by
  refine returnsInHanded_of_change_and (C := Tryd.checked) (X := fun w _ => laidMetH Tryd.prog seatLaid w) (fun _ _ _ hh h => h.of_heap hh) own started (by kernel_rfl) Tryd.func3
    (ChangeSpec.witness_at (enc := enc) (C := Tryd.checked) (os := os) (X := fun w _ => laidMetH Tryd.prog seatLaid w) false (laidWorld os) #[.slice none 0 0, .slice none 0 0] 8 rfl (by kernel_rfl) (by kernel_rfl) (by kernel_rfl) (by kernel_rfl) (by kernel_rfl) (laidWorld_met os _)) ?_
  intro W base args ds gs before hval0 hW _ _ hL _
  have hval : ∀ (j : Nat) t v, Tryd.f3.params[j]? = some t → args[j]? = some v → Value.okWide Tryd.prog W .any base t v := hval0
  have hW' := hW
  obtain ⟨p, q, hA0, hV, rfl, hfz, hnd⟩ := hW
  have hA : DataW.TrodAll enc Tryd.prog W 0 (fun _ => true) true Tryd.f3.params.toList args.toList ds p := hA0
  rw [Tryd.params3] at hA hval
  obtain ⟨v0, vs0, d0, ds0, p0, q0, hargs, rfl, rfl, h0, r0⟩ := trodAll_cons hA
  obtain ⟨v1, vs1, d1, ds1, p1, q1, rfl, rfl, rfl, h1, r1⟩ := trodAll_cons r0
  obtain ⟨rfl, rfl, rfl⟩ := trodAll_nil r1
  obtain rfl : args = #[v0, v1] := by cases args; simp_all
  obtain ⟨rfl, rfl⟩ := trodVars_none hV
  obtain ⟨a0, len0, cap0, rfl⟩ := okWide_slice Tryd.underlying22 (hval 0 22 v0 rfl rfl)
  have k0 := h0
  have lt0 : ∀ x ∈ p0, x.block < W.heap.size := by obtain ⟨m, hm⟩ := k0; exact DataW.trod_lt m _ _ _ hm
  obtain ⟨z0, w0⟩ : ∃ zs, IsRow .i64 W a0 len0 cap0 zs := by
    obtain ⟨fuel, hf⟩ := h0
    rcases open_ints Tryd.underlying22 Tryd.underlying3 (by kernel_rfl) hf with ⟨hcs, _⟩ | ⟨x, l, c, zs, hcs, _, hl, hm, hz, _, hcell, hwz⟩
    · simp [Value.cells] at hcs
      obtain ⟨rfl, rfl, rfl⟩ := hcs
      exact ⟨[], .inl ⟨rfl, rfl, rfl, rfl⟩⟩
    · simp [Value.cells] at hcs
      obtain ⟨rfl, rfl, rfl⟩ := hcs
      exact ⟨zs, .inr ⟨_, rfl, hl, hm, by simpa using hz, hcell, hwz⟩⟩
  obtain ⟨a1, len1, cap1, rfl⟩ := okWide_slice Tryd.underlying23 (hval 1 23 v1 rfl rfl)
  have k1 := h1
  have lt1 : ∀ x ∈ p1, x.block < W.heap.size := by obtain ⟨m, hm⟩ := k1; exact DataW.trod_lt m _ _ _ hm
  obtain ⟨ops, hops, hC⟩ : ∃ ops : List (Int × Int), ops.length = len1 ∧ kOp.C W a1 ops.length ops := by
    obtain ⟨fuel, hf⟩ := h1
    rcases Go.Deep.open_slice_pairs Tryd.underlying23 Tryd.underlying40 (by kernel_rfl) rfl rfl (by kernel_rfl) (by kernel_rfl) hf with ⟨hcs, _⟩ | ⟨a, len, cap, m, k, V0, V1, D0, D1, P0, P1, hcs, _, hl, hm, hmm, _, hall⟩
    · simp [Value.cells] at hcs
      obtain ⟨rfl, rfl, rfl⟩ := hcs
      exact ⟨[], rfl, ⟨rfl, by decide, fun h => absurd h (by decide)⟩⟩
    · simp [Value.cells] at hcs
      obtain ⟨rfl, rfl, rfl⟩ := hcs
      simp only [if_true] at hmm
      have hint : ∀ i, i < len1 → V0 i = .int .i64 (intOf (V0 i)) ∧ V1 i = .int .i64 (intOf (V1 i)) := fun i hi => by
        obtain ⟨x, e1, _, _⟩ := DataW.trod_int Tryd.underlying3 (hall i (by omega)).2.2.1
        obtain ⟨y, e2, _, _⟩ := DataW.trod_int Tryd.underlying3 (hall i (by omega)).2.2.2
        simp only [List.cons.injEq, and_true] at e1 e2
        rw [e1, e2]
        exact ⟨rfl, rfl⟩
      have hmx : maxLen = 9223372036854775807 := rfl
      refine ⟨(List.range len1).map fun i => (intOf (V0 i), intOf (V1 i)), by simp, ⟨rfl, by simp; omega, fun hn => ⟨a, rfl, fun j p hj => ?_⟩⟩⟩
      rw [List.getElem?_map] at hj
      have hjl : j < len1 := by
        rcases Nat.lt_or_ge j len1 with h' | h'
        · exact h'
        · rw [List.getElem?_eq_none (by simpa using h')] at hj
          cases hj
      rw [List.getElem?_range hjl] at hj
      simp only [Option.map_some, Option.some.injEq] at hj
      subst hj
      obtain ⟨c1, c2, _, _⟩ := hall j (by omega)
      obtain ⟨e1, e2⟩ := hint j hjl
      refine ⟨[.int .i64 (intOf (V0 j)), .int .i64 (intOf (V1 j))], rfl, ⟨[.int .i64 (intOf (V0 j))], [.int .i64 (intOf (V1 j))], rfl, rfl, rfl⟩, fun i u hu => ?_⟩
      have es : kOp.sz = 2 := rfl
      rcases i with _ | _ | i
      · simp at hu
        subst hu
        rw [es, Nat.add_zero, c1]
        exact congrArg some e1
      · simp at hu
        subst hu
        rw [es, c2]
        exact congrArg some e2
      · simp at hu
  subst hops
  clear hA0 hval0
  obtain ⟨l, rfl, g1, g2, g3, g4⟩ := ReadsInt.ofRowC w0
  refine (waveRuns_calls W (handle_of_laid hL) a0 a1 cap0 cap1 l ops (Kd.C_of_reads (enc := Value.int .i64) (d := 0) g1) g4 hC).mono fun e W' ⟨he, bel⟩ => ?_
  subst he
  exact ⟨_, rfl, _, _, _, [], _, [], hW', trodAll_mk1 (shut_bool Tryd.underlying4 _), (trodAll_cons_mk (Below.trod laidOut (by kernel_rfl) (of_decide_eq_true (by kernel_rfl)) k0 bel lt0) (trodAll_cons_mk (Below.trod laidOut (by kernel_rfl) (of_decide_eq_true (by kernel_rfl)) k1 bel lt1) trodAll_mk0)), rfl, bel.frame _, fun h => by cases h⟩

theorem over : Rows.waveRunsRow.holds Tryd.pinned (OpenSpec.ofChange Rows.waveRunsSpec) :=
  OpenClaim.holds_of_wide 3 Tryd.f3 rfl rfl rfl rfl rfl rfl rfl ⟨rfl, rfl, rfl, rfl, rfl⟩ rfl rfl rfl rfl rfl (by kernel_rfl) Tryd.func3 (by kernel_rfl)
    (of_decide_eq_true (by kernel_rfl)) (by unfold Func.isWrapper; first | (rw [if_pos (by decide +kernel)]; kernel_rfl) | (rw [if_neg (by decide +kernel)]; exact ⟨rfl, rfl⟩))
    (fun os started H enc _ => lifted os started H enc)

/-- ████ THE STATEMENT: the card: the row, its one listed variable tied to the program's text. ████ -/
theorem proved : Rows.WaveRunsCardSaid :=
  Claim7.holds_tied_plain_at .later [] [.handle] true (true, "c9cf173d0d561c82b2ff9af29781fb2df402c8207129f197b08c455ad5056147") true
    over (fun _ h => by cases h) (by kernel_rfl) (fun _ h => by cases h) waveRuns_row_tie rfl ⟨rfl, rfl⟩ (by kernel_rfl) rfl
    (fun f fn hf hfn => by
      obtain rfl : f = 3 := Option.some.inj ((show Tryd.prog.funcNamed "aviary/aviarylaw19.WaveRuns" = some 3 by kernel_rfl).symm.trans hf) |>.symm
      obtain rfl : fn = Tryd.f3 := (Option.some.inj (Tryd.func3.symm.trans hfn)).symm
      exact ⟨by kernel_rfl, fun j t ht => by
        rw [Tryd.params3] at ht
        rcases j with _ | _ | j
        · obtain rfl : t = 22 := by simpa using ht.symm
          exact (show Tryd.prog.wantsStandIn 22 = false by kernel_rfl)
        · obtain rfl : t = 23 := by simpa using ht.symm
          exact (show Tryd.prog.wantsStandIn 23 = false by kernel_rfl)
        · simp at ht⟩)
    (by kernel_rfl)
#print axioms proved
end Go.Proofs.YtpnokpoikhpiiaaDoor.waveRuns
