/- For every graph that is a tree, and every list of choices: in whatever order its nodes begin and words are heard, each neighbour is told once, no node is done before all have begun, and in the end all are (and the law answers true, whatever it is handed). Conditions: none. -/
import Derived.Test.YtpnokpoikhpiiaaRows
import Derived.Test.YtpnokpoikhpiiaaTrO
import Derived.Test.YtpnokpoikhpiiaaTrT
import Derived.WalkKit
import Derived.ProofKit
import Derived.OpenShut
import Derived.ShutString
import Derived.ChangeOld
import Derived.Below
namespace Go.Proofs.Ytpnokpoikhpiiaa.waveTrees
open Go.Proofs.YtpnokpoikhpiiaaW.PrintWords Go.Proofs.YtpnokpoikhpiiaaW.PrintLast Go.Proofs.YtpnokpoikhpiiaaW.PrintMore
open Go.ChangeShapes Go.WideShapes Go.ChangeAt Go.RowKit
open Go.ChangeMaps (open_string shut_string)
set_option linter.unusedVariables false

theorem own : ownKnob Try.prog.godebug = none := by kernel_rfl
theorem laidOut : laidOutB Try.prog = true := by kernel_rfl

set_option maxRecDepth 100000 in
theorem lifted (os : Os) (started : os.Started) (H : Type) (enc : TypeId × Value → H) :
    ReturnsInHanded {} Try.checked os 3 .any (Rows.waveTreesSpec.pre6 enc Try.prog Try.f3 Rows.waveTreesRow.domain false) (Rows.waveTreesSpec.post enc Try.prog Try.f3 false true false false) := by
  refine returnsInHanded_of_change (C := Try.checked) own started (by kernel_rfl) Try.func3
    (ChangeSpec.witness6 (enc := enc) (C := Try.checked) false ⟨#[], #[.agg #[.slice none 0 0, .slice none 0 0], .slice none 0 0], []⟩ 8 (by kernel_rfl) (by kernel_rfl) (by kernel_rfl) (by kernel_rfl)) ?_
  intro W base args ds gs before hval0 hW hcnd _
  have hval : ∀ (j : Nat) t v, Try.f3.params[j]? = some t → args[j]? = some v → Value.okWide Try.prog W .any base t v := hval0
  have hW' := hW
  obtain ⟨p, q, hA0, hV, rfl, hfz, hnd⟩ := hW
  have hA : DataW.TrodAll enc Try.prog W 0 (fun _ => true) true Try.f3.params.toList args.toList ds p := hA0
  rw [Try.params3] at hA hval
  obtain ⟨v0, vs0, d0, ds0, p0, q0, hargs, rfl, rfl, h0, r0⟩ := trodAll_cons hA
  obtain ⟨v1, vs1, d1, ds1, p1, q1, hargs1, rfl, rfl, h1, r1⟩ := trodAll_cons r0
  obtain ⟨rfl, rfl, rfl⟩ := trodAll_nil r1
  obtain rfl : args = #[v0, v1] := by cases args; simp_all
  obtain ⟨rfl, rfl⟩ := trodVars_none hV
  obtain ⟨cs, rfl, hcs⟩ := okWide_struct Try.underlying25 (hval 0 25 v0 rfl rfl)
  obtain ⟨a1, len1, cap1, rfl⟩ := okWide_slice Try.underlying22 (hval 1 22 v1 rfl rfl)
  have k0 := h0
  have lt0 : ∀ x ∈ p0, x.block < W.heap.size := by obtain ⟨m, hm⟩ := k0; exact DataW.trod_lt m _ _ _ hm
  have k1 := h1
  have lt1 : ∀ x ∈ p1, x.block < W.heap.size := by obtain ⟨m, hm⟩ := k1; exact DataW.trod_lt m _ _ _ hm
  obtain ⟨A, c, ms, B, d, ls, rfl, hms, hls⟩ : ∃ (A : Option Addr) (c : Nat) (ms : List Int) (B : Option Addr) (d : Nat) (ls : List (Int × Int)), cs = #[.slice A ms.length c, .slice B ls.length d] ∧ (Kd.int .i64).C W A ms.length ms ∧ kLk.C W B ls.length ls := by
    obtain ⟨fuel, hf⟩ := h0
    exact open_graph (by simpa [Value.cells] using hf)
  obtain ⟨a2, cap2, ch, he, hch⟩ : ∃ (a : Option Addr) (cap : Nat) (l : List Int), Value.slice a1 len1 cap1 = .slice a l.length cap ∧ (Kd.int .i64).C W a l.length l := by
    obtain ⟨fuel, hf⟩ := h1
    obtain ⟨a, cap, l, e, hc⟩ := open_nums (cs := [.slice a1 len1 cap1]) (by simpa [Value.cells] using hf)
    injection e with e _
    exact ⟨a, cap, l, e, hc⟩
  rw [he] at hval0 hA0 hW' k1 ⊢
  clear hA0 hval0
  refine (trees_walk W A B a2 c d cap2 ms ls ch hms hls hch).mono fun e W' ⟨he, bel⟩ => ?_
  subst he
  exact ⟨_, rfl, _, _, _, [], _, [], hW', trodAll_mk1 (shut_bool Try.underlying4 _), (trodAll_cons_mk (Below.trod laidOut (by kernel_rfl) (of_decide_eq_true (by kernel_rfl)) k0 bel lt0) (trodAll_cons_mk (Below.trod laidOut (by kernel_rfl) (of_decide_eq_true (by kernel_rfl)) k1 bel lt1) trodAll_mk0)), rfl, bel.frame _, fun h => by cases h⟩

theorem over : Rows.waveTreesRow.holds Try.pinned (OpenSpec.ofChange Rows.waveTreesSpec) :=
  OpenClaim.holds_of_wide 3 Try.f3 rfl rfl rfl rfl rfl rfl rfl ⟨rfl, rfl, rfl, rfl, rfl⟩ rfl rfl rfl rfl rfl (by kernel_rfl) Try.func3 (by kernel_rfl)
    (of_decide_eq_true (by kernel_rfl)) (by unfold Func.isWrapper; first | (rw [if_pos (by decide +kernel)]; kernel_rfl) | (rw [if_neg (by decide +kernel)]; exact ⟨rfl, rfl⟩))
    (fun os started H enc _ => lifted os started H enc)

/-- ████ THE STATEMENT ████ -/
theorem proved : Rows.WaveTreesSaid := over
#print axioms proved
end Go.Proofs.Ytpnokpoikhpiiaa.waveTrees
