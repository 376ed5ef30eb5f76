/- The document's example of a wave. -/
import Derived.Test.YtpnokpoikhpiiaaWvOps
import Derived.Test.YtpnokpoikhpiiaaWvNew
import Derived.Test.YtpnokpoikhpiiaaInts
namespace Go.Proofs.Ytpnokpoikhpiiaa
open Go.RowKit Go.Maps Go.Proofs.YtpnokpoikhpiiaaW.PrintWords Go.Proofs.YtpnokpoikhpiiaaW.PrintLast Go.Proofs.YtpnokpoikhpiiaaW.PrintMore WvSim
set_option linter.unusedVariables false
set_option linter.unusedSimpArgs false

theorem rises12 : Rises [1, 2] := by
  intro j hj
  have : j = 0 ∨ j = 1 := by simp at hj; omega
  rcases this with rfl | rfl <;> simp [okAt, rd]
theorem fineA : Fine ⟨[1, 2], [], [], true⟩ := rises12.fine.begun
theorem fineB : Fine ⟨[1, 2], [1], [], true⟩ := fineA.hear (n := 1) (by simp) (by simp)
theorem fineC : Fine ⟨[1, 2], [1], [2], true⟩ := ⟨fineB.nn, fineB.nb, fineB.hn, fineB.hs, by simp, by simp⟩
theorem fineD : Fine ⟨[1, 2], [1, 2], [2], true⟩ := fineC.hear (n := 2) (by simp) (by simp)
theorem fineD' : Fine ⟨[1, 2], [1, 2], [2, 1], true⟩ := ⟨fineD.nn, fineD.nb, fineD.hn, fineD.hs, by simp, by simp⟩
theorem tells_a : tells [1, 2] [] [] true = [] := by decide
theorem tells_b : tells [1, 2] [1] [] true = [2] := by decide
theorem tells_c : tells [1, 2] [1, 2] [2] true = [1] := by decide

set_option maxRecDepth 100000 in
set_option maxHeartbeats 1000000 in
theorem awake_calls (w : World) : Calls Try.prog 5 #[] w fun e w' => e = .returned (.bool true) ∧ Below w.heap.size w w' := by
  go_enter Try.func5, Try.ntmps5
  go_wp2_with fail
  refine (new_calls _ _ _ [1, 2] (lit_at _ _ [1, 2] (by simp) (by simp) rfl rfl) (by simp)).mono ?_
  intro e w1 hp
  obtain ⟨p, rfl, hW, hB⟩ := hp.1 rises12
  clear hp
  have HW1 := Aside0.mk hW
  have HB1 := Aside0.mk (below_then (below_alloc (Below.refl w.heap.size w) (.cells #[.int .i64 1, .int .i64 2] 3)) (by simp) hB)
  clear hW hB
  obtain ⟨lo, hi, hlo, hhi, HW1⟩ : ∃ lo hi, Hid (w.heap.size ≤ lo) ∧ Hid (hi ≤ w1.heap.size) ∧ Aside0 (IsWave w1 lo hi ⟨[1, 2], [], [], false⟩ p) := ⟨_, _, (by unfold Hid; simp), Nat.le_refl _, HW1⟩
  go_wp2_with fail
  refine (begin_calls _ lo hi p _ rises12.fine HW1.out rfl).mono ?_
  rintro e w2 ⟨v2, rfl, hv, hW, hB, hK⟩
  rw [tells_a] at hv hW
  have HW2 := Aside0.mk (show IsWave w2 lo hi ⟨[1, 2], [], [], true⟩ p from hW)
  have HB2 := Aside0.mk (HB1.out.trans (hB.mono hlo.out))
  obtain ⟨A2, c2, rfl⟩ := Kd.R_slice hv
  have HH2 := Lib.hid (Nat.le_trans hhi.out hB.size)
  clear hv hW hB hK HW1 HB1
  go_wp2_with fail
  refine (hear_calls _ lo hi p ⟨[1, 2], [], [], true⟩ 1 fineA HW2.out (by simp) (by simp)).mono ?_
  rintro e w3 ⟨v3, rfl, hv, hW, hB, hK⟩
  have hv : (Kd.int .i64).R 3 w3 w2.heap.size (fun _ => True) v3 [2] := hv
  have HW3 := Aside0.mk (show IsWave w3 lo hi ⟨[1, 2], [1], [2], true⟩ p from hW)
  have HB3 := Aside0.mk (HB2.out.trans (hB.mono hlo.out))
  obtain ⟨A3, c3, rfl, _, hc3⟩ := Kd.R_reads hv
  have HC3 := Aside0.mk (show (Kd.int .i64).R 3 w3 w2.heap.size (fun _ => True) (.slice A3 1 c3) [2] from hv)
  clear hv hc3 hW hB hK HW2 HB2
  go_wp2_with fail
  refine (hear_calls _ lo hi p ⟨[1, 2], [1], [2], true⟩ 2 fineC HW3.out (by simp) (by simp)).mono ?_
  rintro e w4 ⟨v4, rfl, hv, hW, hB, hK⟩
  have hv : (Kd.int .i64).R 3 w4 w3.heap.size (fun _ => True) v4 [1] := hv
  have HW4 := Aside0.mk (show IsWave w4 lo hi ⟨[1, 2], [1, 2], [2, 1], true⟩ p from hW)
  have HB4 := Aside0.mk (HB3.out.trans (hB.mono hlo.out))
  obtain ⟨A4, c4, rfl, _, hc4⟩ := Kd.R_reads hv
  have HC4 := Aside0.mk (show (Kd.int .i64).C w4 A4 1 [1] from hc4)
  have HD4 := Aside0.mk (show (Kd.int .i64).C w4 A3 1 [2] from (Kd.R_reads' (R_kept HC3.out hK HH2.out)).2.2)
  clear hv hW hB hK hc4 HC3 HW3 HB3
  go_wp2_with fail
  refine (ints_calls _ _ _ [2] _ _ [2] (Kd.C_alloc HD4.out _) (lit_at _ _ [2] (by simp) (by simp) rfl rfl)).mono ?_
  rintro e w5 ⟨rfl, ⟨m, rfl⟩⟩
  go_wp2_with fail
  refine (ints_calls _ _ _ [1] _ _ [1] (Kd.C_alloc (Kd.C_drewN (Kd.C_alloc HC4.out _) _) _) (lit_at _ _ [1] (by simp) (by simp) rfl rfl)).mono ?_
  rintro e w6 ⟨rfl, ⟨m2, rfl⟩⟩
  go_wp2_with fail
  refine (done_calls _ lo hi p _ fineD' ((((HW4.out.alloc _).drewN _).alloc _).drewN _)).mono ?_
  rintro e w7 ⟨rfl, ⟨m3, rfl⟩⟩
  go_wp2
  go_ret
  exact ⟨rfl, by repeat (first | (with_reducible first | exact HB4.out | apply below_alloc | apply pw_below_drewN | apply below_drew1) | exact HB4.out)⟩
end Go.Proofs.Ytpnokpoikhpiiaa
