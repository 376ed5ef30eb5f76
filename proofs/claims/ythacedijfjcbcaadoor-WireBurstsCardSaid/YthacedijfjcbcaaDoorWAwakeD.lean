/- wire: awake. -/
import Derived.Test.YthacedijfjcbcaaDoorWRefD
import Derived.Lib.SlBytesConst
namespace Go.Proofs.YthacedijfjcbcaaDoor
open Go.RowKit Go.Proofs.YthacedijfjcbcaaDoorW.PrintWords Go.Proofs.YthacedijfjcbcaaDoorW.PrintLast Go.Proofs.YthacedijfjcbcaaDoorW.PrintMore
set_option linter.unusedVariables false
set_option linter.unusedSimpArgs false

def a1 : List UInt8 := [172, 2]
def a2 : List UInt8 := [1, 0, 0, 0, 9, 9, 9, 9, 5]
def a3 : List UInt8 := [49, 50, 51, 52, 53, 54, 55, 56, 57]
theorem a1_take : takeU a1 0 = (300, 2, .ok) := by rfl
theorem a2_scan : scanF a2 (a2.length + 1) 0 = ([], 0) := by kernel_rfl
theorem a3_sum : sumN a3 = 3421780262 := by kernel_rfl
theorem a4_len : uintsF (zig (-1)) = [1] := uintsF_small (by decide)
/-- A marked row reads as one that is not. -/
theorem B_litCm (W : World) (xs : List UInt8) {g n a b : Nat} {cs : Array Value} (hm : xs.length ≤ 9223372036854775807) (hg : W.heap.size = g) (hcs : cs = (encs encB xs).toArray) (hn : xs.length = n) : kB.C (W.alloc (.cells cs 5 (a, b))) (some ⟨g, 0, none⟩) n xs := by
  have h := Kd.reads_of_C (enc := encB) (d := 0) (B_litC W xs hm hg hcs hn)
  refine Kd.C_of_reads (enc := encB) (d := 0) ⟨h.1, h.2.1, fun hp => ?_⟩
  obtain ⟨ad, e, hc⟩ := h.2.2 hp
  refine ⟨ad, e, fun j hj => ?_⟩
  rw [← hc j hj]
  injection e with e
  subst e hg
  have key : ∀ (o : Obj), (W.alloc o).heap[W.heap.size]? = some o := fun o => by
    show (W.heap.push o)[W.heap.size]? = _
    simp
  have hb : ((⟨W.heap.size, 0, none⟩ : Addr).add j).block = W.heap.size := by
    unfold Addr.add
    split <;> rfl
  unfold World.cell?
  rw [hb, key, key]
set_option maxRecDepth 100000 in
set_option maxHeartbeats 2000000 in
theorem awake_calls (w : World) : Calls Tryd.prog 7 #[] w fun e w' => e = .returned (.bool true) ∧ Below w.heap.size w w' := by
  have kc := fun (w : World) (C : Array Value) (n c : Nat) => Lib.run_convert_bytes_const (P := Tryd.prog) w 23 5 C n c Tryd.underlying23 Tryd.underlying5
  go_enter Tryd.func7, Tryd.ntmps7
  go_wp2_with (first
    | (go_at_call 30; refine (putInt_calls _ none 0 [] (-1) ⟨rfl, by decide, fun h => absurd h (by decide)⟩ (by decide) (by decide) (by decide)).mono ?_; intro e w4 h4; rw [a4_len] at h4; obtain ⟨A4, c4, rfl, _, _, _, hb⟩ := h4.open_; have HB4 := Aside0.mk hb; clear h4 hb)
    | (go_at_call 19; refine (sum_calls _ _ _ a3 (B_litCm _ a3 (by decide) rfl rfl rfl)).mono ?_; rintro e w3 ⟨rfl, rfl⟩; rw [a3_sum])
    | (go_at_call 23; refine (scan_calls _ _ _ a2 (B_litC _ a2 (by decide) rfl rfl rfl) (by decide) (by decide)).mono ?_; intro e w2 h2; rw [a2_scan] at h2; obtain ⟨v2, rfl, hr, hb⟩ := h2; obtain ⟨A2, c2, rfl, _, _⟩ := Kd.R_reads hr; have HB2 := Aside0.mk hb; clear hr hb)
    | (go_at_call 10; refine (takeUint_calls _ _ _ a1 0 (B_litC _ a1 (by decide) rfl rfl rfl) (by decide) (by decide)).mono ?_; intro e w1 h1; unfold TakeUPost at h1; rw [a1_take] at h1; obtain ⟨v, rfl, hv, hb⟩ := h1; have HV : v = .nilIface := hv; subst HV; have HB := Aside0.mk hb; clear hv hb))
  go_ret
  exact ⟨rfl, below_step (below_alloc (below_step (below_alloc (below_step (below_alloc (Below.refl _ w) _) HB.out) _) HB2.out) _) HB4.out⟩
end Go.Proofs.YthacedijfjcbcaaDoor
