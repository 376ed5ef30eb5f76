/- The reference's size and Sums. -/
import Derived.Test.YthgfodfkjlpegaaDoorPoR
import Derived.Test.YthgfodfkjlpegaaDoorPoZ
namespace Go.Proofs.YthgfodfkjlpegaaDoor
open Go.RowKit Go.Proofs.YthgfodfkjlpegaaDoorW.PrintWords Go.Proofs.YthgfodfkjlpegaaDoorW.PrintLast Go.Proofs.YthgfodfkjlpegaaDoorW.PrintMore
attribute [local go_sem] max2_int min2_int max_two min_two
set_option linter.unusedVariables false
set_option linter.unusedSimpArgs false
def szI (n : Int) : Int := if n < -n then -n else n
theorem szI_off (d wt : Int) : szI (d - 2 * wt) = offI d wt := by unfold szI offI; split <;> split <;> omega
set_option maxRecDepth 100000 in
theorem rsize_calls (w : World) (n : Int) (h0 : -4000000000 ≤ n) (h1 : n ≤ 4000000000) :
    Calls Tryd.prog 36 #[.int .i64 n] w fun e w' => e = .returned (.int .i64 (szI n)) ∧ w = w' := by
  unfold szI
  by_cases hq : n < -n
  · rw [if_pos hq]
    go_enter Tryd.func36, Tryd.ntmps36
    go_wp2
    go_ret
    exact ⟨rfl, rfl⟩
  · rw [if_neg hq]
    go_enter Tryd.func36, Tryd.ntmps36
    go_wp2
    go_ret
    exact ⟨rfl, rfl⟩
theorem wsum_take (n : Int) (l : List Ld) (k : Nat) (hk : k < l.length) : wsum n (l.take (k + 1)) = wsum n (l.take k) + (if (ldAt l k).node = n then (ldAt l k).weight else 0) := by
  rw [take_ld l k hk, wsum_app]
  simp [wsum]
theorem wsum_take_bound (n : Int) {nodes : List Int} {l : List Ld} (hF : LFine nodes l) (k : Nat) : 0 ≤ wsum n (l.take k) ∧ wsum n (l.take k) ≤ 512000000 := by
  have h := wsum_bound (l := l.take k) n (fun x hx => hF.w0 x (List.mem_of_mem_take hx)) (fun x hx => hF.w1 x (List.mem_of_mem_take hx))
  have := hF.len
  have := List.length_take_le' k l
  omega
set_option maxRecDepth 100000 in
set_option maxHeartbeats 1000000 in
theorem rsums_calls (w : World) (A B : Option Addr) (c d : Nat) (nodes : List Int) (l : List Ld) (hr : (Kd.int .i64).C w A nodes.length nodes) (hl : kLd.C w B l.length l) (hN : nodes.length ≤ 1000) (hF : LFine nodes l) :
    Calls Tryd.prog 13 #[.slice A nodes.length c, .slice B l.length d] w fun e w' => ∃ v, e = .returned v ∧ (Kd.int .i64).R 3 w' w.heap.size (fun _ => True) v (sumsOf nodes l) ∧ Below w.heap.size w w' := by
  have HR := Lib.hid hr
  have HL := Lib.hid hl
  have HN := Lib.hid hN
  have HF := Lib.hid hF
  have n1 : (nodes.length : Int) ≤ 1000 := by omega
  have l1 : (l.length : Int) ≤ 512 := by have := hF.len; omega
  clear hr hl hF hN
  go_enter Tryd.func13, Tryd.ntmps13
  go_wp2
  go_loopw [5, 13] (fun v5 v13 wr => ∃ k : Nat, v13 = .int .i64 k ∧ k ≤ nodes.length ∧ Aside0 ((Kd.int .i64).R 3 wr w.heap.size (fun _ => True) v5 ((sumsOf nodes l).take k)) ∧ Aside0 (Below w.heap.size w wr)) (fun _ v _ => nodes.length - (intOf v).toNat)
  case atStart => exact ⟨0, rfl, Nat.zero_le _, ⟨by rw [List.take_zero]; exact Kd.R_nil _ _ _ _ _⟩, ⟨Below.refl _ _⟩⟩
  case round =>
    obtain ⟨k, rfl, hk, HK, HB⟩ := hrel
    by_cases hlt : k < nodes.length
    · obtain ⟨adn, rfl, hcn⟩ := C_cell (Kd.C_below HR.out HB.out) hlt
      obtain ⟨n, hn⟩ : ∃ n, n = rd nodes k := ⟨_, rfl⟩
      rw [← hn] at hcn
      have k0 : (0 : Int) ≤ k := by omega
      have k1 : (k : Int) < nodes.length := by omega
      have HLT := Lib.hid hlt
      have HSK := Lib.hid (show (sumsOf nodes l).take (k + 1) = (sumsOf nodes l).take k ++ [wsum n l] by
        rw [take_rd _ _ (by rw [sumsOf_len]; exact hlt), sumsOf_rd nodes l hlt, hn])
      have HSL := Lib.hid (show ((sumsOf nodes l).take k).length ≤ 1000 by have := List.length_take_le' k (sumsOf nodes l); rw [sumsOf_len] at this; have := HN.out; omega)
      obtain ⟨SK, hSK⟩ : ∃ SK, SK = (sumsOf nodes l).take k := ⟨_, rfl⟩
      rw [← hSK] at HSK HSL HK
      clear hlt hn hSK
      go_wp2
      clear hcn
      rename World => wo
      go_loopw [8, 19] (fun v8 v19 ws => ∃ j : Nat, v8 = .int .i64 (wsum n (l.take j)) ∧ v19 = .int .i64 j ∧ j ≤ l.length ∧ Aside0 (Below wo.heap.size wo ws)) (fun _ v _ => l.length - (intOf v).toNat)
      case atStart => exact ⟨0, rfl, rfl, Nat.zero_le _, ⟨Below.refl _ _⟩⟩
      case round =>
        obtain ⟨j, rfl, rfl, hj, HBI⟩ := hrel
        by_cases hlt : j < l.length
        · obtain ⟨ad, rfl, hc0, hc1, hc2⟩ := Ld_cell (kLd.C_below HL.out (below_step HB.out HBI.out)) hlt
          have HST := Lib.hid (wsum_take n l j hlt)
          have hs := wsum_take_bound n HF.out j
          have hw0 := HF.out.w0 _ (ldAt_mem l j hlt)
          have hw1 := HF.out.w1 _ (ldAt_mem l j hlt)
          obtain ⟨s, hsv⟩ : ∃ s, s = wsum n (l.take j) := ⟨_, rfl⟩
          rw [← hsv] at hs HST ⊢
          obtain ⟨x, hx0⟩ : ∃ x, x = ldAt l j := ⟨_, rfl⟩
          rw [← hx0] at hc0 hc1 hc2 hw0 hw1 HST
          have j0 : (0 : Int) ≤ j := by omega
          have j1 : (j : Int) < l.length := by omega
          have HLJ := Lib.hid hlt
          obtain ⟨xs, xn, xw⟩ := x
          obtain ⟨hs0, hs1⟩ := hs
          simp only [] at hc0 hc1 hc2 hw0 hw1 HST
          clear hlt hx0 hsv
          go_upto_region 9 with (fail)
          obtain ⟨w0, hw0'⟩ : ∃ w0, w0 = wr.alloc (.cells #[.int .i64 xs, .int .i64 xn, .int .i64 xw] 51) := ⟨_, rfl⟩
          rw [← hw0']
          have HBX := Aside0.mk (show w0.heap[wr.heap.size]? = some (.cells #[.int .i64 xs, .int .i64 xn, .int .i64 xw] 51 (0, 0)) by rw [hw0']; exact heap_alloc_new _ _)
          have HB0 := Aside0.mk (show Below wo.heap.size wo w0 by rw [hw0']; exact below_alloc HBI.out _)
          clear hw0' hc0 hc1 hc2
          have b1 : w0.cell? ⟨wr.heap.size, 1, none⟩ = some (.int .i64 xn) := by unfold World.cell?; rw [HBX.out]; rfl
          have b2 : w0.cell? ⟨wr.heap.size, 2, none⟩ = some (.int .i64 xw) := by unfold World.cell?; rw [HBX.out]; rfl
          by_cases e1 : xn = n
          · have e1b : (xn == n) = true := by simp [e1]
            rw [if_pos e1] at HST
            clear e1
            go_wp2
            go_roundw
            case rel => exact ⟨j + 1, by rw [HST.out], by go_num, by have := HLJ.out; omega, HB0⟩
            case measure => have := HLJ.out; simp [intOf]; omega
          · have e1b : (xn == n) = false := by simp [e1]
            rw [if_neg e1] at HST
            clear e1
            go_wp2
            go_roundw
            case rel => exact ⟨j + 1, by rw [HST.out, Int.add_zero], by go_num, by have := HLJ.out; omega, HB0⟩
            case measure => have := HLJ.out; simp [intOf]; omega
        · have j1 : ¬ (j : Int) < l.length := by omega
          have HH := Lib.hid (show wsum n (l.take j) = wsum n l by rw [List.take_of_length_le (by omega)])
          rw [HH.out]
          clear hlt
          obtain ⟨s, hs⟩ : ∃ s, s = wsum n l := ⟨_, rfl⟩
          rw [← hs] at HSK ⊢
          clear hs
          go_wp2_with (at_builtin; refine app_rows w.heap.size rfl _ _ rfl _ SK [s] _ 1 1 rfl rfl (by exact Kd.R_alloc (Kd.R_below HK.out HBI.out) _) (lit_at _ _ [s] (by simp) (by simp) rfl rfl) (by have := HB.out.size; have := HBI.out.size; simp; omega) (by have := HSL.out; omega) ?_; intro v1 w1 ho hb; have HO := Aside0.mk ho; have HB1 := Aside0.mk (below_weaken (below_alloc (below_step HB.out HBI.out) _) (Nat.le_refl _) hb); clear ho hb)
          go_roundw
          case rel => exact ⟨k + 1, by go_num, by have := HLT.out; omega, ⟨by rw [HSK.out]; exact HO.out⟩, HB1⟩
          case measure => have := HLT.out; simp [intOf]; omega
    · have k1 : ¬ (k : Int) < nodes.length := by omega
      have HH := Lib.hid (show (sumsOf nodes l).take k = sumsOf nodes l from List.take_of_length_le (by rw [sumsOf_len]; omega))
      clear hlt
      go_wp2
      go_ret
      exact ⟨_, rfl, by rw [← HH.out]; exact HK.out, HB.out⟩
end Go.Proofs.YthgfodfkjlpegaaDoor
