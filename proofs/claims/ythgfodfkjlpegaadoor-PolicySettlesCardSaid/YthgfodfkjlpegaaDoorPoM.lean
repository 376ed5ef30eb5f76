/- slices.Max, slices.Min at []int. -/
import Derived.Test.YthgfodfkjlpegaaDoorPoS
namespace Go.Proofs.YthgfodfkjlpegaaDoor
open Go.RowKit Go.Proofs.YthgfodfkjlpegaaDoorW.PrintWords Go.Proofs.YthgfodfkjlpegaaDoorW.PrintLast Go.Proofs.YthgfodfkjlpegaaDoorW.PrintMore
attribute [local go_sem] max2_int min2_int max_two min_two
set_option linter.unusedVariables false
set_option linter.unusedSimpArgs false
def IsMax (xs : List Int) (m : Int) : Prop := m ∈ xs ∧ ∀ y ∈ xs, y ≤ m
def IsMin (xs : List Int) (m : Int) : Prop := m ∈ xs ∧ ∀ y ∈ xs, m ≤ y
theorem IsMax.step {xs : List Int} {m : Int} {k : Nat} (h : IsMax (xs.take k) m) (hk : k < xs.length) : IsMax (xs.take (k + 1)) (mx m (rd xs k)) := by
  rw [take_rd _ _ hk]
  unfold mx
  refine ⟨?_, fun y hy => ?_⟩
  · split
    · exact List.mem_append_right _ (by simp)
    · exact List.mem_append_left _ h.1
  · rcases List.mem_append.1 hy with hy | hy
    · have := h.2 y hy
      split <;> omega
    · simp at hy
      subst hy
      split <;> omega
theorem IsMin.step {xs : List Int} {m : Int} {k : Nat} (h : IsMin (xs.take k) m) (hk : k < xs.length) : IsMin (xs.take (k + 1)) (mn m (rd xs k)) := by
  rw [take_rd _ _ hk]
  unfold mn
  refine ⟨?_, fun y hy => ?_⟩
  · split
    · exact List.mem_append_right _ (by simp)
    · exact List.mem_append_left _ h.1
  · rcases List.mem_append.1 hy with hy | hy
    · have := h.2 y hy
      split <;> omega
    · simp at hy
      subst hy
      split <;> omega
set_option maxRecDepth 100000 in
theorem max_calls (w : World) (A : Option Addr) (c : Nat) (xs : List Int) (hr : (Kd.int .i64).C w A xs.length xs) (hx : xs ≠ []) :
    Calls Tryd.prog 31 #[.slice A xs.length c] w fun e w' => ∃ m, e = .returned (.int .i64 m) ∧ IsMax xs m ∧ w = w' := by
  have HR := Lib.hid hr
  have hm : (xs.length : Int) ≤ 9223372036854775807 := by have := hr.2.1; omega
  have hl := List.length_pos_iff.2 hx
  have h1 : ¬ (xs.length : Int) < 1 := by omega
  obtain ⟨ad, rfl, hcell⟩ := C_cell hr hl
  have hc0 : w.cell? ad = some (.int .i64 (rd xs 0)) := by simpa [Addr.add] using hcell
  have HX := Lib.hid hl
  clear hr hcell hx hl
  go_enter Tryd.func31, Tryd.ntmps31
  go_wp2
  clear hc0
  go_loop [3, 4] (fun v3 v4 => ∃ (k : Nat) (m : Int), 1 ≤ k ∧ k ≤ xs.length ∧ v4 = .int .i64 k ∧ v3 = .int .i64 m ∧ Hid (IsMax (xs.take k) m)) (fun _ v => xs.length - (intOf v).toNat)
  case atStart =>
    refine ⟨1, rd xs 0, by omega, by have := HX.out; omega, rfl, rfl, ?_⟩
    have e : xs.take 1 = [rd xs 0] := by have := take_rd xs 0 HX.out; simpa using this
    unfold Hid
    rw [e]
    exact ⟨by simp, by simp⟩
  case round =>
    obtain ⟨k, m, hk1, hk, rfl, rfl, hM⟩ := hrel
    by_cases hlt : k < xs.length
    · obtain ⟨_, e, hcell⟩ := C_cell HR.out hlt
      cases e
      have k0 : (0 : Int) ≤ k := by omega
      have k1 : (k : Int) < xs.length := by omega
      have HLT := Lib.hid hlt
      obtain ⟨n, hn⟩ : ∃ n, n = rd xs k := ⟨_, rfl⟩
      rw [← hn] at hcell
      have HS := Lib.hid (show IsMax (xs.take (k + 1)) (mx m n) by rw [hn]; exact hM.out.step hlt)
      clear hlt hn
      go_wp2
      go_round
      case rel => exact ⟨k + 1, mx m n, by omega, by have := HLT.out; omega, by go_num, rfl, HS⟩
      case measure => have := HLT.out; simp [intOf]; omega
    · have k1 : ¬ (k : Int) < xs.length := by omega
      have hh : xs.take k = xs := List.take_of_length_le (by omega)
      have HM2 := hM.out
      rw [hh] at HM2
      have HM3 := Lib.hid HM2
      clear hlt hh HM2
      go_wp2
      go_ret
      exact ⟨m, rfl, HM3.out, rfl⟩
set_option maxRecDepth 100000 in
theorem min_calls (w : World) (A : Option Addr) (c : Nat) (xs : List Int) (hr : (Kd.int .i64).C w A xs.length xs) (hx : xs ≠ []) :
    Calls Tryd.prog 32 #[.slice A xs.length c] w fun e w' => ∃ m, e = .returned (.int .i64 m) ∧ IsMin xs m ∧ w = w' := by
  have HR := Lib.hid hr
  have hm : (xs.length : Int) ≤ 9223372036854775807 := by have := hr.2.1; omega
  have hl := List.length_pos_iff.2 hx
  have h1 : ¬ (xs.length : Int) < 1 := by omega
  obtain ⟨ad, rfl, hcell⟩ := C_cell hr hl
  have hc0 : w.cell? ad = some (.int .i64 (rd xs 0)) := by simpa [Addr.add] using hcell
  have HX := Lib.hid hl
  clear hr hcell hx hl
  go_enter Tryd.func32, Tryd.ntmps32
  go_wp2
  clear hc0
  go_loop [3, 4] (fun v3 v4 => ∃ (k : Nat) (m : Int), 1 ≤ k ∧ k ≤ xs.length ∧ v4 = .int .i64 k ∧ v3 = .int .i64 m ∧ Hid (IsMin (xs.take k) m)) (fun _ v => xs.length - (intOf v).toNat)
  case atStart =>
    refine ⟨1, rd xs 0, by omega, by have := HX.out; omega, rfl, rfl, ?_⟩
    have e : xs.take 1 = [rd xs 0] := by have := take_rd xs 0 HX.out; simpa using this
    unfold Hid
    rw [e]
    exact ⟨by simp, by simp⟩
  case round =>
    obtain ⟨k, m, hk1, hk, rfl, rfl, hM⟩ := hrel
    by_cases hlt : k < xs.length
    · obtain ⟨_, e, hcell⟩ := C_cell HR.out hlt
      cases e
      have k0 : (0 : Int) ≤ k := by omega
      have k1 : (k : Int) < xs.length := by omega
      have HLT := Lib.hid hlt
      obtain ⟨n, hn⟩ : ∃ n, n = rd xs k := ⟨_, rfl⟩
      rw [← hn] at hcell
      have HS := Lib.hid (show IsMin (xs.take (k + 1)) (mn m n) by rw [hn]; exact hM.out.step hlt)
      clear hlt hn
      go_wp2
      go_round
      case rel => exact ⟨k + 1, mn m n, by omega, by have := HLT.out; omega, by go_num, rfl, HS⟩
      case measure => have := HLT.out; simp [intOf]; omega
    · have k1 : ¬ (k : Int) < xs.length := by omega
      have hh : xs.take k = xs := List.take_of_length_le (by omega)
      have HM2 := hM.out
      rw [hh] at HM2
      have HM3 := Lib.hid HM2
      clear hlt hh HM2
      go_wp2
      go_ret
      exact ⟨m, rfl, HM3.out, rfl⟩
end Go.Proofs.YthgfodfkjlpegaaDoor
