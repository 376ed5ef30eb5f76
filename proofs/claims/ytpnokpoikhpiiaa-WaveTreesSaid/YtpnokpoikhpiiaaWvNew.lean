/- wave.New: a new wave, if the neighbours rise within the members' numbers. -/
import Derived.Test.YtpnokpoikhpiiaaWvRep
import Derived.Test.YtpnokpoikhpiiaaClone
namespace Go.Proofs.Ytpnokpoikhpiiaa
open Go.RowKit Go.Maps Go.Proofs.YtpnokpoikhpiiaaW.PrintWords Go.Proofs.YtpnokpoikhpiiaaW.PrintLast Go.Proofs.YtpnokpoikhpiiaaW.PrintMore
set_option linter.unusedVariables false
set_option linter.unusedSimpArgs false

def okAt (xs : List Int) (j : Nat) : Prop := 0 ≤ rd xs j ∧ rd xs j < 8 ∧ (0 < j → rd xs (j - 1 : Nat) < rd xs j)
def Rises (xs : List Int) : Prop := ∀ j, j < xs.length → okAt xs j
theorem Rises.lt {xs : List Int} (h : Rises xs) : ∀ i j, i < j → j < xs.length → rd xs i < rd xs j := by
  intro i j hij
  induction j with
  | zero => omega
  | succ j ih =>
    intro hj
    have h1 := (h (j + 1) hj).2.2 (by omega)
    simp only [Nat.add_sub_cancel] at h1
    rcases Nat.lt_or_ge i j with hlt | hge
    · have := ih hlt (by omega); omega
    · have : i = j := by omega
      subst this; exact h1
theorem Rises.nodup {xs : List Int} (h : Rises xs) : xs.Nodup := by
  rw [List.nodup_iff_pairwise_ne, List.pairwise_iff_getElem]
  intro i j hi hj hij e
  have := h.lt i j hij hj
  rw [rd_get xs i hi, rd_get xs j hj] at this
  omega
theorem Rises.bound {xs : List Int} (h : Rises xs) : ∀ x, x ∈ xs → 0 ≤ x ∧ x < 8 := by
  intro x hx
  obtain ⟨i, hi, rfl⟩ := List.mem_iff_getElem.1 hx
  have := h i hi
  unfold okAt at this
  rw [rd_get xs i hi] at this
  exact ⟨this.1, this.2.1⟩
theorem Rises.fine {xs : List Int} (h : Rises xs) : Fine ⟨xs, [], [], false⟩ := ⟨h.nodup, h.bound, List.nodup_nil, by simp, List.nodup_nil, by simp⟩

def NewPost (w : World) (xs : List Int) (e : Ending) (w' : World) : Prop :=
  (Rises xs → ∃ p, e = .returned (.tuple #[.pointer (some ⟨p, 0, none⟩), .nilIface]) ∧ IsWave w' w.heap.size w'.heap.size ⟨xs, [], [], false⟩ p ∧ Below w.heap.size w w') ∧
  (¬ Rises xs → e = .returned (.tuple #[.pointer none, .iface 28 (.int .i64 1)]) ∧ w = w')
theorem NewPost.no {w : World} {xs : List Int} {k : Nat} (hk : k < xs.length) (h : ¬ okAt xs k) : NewPost w xs (.returned (.tuple #[.pointer none, .iface 28 (.int .i64 1)])) w :=
  ⟨fun hr => absurd (hr k hk) h, fun _ => ⟨rfl, rfl⟩⟩

set_option maxRecDepth 100000 in
set_option maxHeartbeats 1000000 in
theorem new_calls (w : World) (A : Option Addr) (c : Nat) (xs : List Int) (hr : (Kd.int .i64).C w A xs.length xs) (hl : xs.length * 8 ≤ 140737488351232) :
    Calls Try.prog 12 #[.slice A xs.length c] w (NewPost w xs) := by
  have HR := Lib.hid hr
  have HL := Lib.hid hl
  have hm : (xs.length : Int) ≤ 9223372036854775807 := by have := hr.2.1; omega
  have hmm := @run_makeMap Try.prog
  clear hr hl
  go_enter Try.func12, Try.ntmps12
  go_wp2
  go_loop [8] (fun v => ∃ k : Nat, k ≤ xs.length ∧ v = .int .i64 k ∧ Hid (∀ j, j < k → okAt xs j)) (fun v => xs.length - (intOf v).toNat)
  case atStart => exact ⟨0, Nat.zero_le _, rfl, fun j hj => by omega⟩
  case round =>
    obtain ⟨k, hk, rfl, hok⟩ := hrel
    by_cases hlt : k < xs.length
    · obtain ⟨ad, rfl, hcell⟩ := C_cell HR.out hlt
      have HLT := Lib.hid hlt
      have k0 : (0 : Int) ≤ k := by omega
      have k1 : (k : Int) < xs.length := by omega
      obtain ⟨n, hn⟩ : ∃ n, n = rd xs k := ⟨_, rfl⟩
      rw [← hn] at hcell
      have HN := Lib.hid hn
      clear hlt hn
      by_cases h0 : n < 0
      · have HF := Lib.hid (show ¬ okAt xs k by unfold okAt; rw [← HN.out]; omega)
        go_wp2
        go_ret2
        exact NewPost.no HLT.out HF.out
      · by_cases h8 : 8 ≤ n
        · have HF := Lib.hid (show ¬ okAt xs k by unfold okAt; rw [← HN.out]; omega)
          go_wp2
          go_ret2
          exact NewPost.no HLT.out HF.out
        · by_cases hk0 : k = 0
          · have HF := Lib.hid (show okAt xs k by unfold okAt; rw [← HN.out]; omega)
            have kz : (k : Int) ≤ 0 := by omega
            clear hk0
            go_wp2
            go_round
            case rel =>
              refine ⟨k + 1, by have := HLT.out; omega, by go_num, ?_⟩
              intro j hj
              obtain rfl : j = k := by omega
              exact HF.out
            case measure => simp [intOf]; omega
          · have hlt2 : k - 1 < xs.length := by have := HLT.out; omega
            obtain ⟨_, e, hcell2⟩ := C_cell HR.out hlt2
            cases e
            have kp : (0 : Int) < k := by omega
            obtain ⟨m, hm2⟩ : ∃ m, m = rd xs (k - 1 : Nat) := ⟨_, rfl⟩
            rw [← hm2] at hcell2
            have HM := Lib.hid hm2
            have hK : ((k : Int) - 1).toNat = k - 1 := by omega
            have HK0 := Lib.hid hk0
            clear hm2 hlt2 hk0
            by_cases hp : n ≤ m
            · have HF := Lib.hid (show ¬ okAt xs k by unfold okAt; rw [← HN.out, ← HM.out]; omega)
              go_wp2
              go_ret2
              exact NewPost.no HLT.out HF.out
            · have HF := Lib.hid (show okAt xs k by unfold okAt; rw [← HN.out, ← HM.out]; omega)
              go_wp2
              go_round
              case rel =>
                refine ⟨k + 1, by have := HLT.out; omega, by go_num, ?_⟩
                intro j hj
                by_cases e : j = k
                · subst e; exact HF.out
                · exact hok.out j (by omega)
              case measure => simp [intOf]; omega
    · have k1 : ¬ (k : Int) < xs.length := by omega
      have HK := Lib.hid (show k = xs.length by omega)
      clear hlt
      go_wp2_with (go_at_call 22; refine (clone_calls _ _ _ xs HR.out HL.out).mono ?_; rintro e w1 ⟨v, rfl, hv, hb⟩; obtain ⟨A1, c1, rfl⟩ := Kd.R_slice hv; have HV := Aside0.mk hv; have HB := Aside0.mk hb; clear hv hb)
      go_ret2
      have hrise : Rises xs := by intro j hj; exact hok.out j (by rw [HK.out]; exact hj)
      refine ⟨fun _ => ?_, fun h => absurd hrise h⟩
      have hs := HB.out.size
      refine ⟨w1.heap.size + 1 + 1, rfl, ⟨A1, c1, w1.heap.size, w1.heap.size + 1, ?_, ?_, ?_, ?_, by omega, ?_, ?_, ?_⟩, ?_⟩
      · have := heap_alloc_new ((w1.alloc (.map #[] 0)).alloc (.map #[] 0)) (.cells #[.slice A1 xs.length c1, .map (some w1.heap.size), .map (some (w1.heap.size + 1)), .bool false] 60)
        simpa using this
      · have h1 := Kd.R_alloc (Kd.R_alloc (Kd.R_alloc HV.out (.map #[] 0)) (.map #[] 0)) (.cells #[.slice A1 xs.length c1, .map (some w1.heap.size), .map (some (w1.heap.size + 1)), .bool false] 60)
        exact Kd.R_mono (Kd.R_bound h1) (fun k hk => ⟨hk.2.1, hk.2.2.1⟩)
      · exact ((Keys.made w1).alloc _).alloc _
      · have := (Keys.made (w1.alloc (.map #[] 0))).alloc (.cells #[.slice A1 xs.length c1, .map (some w1.heap.size), .map (some (w1.heap.size + 1)), .bool false] 60)
        simpa using this
      · unfold In; simp; omega
      · unfold In; simp; omega
      · unfold In; simp; omega
      · exact below_alloc (below_alloc (below_alloc HB.out _) _) _
end Go.Proofs.Ytpnokpoikhpiiaa
