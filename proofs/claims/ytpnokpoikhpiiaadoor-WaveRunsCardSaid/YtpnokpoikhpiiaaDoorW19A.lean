/- The document's wave: Rises, New. -/
import Derived.Test.YtpnokpoikhpiiaaDoorErP
import Derived.Test.YtpnokpoikhpiiaaDoorWvOps
import Derived.Test.YtpnokpoikhpiiaaDoorWvNew
import Derived.Test.YtpnokpoikhpiiaaDoorHas
import Derived.Test.YtpnokpoikhpiiaaDoorInts
import Derived.Deep.RegionHeld3
import Derived.Deep.RegionLaw
namespace Go.Proofs.YtpnokpoikhpiiaaDoor
open Go.RowKit Go.Maps Go.Proofs.YtpnokpoikhpiiaaDoorW.PrintWords Go.Proofs.YtpnokpoikhpiiaaDoorW.PrintLast Go.Proofs.YtpnokpoikhpiiaaDoorW.PrintMore WvSim
set_option linter.unusedVariables false
set_option linter.unusedSimpArgs false
set_option maxRecDepth 100000 in
set_option maxHeartbeats 1000000 in
theorem refRises_calls (w : World) (A : Option Addr) (c : Nat) (xs : List Int) (hr : (Kd.int .i64).C w A xs.length xs) :
    Calls Tryd.prog 18 #[.slice A xs.length c] w fun e w' => (Rises xs → e = .returned (.bool true)) ∧ (¬ Rises xs → e = .returned (.bool false)) ∧ w = w' := by
  have HR := Lib.hid hr
  have hm : (xs.length : Int) ≤ 9223372036854775807 := by have := hr.2.1; omega
  clear hr
  go_enter Tryd.func18, Tryd.ntmps18
  go_wp2
  go_loop [7] (fun v => ∃ k : Nat, k ≤ xs.length ∧ v = .int .i64 k ∧ Hid (∀ j, j < k → okAt xs j)) (fun v => xs.length - (intOf v).toNat)
  case atStart => exact ⟨0, Nat.zero_le _, rfl, fun j hj => by omega⟩
  case round =>
    obtain ⟨k, hk, rfl, hok⟩ := hrel
    by_cases hlt : k < xs.length
    · obtain ⟨ad, rfl, hcell⟩ := C_cell HR.out hlt
      have HLT := Lib.hid hlt
      have k0 : (0 : Int) ≤ k := by omega
      have k1 : (k : Int) < xs.length := by omega
      obtain ⟨n, hn⟩ : ∃ n, n = rd xs k := ⟨_, rfl⟩
      rw [← hn] at hcell
      have HN := Lib.hid hn
      clear hlt hn
      by_cases h0 : n < 0
      · have HF := Lib.hid (show ¬ okAt xs k by unfold okAt; rw [← HN.out]; omega)
        go_wp2
        go_ret
        exact ⟨fun hr => absurd (hr _ HLT.out) HF.out, fun _ => rfl, rfl⟩
      · by_cases h8 : 8 ≤ n
        · have HF := Lib.hid (show ¬ okAt xs k by unfold okAt; rw [← HN.out]; omega)
          go_wp2
          go_ret
          exact ⟨fun hr => absurd (hr _ HLT.out) HF.out, fun _ => rfl, rfl⟩
        · by_cases hk0 : k = 0
          · have HF := Lib.hid (show okAt xs k by unfold okAt; rw [← HN.out]; omega)
            have kz : (k : Int) ≤ 0 := by omega
            clear hk0
            go_wp2
            go_round
            case rel =>
              refine ⟨k + 1, by have := HLT.out; omega, by go_num, ?_⟩
              intro j hj
              obtain rfl : j = k := by omega
              exact HF.out
            case measure => simp [intOf]; omega
          · have hlt2 : k - 1 < xs.length := by have := HLT.out; omega
            obtain ⟨_, e, hcell2⟩ := C_cell HR.out hlt2
            cases e
            have kp : (0 : Int) < k := by omega
            obtain ⟨m, hm2⟩ : ∃ m, m = rd xs (k - 1 : Nat) := ⟨_, rfl⟩
            rw [← hm2] at hcell2
            have HM := Lib.hid hm2
            have hK : ((k : Int) - 1).toNat = k - 1 := by omega
            have HK0 := Lib.hid hk0
            clear hm2 hlt2 hk0
            by_cases hp : n ≤ m
            · have HF := Lib.hid (show ¬ okAt xs k by unfold okAt; rw [← HN.out, ← HM.out]; omega)
              go_wp2
              go_ret
              exact ⟨fun hr => absurd (hr _ HLT.out) HF.out, fun _ => rfl, rfl⟩
            · have HF := Lib.hid (show okAt xs k by unfold okAt; rw [← HN.out, ← HM.out]; omega)
              go_wp2
              go_round
              case rel =>
                refine ⟨k + 1, by have := HLT.out; omega, by go_num, ?_⟩
                intro j hj
                by_cases e : j = k
                · subst e; exact HF.out
                · exact hok.out j (by omega)
              case measure => simp [intOf]; omega
    · have k1 : ¬ (k : Int) < xs.length := by omega
      have HK := Lib.hid (show k = xs.length by omega)
      clear hlt
      go_wp2
      go_ret
      have hrise : Rises xs := by intro j hj; exact hok.out j (by rw [HK.out]; exact hj)
      exact ⟨fun _ => rfl, fun h => absurd hrise h, rfl⟩
/-- The document's wave, as a value: three lists and a truth. -/
def IsM (w : World) (nd : Nd) (v : Value) : Prop :=
  ∃ A a B b C c, v = .agg #[.slice A nd.near.length a, .slice B nd.heard.length b, .slice C nd.told.length c, .bool nd.bg] ∧
    (Kd.int .i64).C w A nd.near.length nd.near ∧ (Kd.int .i64).C w B nd.heard.length nd.heard ∧ (Kd.int .i64).C w C nd.told.length nd.told
theorem IsM.below {w w1 : World} {nd : Nd} {v : Value} (h : IsM w nd v) (hb : Below w.heap.size w w1) : IsM w1 nd v := by
  obtain ⟨A, a, B, b, C, c, rfl, h1, h2, h3⟩ := h
  exact ⟨A, a, B, b, C, c, rfl, Kd.C_below h1 hb, Kd.C_below h2 hb, Kd.C_below h3 hb⟩
theorem C_none (w : World) : (Kd.int .i64).C w none 0 [] := ⟨rfl, by decide, fun h => absurd h (by decide)⟩
set_option maxRecDepth 100000 in
theorem refNew_calls (w : World) (A : Option Addr) (c : Nat) (xs : List Int) (hr : (Kd.int .i64).C w A xs.length xs) :
    Calls Tryd.prog 7 #[.slice A xs.length c] w fun e w' =>
      (Rises xs → e = .returned (.tuple #[.agg #[.slice A xs.length c, .slice none 0 0, .slice none 0 0, .bool false], .agg #[.bool false, .slice none 0 0, .int .i64 0]])) ∧
      (¬ Rises xs → e = .returned (.tuple #[.agg #[.slice none 0 0, .slice none 0 0, .slice none 0 0, .bool false], .agg #[.bool true, .slice none 0 0, .int .i64 1]])) ∧ Below w.heap.size w w' := by
  have HR := Lib.hid hr
  clear hr
  by_cases hx : Rises xs
  · have HX := Lib.hid hx
    go_enter Tryd.func7, Tryd.ntmps7
    go_wp2_with (go_at_call 18; refine (refRises_calls _ _ _ xs (Kd.C_alloc (Kd.C_alloc HR.out _) _)).mono ?_; rintro e w1 ⟨h1, _, rfl⟩; obtain rfl := h1 HX.out; clear h1)
    (try simp only [Exit.inBlock, Exit.then])
    refine bodyPost_ret (v := .tuple #[.agg #[.slice A xs.length c, .slice none 0 0, .slice none 0 0, .bool false], .agg #[.bool false, .slice none 0 0, .int .i64 0]]) (by simp [results, Tryd.results7, go_sem]) rfl ⟨fun _ => rfl, fun h => absurd HX.out h, ?_⟩
    repeat (first | exact Below.refl _ _ | refine below_set ?_ (by first | exact Nat.le_refl _ | exact Nat.le_succ _) | refine below_alloc ?_ _)
  · have HX := Lib.hid hx
    go_enter Tryd.func7, Tryd.ntmps7
    go_wp2_with (first
      | (go_at_call 18; refine (refRises_calls _ _ _ xs (Kd.C_alloc (Kd.C_alloc HR.out _) _)).mono ?_; rintro e w1 ⟨_, h1, rfl⟩; obtain rfl := h1 HX.out; clear h1)
      | (go_at_call 16; refine (refN_calls _ 1).mono ?_; rintro e w1 ⟨rfl, rfl⟩))
    (try simp only [Exit.inBlock, Exit.then])
    refine bodyPost_ret (v := .tuple #[.agg #[.slice none 0 0, .slice none 0 0, .slice none 0 0, .bool false], .agg #[.bool true, .slice none 0 0, .int .i64 1]]) (by simp [results, Tryd.results7, go_sem]) rfl ⟨fun h => absurd h HX.out, fun _ => rfl, ?_⟩
    repeat (first | exact Below.refl _ _ | refine below_set ?_ (by first | exact Nat.le_refl _ | exact Nat.le_succ _) | refine below_alloc ?_ _)
end Go.Proofs.YtpnokpoikhpiiaaDoor
