/- wire: the walk of WireNumbers. -/
import Derived.Test.YthacedijfjcbcaaWAwake
namespace Go.Proofs.Ythacedijfjcbcaa
open Go.RowKit Go.Proofs.YthacedijfjcbcaaW.PrintWords Go.Proofs.YthacedijfjcbcaaW.PrintLast Go.Proofs.YthacedijfjcbcaaW.PrintMore
set_option linter.unusedVariables false
set_option linter.unusedSimpArgs false

set_option maxRecDepth 100000 in
set_option maxHeartbeats 4000000 in
theorem numbers_walk (w : World) (A : Option Addr) (c : Nat) (b : List UInt8) (x : Nat) (y : Int) (hx : kB.C w A b.length b) (hc : b.length ≤ c) (hn : x < 18446744073709551616) (h0 : -9223372036854775808 ≤ y) (h1 : y ≤ 9223372036854775807) :
    Calls Try.prog 4 #[.slice A b.length c, .int .u64 (x : Int), .int .i64 y] w fun e w' => e = .returned (.bool true) ∧ Below w.heap.size w w' := by
  have HX := Lib.hid hx
  have HC := Lib.hid hc
  have HN := Lib.hid hn
  have hm : (b.length : Int) ≤ 9223372036854775807 := by have := hx.2.1; omega
  have HY := Lib.hid (And.intro h0 h1)
  clear hx hc hn h0 h1
  by_cases h3 : 3000 < b.length
  · have h3' : (3000 : Int) < b.length := by omega
    clear h3
    go_enter Try.func4, Try.ntmps4
    go_wp2_with (go_at_call 8; refine (awake_calls _).mono ?_; rintro e w0 ⟨rfl, hb⟩; have H0 := Aside0.mk hb; clear hb)
    go_ret
    exact ⟨rfl, H0.out⟩
  · have h3' : ¬ (3000 : Int) < b.length := by omega
    have HL := Lib.hid (show b.length ≤ 1099511627776 by omega)
    have HL3 := Lib.hid (show b.length ≤ 3000 by omega)
    obtain ⟨L, hL⟩ : ∃ L, L = b ++ uintsF x := ⟨_, rfl⟩
    obtain ⟨M, hM⟩ : ∃ M, M = b ++ uintsF (zig y) := ⟨_, rfl⟩
    obtain ⟨S, hS⟩ : ∃ S, S = uintsF b.length ++ b := ⟨_, rfl⟩
    obtain ⟨T, hT⟩ : ∃ T, T = b ++ S := ⟨_, rfl⟩
    have hT2 : b ++ uintsF b.length ++ b = T := by rw [hT, hS, List.append_assoc]
    have HQ1 := Lib.hid hL
    have HQ2 := Lib.hid hM
    have HQ3 := Lib.hid hS
    have HQ4 := Lib.hid hT
    have HQ5 := Lib.hid hT2
    have HU1 := Lib.hid (show b.length + (uintsF x).length ≤ 140737488355328 by have := uintsF_len x HN.out; omega)
    have HU2 := Lib.hid (show b.length + (uintsF (zig y)).length ≤ 140737488355328 by have := uintsF_len (zig y) (zig_lt y HY.out.1 HY.out.2); omega)
    have HU3 := Lib.hid (show b.length + S.length ≤ 140737488355328 by rw [hS, List.length_append]; have := uintsF_len b.length (by omega); omega)
    clear h3 hL hM hS hT hT2
    go_enter Try.func4, Try.ntmps4
    go_wp2_with (first
      | (go_at_call 10; refine (bytes_same _ _ _ _ _ T (Kd.C_below HC13.out (below_step HB14.out HB15.out)) HC15.out).mono ?_; rintro e w16 ⟨rfl, rfl⟩)
      | (go_at_call 13; refine (join_calls _ _ _ b _ _ S (Kd.C_below HX.out H14.out) HC14.out HU3.out).mono ?_; intro e w15 h; rw [← HQ4.out] at h; obtain ⟨A15, c15, rfl, _, _, hC, hb⟩ := h.open_; have HC15 := Aside0.mk hC; have HB15 := Aside0.mk hb; have H15 := Aside0.mk (below_step H14.out hb); clear h hC hb)
      | (go_at_call 18; refine (refStr_calls _ _ _ b (Kd.C_below HX.out H13.out) HL.out).mono ?_; intro e w14 h; rw [← HQ3.out] at h; obtain ⟨A14, c14, rfl, _, _, hC, hb⟩ := h.open_; have HC14 := Aside0.mk hC; have HB14 := Aside0.mk hb; have H14 := Aside0.mk (below_step H13.out hb); clear h hC hb)
      | (go_at_call 17; refine (putBytes_calls _ _ _ b _ _ b (Kd.C_below HC11.out HB12.out) HC12.out HL.out HL.out).mono ?_; intro e w13 h; rw [HQ5.out] at h; obtain ⟨A13, c13, rfl, _, _, hC, hb⟩ := h.open_; have HC13 := Aside0.mk hC; have HB13 := Aside0.mk hb; have H13 := Aside0.mk (below_step H12.out hb); clear h hC hb)
      | (go_at_call 12; refine (twin_calls _ _ _ b (Kd.C_below HX.out H11.out) HL.out).mono ?_; intro e w12 h; obtain ⟨A12, c12, rfl, _, _, hC, hb⟩ := h.open_; have HC12 := Aside0.mk hC; have HB12 := Aside0.mk hb; have H12 := Aside0.mk (below_step H11.out hb); clear h hC hb)
      | (go_at_call 12; refine (twin_calls _ _ _ b (Kd.C_below HX.out H9.out) HL.out).mono ?_; intro e w11 h; obtain ⟨A11, c11, rfl, _, _, hC, hb⟩ := h.open_; have HC11 := Aside0.mk hC; have HB11 := Aside0.mk hb; have H11 := Aside0.mk (below_step H9.out hb); clear h hC hb)
      | (go_at_call 10; refine (bytes_same _ _ _ _ _ M (Kd.C_below HC7.out (below_step HB8.out HB9.out)) HC9.out).mono ?_; rintro e w10 ⟨rfl, rfl⟩)
      | (go_at_call 13; refine (join_calls _ _ _ b _ _ (uintsF (zig y)) (Kd.C_below HX.out H8.out) HC8.out HU2.out).mono ?_; intro e w9 h; rw [← HQ2.out] at h; obtain ⟨A9, c9, rfl, _, _, hC, hb⟩ := h.open_; have HC9 := Aside0.mk hC; have HB9 := Aside0.mk hb; have H9 := Aside0.mk (below_step H8.out hb); clear h hC hb)
      | (go_at_call 16; refine (refInt_calls _ y HY.out.1 HY.out.2).mono ?_; intro e w8 h; obtain ⟨A8, c8, rfl, _, _, hC, hb⟩ := h.open_; have HC8 := Aside0.mk hC; have HB8 := Aside0.mk hb; have H8 := Aside0.mk (below_step H7.out hb); clear h hC hb)
      | (go_at_call 15; refine (putInt_calls _ _ _ b y HC6.out HY.out.1 HY.out.2 HL.out).mono ?_; intro e w7 h; rw [← HQ2.out] at h; obtain ⟨A7, c7, rfl, _, _, hC, hb⟩ := h.open_; have HC7 := Aside0.mk hC; have HB7 := Aside0.mk hb; have H7 := Aside0.mk (below_step H6.out hb); clear h hC hb)
      | (go_at_call 12; refine (twin_calls _ _ _ b (Kd.C_below HX.out H4.out) HL.out).mono ?_; intro e w6 h; obtain ⟨A6, c6, rfl, _, _, hC, hb⟩ := h.open_; have HC6 := Aside0.mk hC; have HB6 := Aside0.mk hb; have H6 := Aside0.mk (below_step H4.out hb); clear h hC hb)
      | (go_at_call 10; refine (bytes_same _ _ _ _ _ L (Kd.C_below HC2.out (below_step HB3.out HB4.out)) HC4.out).mono ?_; rintro e w5 ⟨rfl, rfl⟩)
      | (go_at_call 13; refine (join_calls _ _ _ b _ _ (uintsF x) (Kd.C_below HX.out H3.out) HC3.out HU1.out).mono ?_; intro e w4 h; rw [← HQ1.out] at h; obtain ⟨A4, c4, rfl, _, _, hC, hb⟩ := h.open_; have HC4 := Aside0.mk hC; have HB4 := Aside0.mk hb; have H4 := Aside0.mk (below_step H3.out hb); clear h hC hb)
      | (go_at_call 14; refine (refUint_calls _ x HN.out).mono ?_; intro e w3 h; obtain ⟨A3, c3, rfl, _, _, hC, hb⟩ := h.open_; have HC3 := Aside0.mk hC; have HB3 := Aside0.mk hb; have H3 := Aside0.mk (below_step H2.out hb); clear h hC hb)
      | (go_at_call 11; refine (putUint_calls _ _ _ b x HC1.out HN.out HL.out).mono ?_; intro e w2 h; rw [← HQ1.out] at h; obtain ⟨A2, c2, rfl, _, _, hC, hb⟩ := h.open_; have HC2 := Aside0.mk hC; have HB2 := Aside0.mk hb; have H2 := Aside0.mk (below_step H1.out hb); clear h hC hb)
      | (go_at_call 12; refine (twin_calls _ _ _ b (Kd.C_below HX.out H0.out) HL.out).mono ?_; intro e w1 h; obtain ⟨A1, c1, rfl, _, _, hC, hb⟩ := h.open_; have HC1 := Aside0.mk hC; have HB1 := Aside0.mk hb; have H1 := Aside0.mk (below_step H0.out hb); clear h hC hb)
      | (go_at_call 8; refine (awake_calls _).mono ?_; rintro e w0 ⟨rfl, hb⟩; have H0 := Aside0.mk hb; clear hb))
    go_ret
    exact ⟨rfl, H15.out⟩
end Go.Proofs.Ythacedijfjcbcaa
