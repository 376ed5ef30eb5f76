/- WireShort. -/
import Derived.Test.YthacedijfjcbcaaDoorDTakes
import Derived.Test.YthacedijfjcbcaaDoorShortF
import Derived.WalkKit
namespace Go.Proofs.YthacedijfjcbcaaDoor
open Go.RowKit Go.Proofs.YthacedijfjcbcaaDoorW.PrintWords Go.Proofs.YthacedijfjcbcaaDoorW.PrintLast Go.Proofs.YthacedijfjcbcaaDoorW.PrintMore
set_option linter.unusedVariables false
set_option linter.unusedSimpArgs false
theorem refAt_E (w : World) (kind k n : Int) :
    Calls Tryd.prog 12 #[.int .i64 kind, .int .i64 k, .agg #[.bool true, .slice none 0 0, .int .i64 n]] w fun e w' => ∃ v, e = .returned v ∧ IsE w' (.at_ kind k n) v ∧ Below w.heap.size w w' := by
  refine (refAt_calls w kind k n).mono ?_
  rintro e w2 ⟨rfl, rfl⟩
  refine ⟨_, rfl, ⟨w.heap.size + 1 + 1, 1, rfl, ?_, ?_⟩, ?_⟩
  · simp [go_sem]
  · simp [go_sem]
  · repeat (first | exact Below.refl _ _ | refine below_alloc ?_ _)
/-- b[:hi]. -/
theorem B_front {w : World} {A : Option Addr} {c hi : Nat} {b : List UInt8} (h : kB.C w A b.length b) (h2 : hi ≤ b.length) (hc : b.length ≤ c) (y : Int) (hy : y = (hi : Int)) :
    ∃ A', (∀ W : World, (Instr.slice 23 (.slice A b.length c) none (some (.int .i64 y)) none).run Tryd.prog W = .ok (.slice A' ((b.take hi).drop 0).length c) W) ∧ kB.C w A' ((b.take hi).drop 0).length ((b.take hi).drop 0) ∧ ((b.take hi).drop 0).length ≤ c := by
  subst hy
  have hl : ((b.take hi).drop 0).length = hi := by rw [List.length_drop, List.length_take]; omega
  have hC := Kd.C_mid (k := kB) h (Nat.zero_le hi) h2 hc
  refine ⟨if c = 0 then A else A.map (·.add (0 * kB.sz)), fun W => ?_, hC, by omega⟩
  obtain ⟨i0, hi0, hz0, hz1, hz2⟩ := info_parts info5
  have ht := Tryd.underlying23
  have hel : Tryd.prog.elem 23 = 5 := by simp [Program.elem, ht]
  have hu : Tryd.prog.underlying 23 = some (.slice (Tryd.prog.elem 23)) := by rw [hel]; exact ht
  rw [run_slice_h (w := W) 23 A b.length c hu .i64 (hi : Int) (by omega) (by omega), hel, hl]
  have e1 : kB.sz = 1 := rfl
  simp [sizeOf, typeInfo, hi0, hz1, sliced, Result.andThen, e1]

/-- PutUint at a whole number that is x: the kernel must not reckon with the cast of a variable against 2^63. -/
theorem putUint_of (w : World) (A : Option Addr) (c : Nat) (xs : List UInt8) (xi : Int) (x : Nat) (h : xi = (x : Int)) (hx : kB.C w A xs.length xs) (hn : x < 18446744073709551616) (hl : xs.length ≤ 1099511627776) :
    Calls Tryd.prog 9 #[.slice A xs.length c, .int .u64 xi] w (NewBytes w (xs ++ uintsF x)) := by
  subst h
  exact putUint_calls w A c xs x hx hn hl
set_option maxRecDepth 100000 in
set_option maxHeartbeats 2000000 in
theorem wireShort_calls (w : World) (hg : Laid w) (xi : Int) (hxi0 : 0 ≤ xi) (hxi1 : xi ≤ 18446744073709551615) (A : Option Addr) (c : Nat) (p : List UInt8) (cut : Int) (hp : kB.C w A p.length p) (hc : p.length ≤ c) (hl : p.length ≤ 9223372036854775807) :
    Calls Tryd.prog 3 #[.int .u64 xi, .slice A p.length c, .int .i64 cut] w fun e w' => e = .returned (.bool true) ∧ Below w.heap.size w w' := by
  obtain ⟨x, hxx⟩ := Int.eq_ofNat_of_zero_le hxi0
  have hx : x < 18446744073709551616 := by omega
  have HXX := Lib.hid hxx
  clear hxx
  have HX := Lib.hid hp
  have HN := Lib.hid hx
  have HC := Lib.hid hc
  have HG := Lib.hid hg
  have hl1 : (p.length : Int) ≤ 9223372036854775807 := by omega
  clear hp hc hg
  by_cases h3 : 1000 < p.length
  · have h3' : (1000 : Int) < p.length := by omega
    clear h3
    go_enter Tryd.func3, Tryd.ntmps3
    go_wp2_with (go_at_call 7; refine (awake_calls _).mono ?_; rintro e w0 ⟨rfl, hb⟩; have H0 := Aside0.mk hb; clear hb)
    go_ret
    exact ⟨rfl, H0.out⟩
  have h3' : ¬ (1000 : Int) < p.length := by omega
  have HL := Lib.hid (show p.length ≤ 1099511627776 by omega)
  obtain ⟨K, hK⟩ : ∃ K, K = uintsF x := ⟨_, rfl⟩
  obtain ⟨T, hT⟩ : ∃ T, T = K ++ uintsF p.length ++ p := ⟨_, rfl⟩
  have hKl := uintsF_len x hx
  have hPl := uintsF_len p.length (by omega)
  rw [← hK] at hKl
  have hTl : T.length ≤ 1100 := by rw [hT]; simp only [List.length_append]; omega
  have hten : 9223372036854775808 ≤ x → K.length = 10 := fun h => by
    have := uintsF_ten 9 x (by omega)
    rw [← hK] at this
    omega
  have HK := Lib.hid hK
  have HT := Lib.hid hT
  have HKL := Lib.hid hKl
  have HTL := Lib.hid hTl
  have t1 : (T.length : Int) ≤ 1100 := by omega
  have t2 : (K.length : Int) ≤ 10 := by omega
  have t3 : (1 : Int) ≤ K.length := by omega
  by_cases h0 : cut < 0 ∨ (T.length : Int) ≤ cut
  · obtain ⟨B, hB⟩ : ∃ B : Bool, B = decide (cut < 0) := ⟨_, rfl⟩
    have key : ∀ (q : Prop) [Decidable q], cut < 0 ∨ (T.length : Int) ≤ cut := fun _ _ => h0
    clear hK hT hKl hPl hTl hten h3
    by_cases h1 : cut < 0
    · clear h0 hB key
      go_enter Tryd.func3, Tryd.ntmps3
      go_wp2_with (first
        | (go_at_call 8; refine (putBytes_calls _ _ _ K _ _ p HC1.out (Kd.C_below HX.out H1.out) (by have := HKL.out; omega) HL.out).mono ?_; intro e w2 h; rw [← HT.out] at h; obtain ⟨A2, c2, rfl, hcc, _, hC, hb⟩ := h.open_; have HC2 := Aside0.mk hC; have HCC := Lib.hid hcc; have H2 := Aside0.mk (below_step H1.out hb); clear h hC hb hcc)
        | (go_at_call 9; refine (putUint_of _ none 0 [] xi x HXX.out ⟨rfl, by decide, fun h => absurd h (by decide)⟩ HN.out (by decide)).mono ?_; intro e w1 h; rw [List.nil_append, ← HK.out] at h; obtain ⟨A1, c1, rfl, _, _, hC, hb⟩ := h.open_; have HC1 := Aside0.mk hC; have H1 := Aside0.mk (below_step H0.out hb); clear h hC hb)
        | (go_at_call 7; refine (awake_calls _).mono ?_; rintro e w0 ⟨rfl, hb⟩; have H0 := Aside0.mk hb; clear hb))
      go_ret
      exact ⟨rfl, H2.out⟩
    · have h2 : (T.length : Int) ≤ cut := by omega
      clear h0 hB key
      go_enter Tryd.func3, Tryd.ntmps3
      go_wp2_with (first
        | (go_at_call 8; refine (putBytes_calls _ _ _ K _ _ p HC1.out (Kd.C_below HX.out H1.out) (by have := HKL.out; omega) HL.out).mono ?_; intro e w2 h; rw [← HT.out] at h; obtain ⟨A2, c2, rfl, hcc, _, hC, hb⟩ := h.open_; have HC2 := Aside0.mk hC; have HCC := Lib.hid hcc; have H2 := Aside0.mk (below_step H1.out hb); clear h hC hb hcc)
        | (go_at_call 9; refine (putUint_of _ none 0 [] xi x HXX.out ⟨rfl, by decide, fun h => absurd h (by decide)⟩ HN.out (by decide)).mono ?_; intro e w1 h; rw [List.nil_append, ← HK.out] at h; obtain ⟨A1, c1, rfl, _, _, hC, hb⟩ := h.open_; have HC1 := Aside0.mk hC; have H1 := Aside0.mk (below_step H0.out hb); clear h hC hb)
        | (go_at_call 7; refine (awake_calls _).mono ?_; rintro e w0 ⟨rfl, hb⟩; have H0 := Aside0.mk hb; clear hb))
      go_ret
      exact ⟨rfl, H2.out⟩
  obtain ⟨m, rfl⟩ := Int.eq_ofNat_of_zero_le (show 0 ≤ cut by omega)
  have hm : m < T.length := by omega
  have m0 : (0 : Int) ≤ m := by omega
  have m1 : ¬ (T.length : Int) ≤ m := by omega
  have HM := Lib.hid hm
  obtain ⟨D, hD⟩ : ∃ D, D = T.take m := ⟨_, rfl⟩
  have hDl : D.length ≤ 1100 := by rw [hD, List.length_take]; omega
  have HDD := Lib.hid hD
  have HDL := Lib.hid hDl
  have d1 : (D.length : Int) ≤ 1100 := by omega
  have m2 : (m : Int) ≤ 1100 := by omega
  by_cases hs : m < K.length
  · have HU := Lib.hid (show takeU D 0 = (0, 0, .at_ 1 (m : Int) 6) by
      rw [hD, hT, hK, List.append_assoc]; exact short_first x hx _ m (by rw [← hK]; exact hs))
    have s1 : (m : Int) < K.length := by omega
    clear hK hT hKl hPl hTl hten h3 h0 hm hD hDl hs hx
    go_enter Tryd.func3, Tryd.ntmps3
    go_wp2_with (first
      | (go_at_call 11; refine (fails_calls _ _ (.at_ 1 (m : Int) 6) _ _ (HG.out.below H6.out) ((HV4.out.below (below_alloc (Below.refl _ _) _)).below HB6.out) HV6.out).mono ?_; rintro e w7 ⟨rfl, hb⟩; have H7 := Aside0.mk (below_step H6.out hb); clear hb)
      | (go_at_call 12; refine (refAt_E _ 1 m 6).mono ?_; rintro e w6 ⟨v6, rfl, hv, hb⟩; have HV6 := Aside0.mk hv; have HB6 := Aside0.mk hb; have H6 := Aside0.mk (below_step (below_alloc H4.out _) hb); clear hv hb)
      | (go_at_call 13; refine (refN_calls _ 6).mono ?_; rintro e w5 ⟨rfl, rfl⟩)
      | (go_at_call 10; refine (takeUint_calls _ _ _ D 0 (Kd.C_below HCD.out HB3.out) HLD.out (by have := HDL.out; omega)).mono ?_; intro e w4 h; unfold TakeUPost at h; rw [HU.out] at h; obtain ⟨v4, rfl, hv, hb⟩ := h; have HV4 := Aside0.mk hv; have H4 := Aside0.mk (below_step H3.out hb); clear hv hb)
      | (go_at_call 9; have h2z := H2.out; refine (putUint_of _ none 0 [] xi x HXX.out ⟨rfl, by decide, fun h => absurd h (by decide)⟩ HN.out (by decide)).mono ?_; intro e w3 h; rw [List.nil_append, ← HK.out] at h; obtain ⟨A3, c3, rfl, _, _, hC, hb⟩ := h.open_; have HB3 := Aside0.mk hb; have H3 := Aside0.mk (below_step H2.out hb); clear h hC hb h2z)
      | (go_at_call 8; refine (putBytes_calls _ _ _ K _ _ p HC1.out (Kd.C_below HX.out H1.out) (by have := HKL.out; omega) HL.out).mono ?_; intro e w2 h; rw [← HT.out] at h; obtain ⟨A2, c2, rfl, hcc, _, hC, hb⟩ := h.open_; obtain ⟨A', hcut, hCD, hLD⟩ := B_front (hi := m) hC (Nat.le_of_lt HM.out) hcc (m : Int) rfl; rw [List.drop_zero, ← HDD.out] at hcut hCD hLD; have HCD := Aside0.mk hCD; have HLD := Lib.hid hLD; have H2 := Aside0.mk (below_step H1.out hb); clear h hC hb hcc hCD hLD)
      | (go_at_call 9; refine (putUint_of _ none 0 [] xi x HXX.out ⟨rfl, by decide, fun h => absurd h (by decide)⟩ HN.out (by decide)).mono ?_; intro e w1 h; rw [List.nil_append, ← HK.out] at h; obtain ⟨A1, c1, rfl, _, _, hC, hb⟩ := h.open_; have HC1 := Aside0.mk hC; have H1 := Aside0.mk (below_step H0.out hb); clear h hC hb)
      | (go_at_call 7; refine (awake_calls _).mono ?_; rintro e w0 ⟨rfl, hb⟩; have H0 := Aside0.mk hb; clear hb))
    go_ret
    exact ⟨rfl, H7.out⟩
  · have HU := Lib.hid (show takeU D 0 = (x, (K.length : Int), .ok) by
      rw [hD, hT, hK, List.append_assoc]; exact short_over x hx _ m (by rw [← hK]; omega))
    have HB := Lib.hid (show takeB D (K.length : Nat) = ([], 0, .at_ 1 (m : Int) 6) by
      rw [hD, hT]; exact short_second K p m (by omega) (by omega) (by rw [← hT]; exact hm))
    have s1 : ¬ (m : Int) < K.length := by omega
    clear hK hT hKl hPl hTl h3 h0 hm hD hDl hs hx
    by_cases h63 : x < 9223372036854775808
    · have x63 : xi ≤ 9223372036854775807 := by have := HXX.out; omega
      clear h63 hten
      go_enter Tryd.func3, Tryd.ntmps3
      go_wp2_with (first
        | (go_at_call 11; refine (fails_calls _ _ (.at_ 1 (m : Int) 6) _ _ (HG.out.below H6.out) ((HV5.out.below (below_alloc (Below.refl _ _) _)).below HB6.out) HV6.out).mono ?_; rintro e w7 ⟨rfl, hb⟩; have H7 := Aside0.mk (below_step H6.out hb); clear hb)
        | (go_at_call 12; refine (refAt_E _ 1 m 6).mono ?_; rintro e w6 ⟨v6, rfl, hv, hb⟩; have HV6 := Aside0.mk hv; have HB6 := Aside0.mk hb; have H6 := Aside0.mk (below_step (below_alloc H5.out _) hb); clear hv hb)
        | (go_at_call 13; refine (refN_calls _ 6).mono ?_; rintro e w5 ⟨rfl, rfl⟩)
        | (go_at_call 14; refine (takeBytes_calls _ _ _ D (K.length : Nat) (Kd.C_below HCD.out (below_step HB3.out HB4.out)) HLD.out (by have := HDL.out; omega)).mono ?_; intro e w5 h; unfold TakeBPost at h; rw [HB.out] at h; obtain ⟨pv, v5, rfl, hp, hv, hb⟩ := h; have HV5 := Aside0.mk hv; have H5 := Aside0.mk (below_step H4.out hb); clear hv hb hp)
        | (go_at_call 10; refine (takeUint_calls _ _ _ D 0 (Kd.C_below HCD.out HB3.out) HLD.out (by have := HDL.out; omega)).mono ?_; intro e w4 h; unfold TakeUPost at h; rw [HU.out] at h; obtain ⟨v4, rfl, hv, hb⟩ := h; have HV : v4 = .nilIface := hv; subst HV; have HB4 := Aside0.mk hb; have H4 := Aside0.mk (below_step H3.out hb); clear hv hb)
        | (go_at_call 9; have h2z := H2.out; refine (putUint_of _ none 0 [] xi x HXX.out ⟨rfl, by decide, fun h => absurd h (by decide)⟩ HN.out (by decide)).mono ?_; intro e w3 h; rw [List.nil_append, ← HK.out] at h; obtain ⟨A3, c3, rfl, _, _, hC, hb⟩ := h.open_; have HB3 := Aside0.mk hb; have H3 := Aside0.mk (below_step H2.out hb); clear h hC hb h2z)
        | (go_at_call 8; refine (putBytes_calls _ _ _ K _ _ p HC1.out (Kd.C_below HX.out H1.out) (by have := HKL.out; omega) HL.out).mono ?_; intro e w2 h; rw [← HT.out] at h; obtain ⟨A2, c2, rfl, hcc, _, hC, hb⟩ := h.open_; obtain ⟨A', hcut, hCD, hLD⟩ := B_front (hi := m) hC (Nat.le_of_lt HM.out) hcc (m : Int) rfl; rw [List.drop_zero, ← HDD.out] at hcut hCD hLD; have HCD := Aside0.mk hCD; have HLD := Lib.hid hLD; have H2 := Aside0.mk (below_step H1.out hb); clear h hC hb hcc hCD hLD)
        | (go_at_call 9; refine (putUint_of _ none 0 [] xi x HXX.out ⟨rfl, by decide, fun h => absurd h (by decide)⟩ HN.out (by decide)).mono ?_; intro e w1 h; rw [List.nil_append, ← HK.out] at h; obtain ⟨A1, c1, rfl, _, _, hC, hb⟩ := h.open_; have HC1 := Aside0.mk hC; have H1 := Aside0.mk (below_step H0.out hb); clear h hC hb)
        | (go_at_call 7; refine (awake_calls _).mono ?_; rintro e w0 ⟨rfl, hb⟩; have H0 := Aside0.mk hb; clear hb))
      go_ret
      exact ⟨rfl, H7.out⟩
    · have x63 : (9223372036854775808 : Int) ≤ xi := by have := HXX.out; omega
      have k10 : ((K.length : Int) == 10) = true := beq_iff_eq.2 (by have := hten (by omega); omega)
      clear h63 hten
      go_enter Tryd.func3, Tryd.ntmps3
      go_wp2_with (first
        | (go_at_call 11; refine (fails_calls _ _ (.at_ 1 (m : Int) 6) _ _ (HG.out.below H6.out) ((HV5.out.below (below_alloc (Below.refl _ _) _)).below HB6.out) HV6.out).mono ?_; rintro e w7 ⟨rfl, hb⟩; have H7 := Aside0.mk (below_step H6.out hb); clear hb)
        | (go_at_call 12; refine (refAt_E _ 1 m 6).mono ?_; rintro e w6 ⟨v6, rfl, hv, hb⟩; have HV6 := Aside0.mk hv; have HB6 := Aside0.mk hb; have H6 := Aside0.mk (below_step (below_alloc H5.out _) hb); clear hv hb)
        | (go_at_call 13; refine (refN_calls _ 6).mono ?_; rintro e w5 ⟨rfl, rfl⟩)
        | (go_at_call 14; refine (takeBytes_calls _ _ _ D (K.length : Nat) (Kd.C_below HCD.out (below_step HB3.out HB4.out)) HLD.out (by have := HDL.out; omega)).mono ?_; intro e w5 h; unfold TakeBPost at h; rw [HB.out] at h; obtain ⟨pv, v5, rfl, hp, hv, hb⟩ := h; have HV5 := Aside0.mk hv; have H5 := Aside0.mk (below_step H4.out hb); clear hv hb hp)
        | (go_at_call 10; refine (takeUint_calls _ _ _ D 0 (Kd.C_below HCD.out HB3.out) HLD.out (by have := HDL.out; omega)).mono ?_; intro e w4 h; unfold TakeUPost at h; rw [HU.out] at h; obtain ⟨v4, rfl, hv, hb⟩ := h; have HV : v4 = .nilIface := hv; subst HV; have HB4 := Aside0.mk hb; have H4 := Aside0.mk (below_step H3.out hb); clear hv hb)
        | (go_at_call 9; have h2z := H2.out; refine (putUint_of _ none 0 [] xi x HXX.out ⟨rfl, by decide, fun h => absurd h (by decide)⟩ HN.out (by decide)).mono ?_; intro e w3 h; rw [List.nil_append, ← HK.out] at h; obtain ⟨A3, c3, rfl, _, _, hC, hb⟩ := h.open_; have HB3 := Aside0.mk hb; have H3 := Aside0.mk (below_step H2.out hb); clear h hC hb h2z)
        | (go_at_call 8; refine (putBytes_calls _ _ _ K _ _ p HC1.out (Kd.C_below HX.out H1.out) (by have := HKL.out; omega) HL.out).mono ?_; intro e w2 h; rw [← HT.out] at h; obtain ⟨A2, c2, rfl, hcc, _, hC, hb⟩ := h.open_; obtain ⟨A', hcut, hCD, hLD⟩ := B_front (hi := m) hC (Nat.le_of_lt HM.out) hcc (m : Int) rfl; rw [List.drop_zero, ← HDD.out] at hcut hCD hLD; have HCD := Aside0.mk hCD; have HLD := Lib.hid hLD; have H2 := Aside0.mk (below_step H1.out hb); clear h hC hb hcc hCD hLD)
        | (go_at_call 9; refine (putUint_of _ none 0 [] xi x HXX.out ⟨rfl, by decide, fun h => absurd h (by decide)⟩ HN.out (by decide)).mono ?_; intro e w1 h; rw [List.nil_append, ← HK.out] at h; obtain ⟨A1, c1, rfl, _, _, hC, hb⟩ := h.open_; have HC1 := Aside0.mk hC; have H1 := Aside0.mk (below_step H0.out hb); clear h hC hb)
        | (go_at_call 7; refine (awake_calls _).mono ?_; rintro e w0 ⟨rfl, hb⟩; have H0 := Aside0.mk hb; clear hb))
      go_ret
      exact ⟨rfl, H7.out⟩
end Go.Proofs.YthacedijfjcbcaaDoor
