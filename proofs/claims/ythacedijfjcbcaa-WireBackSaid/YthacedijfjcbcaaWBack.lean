/- wire: the walk of WireBack. -/
import Derived.Test.YthacedijfjcbcaaWBackF
import Derived.Deep.RegionHeld3
import Derived.BigRegion
namespace Go.Proofs.Ythacedijfjcbcaa
open Go.RowKit Go.Proofs.YthacedijfjcbcaaW.PrintWords Go.Proofs.YthacedijfjcbcaaW.PrintLast Go.Proofs.YthacedijfjcbcaaW.PrintMore
set_option linter.unusedVariables false
set_option linter.unusedSimpArgs false

set_option maxRecDepth 100000 in
set_option maxHeartbeats 400000 in
theorem back_walk (w : World) (x : Nat) (y : Int) (A : Option Addr) (c : Nat) (p : List UInt8) (hx : kB.C w A p.length p) (hc : p.length ≤ c) (hn : x < 18446744073709551616) (h0 : -9223372036854775808 ≤ y) (h1 : y ≤ 9223372036854775807) :
    Calls Try.prog 6 #[.int .u64 (x : Int), .int .i64 y, .slice A p.length c] w fun e w' => e = .returned (.bool true) ∧ Below w.heap.size w w' := by
  have HX := Lib.hid hx
  have HC := Lib.hid hc
  have HN := Lib.hid hn
  have hm : (p.length : Int) ≤ 9223372036854775807 := by have := hx.2.1; omega
  have HY := Lib.hid (And.intro h0 h1)
  clear hx hc hn h0 h1
  by_cases h3 : 3000 < p.length
  · have h3' : (3000 : Int) < p.length := by omega
    clear h3
    go_enter Try.func6, Try.ntmps6
    go_wp2_with (go_at_call 8; refine (awake_calls _).mono ?_; rintro e w0 ⟨rfl, hb⟩; have H0 := Aside0.mk hb; clear hb)
    go_ret
    exact ⟨rfl, H0.out⟩
  · have h3' : ¬ (3000 : Int) < p.length := by omega
    have HL := Lib.hid (show p.length ≤ 1099511627776 by omega)
    obtain ⟨K, hK⟩ : ∃ K, K = uintsF x := ⟨_, rfl⟩
    obtain ⟨L, hL⟩ : ∃ L, L = K ++ uintsF (zig y) := ⟨_, rfl⟩
    obtain ⟨T, hT⟩ : ∃ T, T = L ++ uintsF p.length ++ p := ⟨_, rfl⟩
    have u1 := uintsF_len x HN.out
    have u2 := uintsF_len (zig y) (zig_lt y HY.out.1 HY.out.2)
    have u3 := uintsF_len p.length (by omega)
    rw [← hK] at u1
    have hKl : K.length ≤ 10 := u1.2
    have hLl : L.length ≤ 20 := by rw [hL, List.length_append]; omega
    have hTl : T.length ≤ 10000 := by rw [hT, List.length_append, List.length_append]; omega
    have t1 : takeU T 0 = (x, ((K.length : Nat) : Int), .ok) := by
      have := takeU_uints [] (uintsF (zig y) ++ (uintsF p.length ++ p)) x HN.out
      rw [← hK] at this
      simp at this
      rw [hT, hL]
      simpa using this
    have t2 : takeU T ((K.length : Nat) : Int) = (zig y, ((L.length : Nat) : Int), .ok) := by
      have := takeU_uints K (uintsF p.length ++ p) (zig y) (zig_lt y HY.out.1 HY.out.2)
      rw [hT, hL]
      simp at this ⊢
      exact this
    have t3 : takeB T ((L.length : Nat) : Int) = (p, ((T.length : Nat) : Int), .ok) := by
      have := takeB_bytes L p (by omega)
      rw [← List.append_assoc, ← hT] at this
      exact this
    have hz := zag_zig y
    obtain ⟨r, hr⟩ : ∃ r, r = takeU p 0 := ⟨_, rfl⟩
    have hbd := takeU_bound p 0
    have hbk := takeU_back p
    rw [← hr] at hbd hbk
    obtain ⟨u, n, er⟩ := r
    simp only at hbd
    obtain ⟨g1, g2, g3, g4, g5⟩ := hbd
    obtain ⟨n, rfl⟩ := Int.eq_ofNat_of_zero_le g2
    have HR := Lib.hid hr
    have HT1 := Lib.hid t1
    have HT2 := Lib.hid t2
    have HT3 := Lib.hid t3
    have HZ := Lib.hid hz
    have HK := Lib.hid hK
    have HLL := Lib.hid hL
    have HTT := Lib.hid hT
    have HKl := Lib.hid hKl
    have HLl := Lib.hid hLl
    have HTl := Lib.hid hTl
    have HG := Lib.hid g1
    have hun : (u : Int) ≤ 18446744073709551615 := by omega
    have hnn : (n : Int) ≤ p.length := g3
    have hKi : (K.length : Int) ≤ 10000 := by omega
    have hLi : (L.length : Int) ≤ 10000 := by omega
    have hTi : (T.length : Int) ≤ 10000 := by omega
    have exx : ((x : Int) == (x : Int)) = true := beq_self_eq_true _
    have eyy : (y == y) = true := beq_self_eq_true _
    have ett : ((T.length : Int) == (T.length : Int)) = true := beq_self_eq_true _
    by_cases he : er = .ok
    · subst he
      have HBK := Lib.hid (hbk u (n : Int) rfl)
      obtain ⟨A0, hcut0, hD0, _⟩ := B_head (hi := n) HX.out (by omega) HC.out n rfl
      have e0 : (p.take n).drop 0 = uintsF u := by
        have := HBK.out
        rw [Int.toNat_natCast] at this
        rw [List.drop_zero, this]
      rw [e0] at hcut0 hD0
      obtain ⟨V, hV⟩ : ∃ V, V = uintsF u := ⟨_, rfl⟩
      rw [← hV] at hcut0 hD0
      have HV := Lib.hid hV
      have HD0 := Aside0.mk hD0
      clear h3 hK hL hT u1 u2 u3 hKl hLl hTl t1 t2 t3 hz hr hbk g1 g2 g3 g4 g5 hD0 e0 hV
      go_enter Try.func6, Try.ntmps6
      go_wp2_with (first
        | (go_at_call 22; refine (takeUint_calls _ _ _ p 0 (Kd.C_below HX.out H7.out) HC.out HL.out).mono ?_; intro e w8 h; unfold TakeUPost at h; rw [← HR.out] at h; obtain ⟨v, rfl, hv, hb⟩ := h; have HV : v = .nilIface := hv; subst HV; have H8 := Aside0.mk (below_step H7.out hb); clear hv hb)
        | (go_at_call 10; refine (bytes_same _ _ _ _ _ p HC7.out (Kd.C_below HX.out H7.out)).mono ?_; rintro e w9 ⟨rfl, rfl⟩)
        | (go_at_call 24; refine (takeBytes_calls _ _ _ T (L.length : Nat) (Kd.C_below HC4.out (below_step HB5.out HB6.out)) HCC4.out (by have := HTl.out; omega)).mono ?_; intro e w7 h; unfold TakeBPost at h; rw [HT3.out] at h; obtain ⟨pv, v, rfl, hp, hv, hb⟩ := h; have HV : v = .nilIface := hv; subst HV; obtain ⟨A7, c7, rfl, hc7, hC7⟩ := Kd.R_reads hp; have HC7 := Aside0.mk hC7; have H7 := Aside0.mk (below_step H6.out hb); clear hv hb hp hc7 hC7)
        | (go_at_call 23; refine (takeInt_calls _ _ _ T (K.length : Nat) (Kd.C_below HC4.out HB5.out) HCC4.out (by have := HTl.out; omega)).mono ?_; intro e w6 h; unfold TakeIPost at h; rw [HT2.out] at h; simp only [] at h; rw [HZ.out] at h; obtain ⟨v, rfl, hv, hb⟩ := h; have HV : v = .nilIface := hv; subst HV; have HB6 := Aside0.mk hb; have H6 := Aside0.mk (below_step H5.out hb); clear hv hb)
        | (go_at_call 22; refine (takeUint_calls _ _ _ T 0 HC4.out HCC4.out (by have := HTl.out; omega)).mono ?_; intro e w5 h; unfold TakeUPost at h; rw [HT1.out] at h; obtain ⟨v, rfl, hv, hb⟩ := h; have HV : v = .nilIface := hv; subst HV; have HB5 := Aside0.mk hb; have H5 := Aside0.mk (below_step H4.out hb); clear hv hb)
        | (go_at_call 17; refine (putBytes_calls _ _ _ L _ _ p (Kd.C_below HC2.out HB3.out) HC3.out (by have := HLl.out; omega) HL.out).mono ?_; intro e w4 h; rw [← HTT.out] at h; obtain ⟨A4, c4, rfl, hc4, _, hC, hb⟩ := h.open_; have HC4 := Aside0.mk hC; have HCC4 := Lib.hid hc4; have HB4 := Aside0.mk hb; have H4 := Aside0.mk (below_step H3.out hb); clear h hC hb hc4)
        | (go_at_call 12; refine (twin_calls _ _ _ p (Kd.C_below HX.out H2.out) HL.out).mono ?_; intro e w3 h; obtain ⟨A3, c3, rfl, _, _, hC, hb⟩ := h.open_; have HC3 := Aside0.mk hC; have HB3 := Aside0.mk hb; have H3 := Aside0.mk (below_step H2.out hb); clear h hC hb)
        | (go_at_call 15; refine (putInt_calls _ _ _ K y HC1.out HY.out.1 HY.out.2 (by have := HKl.out; omega)).mono ?_; intro e w2 h; rw [← HLL.out] at h; obtain ⟨A2, c2, rfl, _, _, hC, hb⟩ := h.open_; have HC2 := Aside0.mk hC; have HB2 := Aside0.mk hb; have H2 := Aside0.mk (below_step H1.out hb); clear h hC hb)
        | (go_at_call 11; refine (putUint_calls _ none 0 [] x ⟨rfl, by decide, fun h => absurd h (by decide)⟩ HN.out (by decide)).mono ?_; intro e w1 h; rw [List.nil_append, ← HK.out] at h; obtain ⟨A1, c1, rfl, _, _, hC, hb⟩ := h.open_; have HC1 := Aside0.mk hC; have HB1 := Aside0.mk hb; have H1 := Aside0.mk (below_step H0.out hb); clear h hC hb)
        | (go_at_call 8; refine (awake_calls _).mono ?_; rintro e w0 ⟨rfl, hb⟩; have H0 := Aside0.mk hb; clear hb))
      refine wp_region_noPanic ?_
      refine wp_region_held_drew (S := fun _ => True) (by kernel_rfl) trivial (fun _ => ?_)
      refine wpAnyH_take (i := 0) (v := ?_) rfl (by kernel_rfl) (by kernel_rfl) (by kernel_rfl) (fun _ _ _ h => h) (Or.inl ⟨by rfl, ?_⟩) trivial ?_
      rotate_left 1
      · first | (intro w _; go_simp; done) | (intro w _; go_simp; with_reducible rfl)
      try simp only [Act.put, List.getElem_toArray, List.getElem_cons_zero, List.getElem_cons_succ, List.setIfInBounds_toArray, List.set_cons_zero, List.set_cons_succ]
      refine wpAnyH_take (i := 1) (v := ?_) rfl (by kernel_rfl) (by kernel_rfl) (by kernel_rfl) (fun _ _ _ h => h) (Or.inl ⟨by rfl, ?_⟩) trivial ?_
      rotate_left 1
      · first | (intro w _; go_simp; done) | (intro w _; go_simp; with_reducible rfl)
      try simp only [Act.put, List.getElem_toArray, List.getElem_cons_zero, List.getElem_cons_succ, List.setIfInBounds_toArray, List.set_cons_zero, List.set_cons_succ]
      refine wpAnyH_take (i := 2) (v := ?_) rfl (by kernel_rfl) (by kernel_rfl) (by kernel_rfl) (fun _ _ _ h => h) (Or.inl ⟨by rfl, ?_⟩) trivial ?_
      rotate_left 1
      · first | (intro w _; go_simp; done) | (intro w _; go_simp; with_reducible rfl)
      try simp only [Act.put, List.getElem_toArray, List.getElem_cons_zero, List.getElem_cons_succ, List.setIfInBounds_toArray, List.set_cons_zero, List.set_cons_succ]
      refine wpAnyH_take (i := 3) (v := undef) rfl (by kernel_rfl) (by kernel_rfl) (by kernel_rfl) (fun _ _ _ h => h) (Or.inr ⟨by rfl, rfl⟩) trivial ?_
      try simp only [Act.put, List.getElem_toArray, List.getElem_cons_zero, List.getElem_cons_succ, List.setIfInBounds_toArray, List.set_cons_zero, List.set_cons_succ]
      refine wpAnyH_take (i := 4) (v := undef) rfl (by kernel_rfl) (by kernel_rfl) (by kernel_rfl) (fun _ _ _ h => h) (Or.inr ⟨by rfl, rfl⟩) trivial ?_
      try simp only [Act.put, List.getElem_toArray, List.getElem_cons_zero, List.getElem_cons_succ, List.setIfInBounds_toArray, List.set_cons_zero, List.set_cons_succ]
      refine wpAnyH_take (i := 5) (v := ?_) rfl (by kernel_rfl) (by kernel_rfl) (by kernel_rfl) (fun _ _ _ h => h) (Or.inl ⟨by rfl, ?_⟩) trivial ?_
      rotate_left 1
      · first | (intro w _; go_simp; done) | (intro w _; go_simp; with_reducible rfl)
      try simp only [Act.put, List.getElem_toArray, List.getElem_cons_zero, List.getElem_cons_succ, List.setIfInBounds_toArray, List.set_cons_zero, List.set_cons_succ]
      refine wpAnyH_take (i := 6) (v := ?_) rfl (by kernel_rfl) (by kernel_rfl) (by kernel_rfl) (fun _ _ _ h => h) (Or.inl ⟨by rfl, ?_⟩) trivial ?_
      rotate_left 1
      · first | (intro w _; go_simp; done) | (intro w _; go_simp; with_reducible rfl)
      try simp only [Act.put, List.getElem_toArray, List.getElem_cons_zero, List.getElem_cons_succ, List.setIfInBounds_toArray, List.set_cons_zero, List.set_cons_succ]
      refine wpAnyH_take (i := 7) (v := undef) rfl (by kernel_rfl) (by kernel_rfl) (by kernel_rfl) (fun _ _ _ h => h) (Or.inr ⟨by rfl, rfl⟩) trivial ?_
      try simp only [Act.put, List.getElem_toArray, List.getElem_cons_zero, List.getElem_cons_succ, List.setIfInBounds_toArray, List.set_cons_zero, List.set_cons_succ]
      refine wpAnyH_take (i := 8) (v := undef) rfl (by kernel_rfl) (by kernel_rfl) (by kernel_rfl) (fun _ _ _ h => h) (Or.inr ⟨by rfl, rfl⟩) trivial ?_
      try simp only [Act.put, List.getElem_toArray, List.getElem_cons_zero, List.getElem_cons_succ, List.setIfInBounds_toArray, List.set_cons_zero, List.set_cons_succ]
      refine wpAnyH_take (i := 9) (v := ?_) rfl (by kernel_rfl) (by kernel_rfl) (by kernel_rfl) (fun _ _ _ h => h) (Or.inl ⟨by rfl, ?_⟩) trivial ?_
      rotate_left 1
      · first | (intro w _; go_simp; done) | (intro w _; go_simp; with_reducible rfl)
      try simp only [Act.put, List.getElem_toArray, List.getElem_cons_zero, List.getElem_cons_succ, List.setIfInBounds_toArray, List.set_cons_zero, List.set_cons_succ]
      refine wpAnyH_take (i := 10) (v := ?_) rfl (by kernel_rfl) (by kernel_rfl) (by kernel_rfl) (fun _ _ _ h => h) (Or.inl ⟨by rfl, ?_⟩) trivial ?_
      rotate_left 1
      · first | (intro w _; go_simp; done) | (intro w _; go_simp; with_reducible rfl)
      try simp only [Act.put, List.getElem_toArray, List.getElem_cons_zero, List.getElem_cons_succ, List.setIfInBounds_toArray, List.set_cons_zero, List.set_cons_succ]
      refine wpAnyH_take (i := 11) (v := ?_) rfl (by kernel_rfl) (by kernel_rfl) (by kernel_rfl) (fun _ _ _ h => h) (Or.inl ⟨by rfl, ?_⟩) trivial ?_
      rotate_left 1
      · first | (intro w _; go_simp; done) | (intro w _; go_simp; with_reducible rfl)
      try simp only [Act.put, List.getElem_toArray, List.getElem_cons_zero, List.getElem_cons_succ, List.setIfInBounds_toArray, List.set_cons_zero, List.set_cons_succ]
      refine wpAnyH_take (i := 12) (v := ?_) rfl (by kernel_rfl) (by kernel_rfl) (by kernel_rfl) (fun _ _ _ h => h) (Or.inl ⟨by rfl, ?_⟩) trivial ?_
      rotate_left 1
      · first | (intro w _; go_simp; done) | (intro w _; go_simp; with_reducible rfl)
      try simp only [Act.put, List.getElem_toArray, List.getElem_cons_zero, List.getElem_cons_succ, List.setIfInBounds_toArray, List.set_cons_zero, List.set_cons_succ]
      refine wpAnyH_take (i := 13) (v := ?_) rfl (by kernel_rfl) (by kernel_rfl) (by kernel_rfl) (fun _ _ _ h => h) (Or.inl ⟨by rfl, ?_⟩) trivial ?_
      rotate_left 1
      · first | (intro w _; go_simp; done) | (intro w _; go_simp; with_reducible rfl)
      try simp only [Act.put, List.getElem_toArray, List.getElem_cons_zero, List.getElem_cons_succ, List.setIfInBounds_toArray, List.set_cons_zero, List.set_cons_succ]
      refine wpAnyH_take (i := 14) (v := ?_) rfl (by kernel_rfl) (by kernel_rfl) (by kernel_rfl) (fun _ _ _ h => h) (Or.inl ⟨by rfl, ?_⟩) trivial ?_
      rotate_left 1
      · first | (intro w _; go_simp; done) | (intro w _; go_simp; with_reducible rfl)
      try simp only [Act.put, List.getElem_toArray, List.getElem_cons_zero, List.getElem_cons_succ, List.setIfInBounds_toArray, List.set_cons_zero, List.set_cons_succ]
      refine wpAnyH_take (i := 16) (v := ?_) rfl (by kernel_rfl) (by kernel_rfl) (by kernel_rfl) (fun _ _ _ h => h) (Or.inl ⟨by rfl, ?_⟩) trivial ?_
      rotate_left 1
      · first | (intro w _; go_simp; done) | (intro w _; go_simp; with_reducible rfl)
      try simp only [Act.put, List.getElem_toArray, List.getElem_cons_zero, List.getElem_cons_succ, List.setIfInBounds_toArray, List.set_cons_zero, List.set_cons_succ]
      refine wpAnyH_take (i := 17) (v := ?_) rfl (by kernel_rfl) (by kernel_rfl) (by kernel_rfl) (fun _ _ _ h => h) (Or.inl ⟨by rfl, ?_⟩) trivial ?_
      rotate_left 1
      · first | (intro w _; go_simp; done) | (intro w _; go_simp; with_reducible rfl)
      try simp only [Act.put, List.getElem_toArray, List.getElem_cons_zero, List.getElem_cons_succ, List.setIfInBounds_toArray, List.set_cons_zero, List.set_cons_succ]
      refine wpAnyH_take (i := 18) (v := ?_) rfl (by kernel_rfl) (by kernel_rfl) (by kernel_rfl) (fun _ _ _ h => h) (Or.inl ⟨by rfl, ?_⟩) trivial ?_
      rotate_left 1
      · first | (intro w _; go_simp; done) | (intro w _; go_simp; with_reducible rfl)
      try simp only [Act.put, List.getElem_toArray, List.getElem_cons_zero, List.getElem_cons_succ, List.setIfInBounds_toArray, List.set_cons_zero, List.set_cons_succ]
      refine wpAnyH_ready (rs := [15]) (by kernel_rfl) (by simp) ?_
      refine AllReadyH.cons rfl (fun K hK => ?_) AllReadyH.nil
      go_simp
      (go_at_call 11; refine (putUint_calls _ none 0 [] u ⟨rfl, by decide, fun h => absurd h (by decide)⟩ HG.out (by decide)).mono ?_; intro e w9 h; rw [List.nil_append, ← HV.out] at h; obtain ⟨A9, c9, rfl, _, _, hC, hb⟩ := h.open_; have HC9 := Aside0.mk hC; have H9 := Aside0.mk (below_step (below_drew H8.out) hb); clear h hC hb)
      go_simp
      refine hK.out _ _ trivial (fun _ => ?_)
      clear hK K
      try simp only [Act.put, List.getElem_toArray, List.getElem_cons_zero, List.getElem_cons_succ, List.setIfInBounds_toArray, List.set_cons_zero, List.set_cons_succ]
      refine wpAnyH_ready (rs := [19]) (by kernel_rfl) (by simp) ?_
      refine AllReadyH.cons rfl (fun K hK => ?_) AllReadyH.nil
      go_simp
      (go_at_call 10; refine (bytes_same _ _ _ _ _ V HC9.out (Kd.C_below HD0.out H9.out)).mono ?_; rintro e w10 ⟨rfl, rfl⟩)
      go_simp
      refine hK.out _ _ trivial (fun _ => ?_)
      clear hK K
      try simp only [Act.put, List.getElem_toArray, List.getElem_cons_zero, List.getElem_cons_succ, List.setIfInBounds_toArray, List.set_cons_zero, List.set_cons_succ]
      refine wpAnyH_take (i := 20) (v := ?_) rfl (by kernel_rfl) (by kernel_rfl) (by kernel_rfl) (fun _ _ _ h => h) (Or.inl ⟨by rfl, ?_⟩) trivial ?_
      rotate_left 1
      · first | (intro w _; go_simp; done) | (intro w _; go_simp; with_reducible rfl)
      try simp only [Act.put, List.getElem_toArray, List.getElem_cons_zero, List.getElem_cons_succ, List.setIfInBounds_toArray, List.set_cons_zero, List.set_cons_succ]
      refine wpAnyH_take (i := 21) (v := ?_) rfl (by kernel_rfl) (by kernel_rfl) (by kernel_rfl) (fun _ _ _ h => h) (Or.inl ⟨by rfl, ?_⟩) trivial ?_
      rotate_left 1
      · first | (intro w _; go_simp; done) | (intro w _; go_simp; with_reducible rfl)
      try simp only [Act.put, List.getElem_toArray, List.getElem_cons_zero, List.getElem_cons_succ, List.setIfInBounds_toArray, List.set_cons_zero, List.set_cons_succ]
      refine wpAnyH_take (i := 22) (v := ?_) rfl (by kernel_rfl) (by kernel_rfl) (by kernel_rfl) (fun _ _ _ h => h) (Or.inl ⟨by rfl, ?_⟩) trivial ?_
      rotate_left 1
      · first | (intro w _; go_simp; done) | (intro w _; go_simp; with_reducible rfl)
      try simp only [Act.put, List.getElem_toArray, List.getElem_cons_zero, List.getElem_cons_succ, List.setIfInBounds_toArray, List.set_cons_zero, List.set_cons_succ]
      refine wpAnyH_done (by kernel_rfl) ?_ _
      refine NoPanic.normal ?_
      all_goals (go_wp2; go_ret; exact ⟨rfl, H9.out⟩)
    · have HE := Lib.hid he
      obtain ⟨rfl, hn0⟩ := g4 he
      obtain rfl : n = 0 := by omega
      clear h3 hK hL hT u1 u2 u3 hKl hLl hTl t1 t2 t3 hz hr hbk g1 g2 g3 g4 g5 he hn0
      go_enter Try.func6, Try.ntmps6
      go_wp2_with (first
        | (go_at_call 22; refine (takeUint_calls _ _ _ p 0 (Kd.C_below HX.out H7.out) HC.out HL.out).mono ?_; intro e w8 h; unfold TakeUPost at h; rw [← HR.out] at h; obtain ⟨v, rfl, hv, hb⟩ := h; obtain ⟨ta, ua, rfl⟩ := IsEr.bad hv HE.out; have H8 := Aside0.mk (below_step H7.out hb); clear hv hb)
        | (go_at_call 10; refine (bytes_same _ _ _ _ _ p HC7.out (Kd.C_below HX.out H7.out)).mono ?_; rintro e w9 ⟨rfl, rfl⟩)
        | (go_at_call 24; refine (takeBytes_calls _ _ _ T (L.length : Nat) (Kd.C_below HC4.out (below_step HB5.out HB6.out)) HCC4.out (by have := HTl.out; omega)).mono ?_; intro e w7 h; unfold TakeBPost at h; rw [HT3.out] at h; obtain ⟨pv, v, rfl, hp, hv, hb⟩ := h; have HV : v = .nilIface := hv; subst HV; obtain ⟨A7, c7, rfl, hc7, hC7⟩ := Kd.R_reads hp; have HC7 := Aside0.mk hC7; have H7 := Aside0.mk (below_step H6.out hb); clear hv hb hp hc7 hC7)
        | (go_at_call 23; refine (takeInt_calls _ _ _ T (K.length : Nat) (Kd.C_below HC4.out HB5.out) HCC4.out (by have := HTl.out; omega)).mono ?_; intro e w6 h; unfold TakeIPost at h; rw [HT2.out] at h; simp only [] at h; rw [HZ.out] at h; obtain ⟨v, rfl, hv, hb⟩ := h; have HV : v = .nilIface := hv; subst HV; have HB6 := Aside0.mk hb; have H6 := Aside0.mk (below_step H5.out hb); clear hv hb)
        | (go_at_call 22; refine (takeUint_calls _ _ _ T 0 HC4.out HCC4.out (by have := HTl.out; omega)).mono ?_; intro e w5 h; unfold TakeUPost at h; rw [HT1.out] at h; obtain ⟨v, rfl, hv, hb⟩ := h; have HV : v = .nilIface := hv; subst HV; have HB5 := Aside0.mk hb; have H5 := Aside0.mk (below_step H4.out hb); clear hv hb)
        | (go_at_call 17; refine (putBytes_calls _ _ _ L _ _ p (Kd.C_below HC2.out HB3.out) HC3.out (by have := HLl.out; omega) HL.out).mono ?_; intro e w4 h; rw [← HTT.out] at h; obtain ⟨A4, c4, rfl, hc4, _, hC, hb⟩ := h.open_; have HC4 := Aside0.mk hC; have HCC4 := Lib.hid hc4; have HB4 := Aside0.mk hb; have H4 := Aside0.mk (below_step H3.out hb); clear h hC hb hc4)
        | (go_at_call 12; refine (twin_calls _ _ _ p (Kd.C_below HX.out H2.out) HL.out).mono ?_; intro e w3 h; obtain ⟨A3, c3, rfl, _, _, hC, hb⟩ := h.open_; have HC3 := Aside0.mk hC; have HB3 := Aside0.mk hb; have H3 := Aside0.mk (below_step H2.out hb); clear h hC hb)
        | (go_at_call 15; refine (putInt_calls _ _ _ K y HC1.out HY.out.1 HY.out.2 (by have := HKl.out; omega)).mono ?_; intro e w2 h; rw [← HLL.out] at h; obtain ⟨A2, c2, rfl, _, _, hC, hb⟩ := h.open_; have HC2 := Aside0.mk hC; have HB2 := Aside0.mk hb; have H2 := Aside0.mk (below_step H1.out hb); clear h hC hb)
        | (go_at_call 11; refine (putUint_calls _ none 0 [] x ⟨rfl, by decide, fun h => absurd h (by decide)⟩ HN.out (by decide)).mono ?_; intro e w1 h; rw [List.nil_append, ← HK.out] at h; obtain ⟨A1, c1, rfl, _, _, hC, hb⟩ := h.open_; have HC1 := Aside0.mk hC; have HB1 := Aside0.mk hb; have H1 := Aside0.mk (below_step H0.out hb); clear h hC hb)
        | (go_at_call 8; refine (awake_calls _).mono ?_; rintro e w0 ⟨rfl, hb⟩; have H0 := Aside0.mk hb; clear hb))
      go_quiet (fail)
      go_wp2
      go_ret
      exact ⟨rfl, pw_below_drewN H8.out _⟩
end Go.Proofs.Ythacedijfjcbcaa
