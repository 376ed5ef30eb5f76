/- WireBursts. -/
import Derived.Test.YthacedijfjcbcaaDoorDFrames
import Derived.Test.YthacedijfjcbcaaDoorDShort
import Derived.Test.YthacedijfjcbcaaDoorBurstF
import Derived.Deep.RegionWith
namespace Go.Proofs.YthacedijfjcbcaaDoor
open Go.RowKit Go.Proofs.YthacedijfjcbcaaDoorW.PrintWords Go.Proofs.YthacedijfjcbcaaDoorW.PrintLast Go.Proofs.YthacedijfjcbcaaDoorW.PrintMore
set_option linter.unusedVariables false
set_option linter.unusedSimpArgs false
theorem takeFrame_len (w : World) (A : Option Addr) (n c : Nat) (b : List UInt8) (from_ : Int) (hn : n = b.length) (hx : kB.C w A b.length b) (hc : b.length ≤ c) (hl : b.length ≤ 1099511627776) :
    Calls Tryd.prog 21 #[.slice A n c, .int .i64 from_] w (TakeFPost w b from_) := by
  subst hn
  exact takeFrame_calls w A c b from_ hx hc hl
theorem mask_pos {m i : Nat} (h : m / 2 ^ i % 2 = 1) : m % 2 ^ (i + 1) ≠ 0 := by
  have h1 : m % 2 ^ (i + 1) = m % 2 ^ i + 2 ^ i * (m / 2 ^ i % 2) := by rw [Nat.pow_succ, Nat.mod_mul]
  have h2 := Nat.two_pow_pos i
  rw [h1, h, Nat.mul_one]
  omega
theorem xor_bit (y r : Nat) (hy : y < 256) (hr : r < 8) : Value.int .u8 (bits BinOp.xor IntKind.u8 (y : Int) (2 ^ r % 256)) = encB (UInt8.ofNat (y ^^^ 2 ^ r)) := by
  have h2 : 2 ^ r < 256 := by
    have := Nat.pow_lt_pow_right (a := 2) (by decide) hr
    omega
  have e1 : ((2 : Int) ^ r % 256) = ((2 ^ r : Nat) : Int) := by
    have : ((2 : Int) ^ r) = ((2 ^ r : Nat) : Int) := by simp
    rw [this]
    generalize 2 ^ r = z at h2
    exact Int.emod_eq_of_lt (by omega) (by omega)
  rw [e1, u8_xor_nat _ _ hy h2, encB_ofNat (Nat.xor_lt_two_pow (n := 8) hy h2)]
/-- One more bit turned. -/
theorem turn_bit (F cur : List UInt8) (mk i k0 J r : Nat) (hJ : J = 4 + (k0 + i) / 8) (hr : r = (k0 + i) % 8) (hJl : J < cur.length) (hb : mk / 2 ^ i % 2 = 1)
    (h : numL (cur.drop 4) = numL (F.drop 4) ^^^ (mk % 2 ^ i * 2 ^ k0)) :
    numL ((cur.set J (UInt8.ofNat ((gb cur J).toNat ^^^ 2 ^ r))).drop 4) = numL (F.drop 4) ^^^ (mk % 2 ^ (i + 1) * 2 ^ k0) := by
  have e1 : (cur.set J (UInt8.ofNat ((gb cur J).toNat ^^^ 2 ^ r))).drop 4 = (cur.drop 4).set (J - 4) (UInt8.ofNat ((gb (cur.drop 4) (J - 4)).toNat ^^^ 2 ^ r)) := by
    rw [List.drop_set, if_neg (by omega), gb_drop, show 4 + (J - 4) = J by omega]
  rw [e1, numL_set _ _ _ (by rw [List.length_drop]; omega) (by omega), h, mask_step, if_pos hb, shl_xor, Nat.xor_assoc]
  congr 2
  rw [← Nat.pow_add]
  congr 1
  omega
set_option maxRecDepth 100000 in
set_option maxHeartbeats 2000000 in
theorem wireBursts_calls (w : World) (hg : Laid w) (A : Option Addr) (c : Nat) (p : List UInt8) (at_ : Int) (mk : Nat) (hmk : mk < 4294967296) (hx : kB.C w A p.length p) (hc : p.length ≤ c) (hl : p.length ≤ 9223372036854775807) :
    Calls Tryd.prog 5 #[.slice A p.length c, .int .i64 at_, .int .u32 (mk : Int)] w fun e w' => e = .returned (.bool true) ∧ Below w.heap.size w w' := by
  have HX := Lib.hid hx
  have HC := Lib.hid hc
  have HG := Lib.hid hg
  have HMK := Lib.hid hmk
  have hl1 : (p.length : Int) ≤ 9223372036854775807 := by omega
  have mk1 : (mk : Int) ≤ 4294967295 := by omega
  have mk0 : (0 : Int) ≤ mk := by omega
  clear hx hc hg hmk
  by_cases h3 : 2000 < p.length
  · have h3' : (2000 : Int) < p.length := by omega
    clear h3 hl
    go_enter Tryd.func5, Tryd.ntmps5
    go_wp2_with (go_at_call 7; refine (awake_calls _).mono ?_; rintro e w0 ⟨rfl, hb⟩; have H0 := Aside0.mk hb; clear hb)
    go_ret
    exact ⟨rfl, H0.out⟩
  have h3' : ¬ (2000 : Int) < p.length := by omega
  by_cases hm0 : mk = 0
  · have m0 : ((mk : Int) == 0) = true := beq_iff_eq.2 (by omega)
    clear h3 hl hm0
    go_enter Tryd.func5, Tryd.ntmps5
    go_wp2_with (go_at_call 7; refine (awake_calls _).mono ?_; rintro e w0 ⟨rfl, hb⟩; have H0 := Aside0.mk hb; clear hb)
    go_ret
    exact ⟨rfl, H0.out⟩
  have m0 : ((mk : Int) == 0) = false := beq_eq_false_iff_ne.2 (by omega)
  have HL := Lib.hid (show p.length ≤ 1099511627776 by omega)
  have HLM := Lib.hid (show p.length ≤ 2000 by omega)
  obtain ⟨F, hF⟩ : ∃ F, F = frameF p := ⟨_, rfl⟩
  have hFl : F.length = p.length + 8 := by rw [hF]; exact frameF_len p
  have hFi : (F.length : Int) = p.length + 8 := by omega
  have HF := Lib.hid hF
  have HFL := Lib.hid hFl
  clear h3 hl hm0 hF hFl
  go_enter Tryd.func5, Tryd.ntmps5
  go_upto_region 9 with (first
    | (go_at_call 15; refine (frame_calls _ _ _ p HC1.out (by have := HLM.out; omega)).mono ?_; intro e w2 h; rw [← HF.out] at h; obtain ⟨B2, d2, rfl, hd, hR, hb⟩ := h; have HR2 := Aside0.mk hR; have HS1 := Aside0.mk H1.out.size; have H2 := Aside0.mk (below_step H1.out hb); clear hR hb hd)
    | (go_at_call 16; refine (twin_calls _ _ _ p (Kd.C_below HX.out H0.out) HL.out).mono ?_; intro e w1 h; obtain ⟨A1, c1, rfl, hl1, _, hC, hb⟩ := h.open_; have HC1 := Aside0.mk hC; have HL1 := Lib.hid hl1; have H1 := Aside0.mk (below_step H0.out hb); clear h hC hb hl1)
    | (go_at_call 7; refine (awake_calls _).mono ?_; rintro e w0 ⟨rfl, hb⟩; have H0 := Aside0.mk hb; clear hb))
  go_cut [1] (fun s1 wx => ∃ k0 : Nat, s1 = .int .i64 k0 ∧ k0 < 8 * (p.length + 4) ∧ wx = w2)
  case first =>
    go_wp2
    go_meet
    case rel =>
      obtain ⟨Bt, hB⟩ : ∃ Bt : Int, Bt = 8 * ((p.length : Int) + 4) := ⟨_, rfl⟩
      have hp := HLM.out
      have hB1 : 32 ≤ Bt ∧ Bt ≤ 16032 := by omega
      have h1 := Int.tmod_lt_of_pos at_ (show 0 < Bt by omega)
      have h2 := Int.lt_tmod_of_pos at_ (show 0 < Bt by omega)
      rw [← hB]
      obtain ⟨t, ht⟩ : ∃ t, t = at_.tmod Bt := ⟨_, rfl⟩
      rw [← ht] at h1 h2 ⊢
      have hw : wrap64 (t + Bt) = t + Bt := by unfold wrap64; omega
      rw [hw]
      have h3 := Int.tmod_lt_of_pos (t + Bt) (show 0 < Bt by omega)
      obtain ⟨k0, hk0⟩ := Int.eq_ofNat_of_zero_le (Int.tmod_nonneg (a := t + Bt) Bt (by omega))
      exact ⟨k0, by rw [hk0], by omega, rfl⟩
  case rest =>
    obtain ⟨k0, rfl, hk0, hwc⟩ := hcut
    subst hwc
    have k00 : (0 : Int) ≤ k0 := by omega
    have k01 : (k0 : Int) < 8 * (p.length + 4) := by omega
    have HK0 := Lib.hid hk0
    clear hk0
    obtain ⟨en, hen⟩ : ∃ en : Nat, en = if k0 < 32 then 32 else 8 * (p.length + 4) := ⟨_, rfl⟩
    have HEN := Lib.hid hen
    clear hen
    go_upto_if 52 with (fail)
    go_cut [10] (fun s10 wx => s10 = .int .i64 en ∧ wx = wc)
    case first =>
      by_cases h32 : k0 < 32
      · have k02 : (k0 : Int) < 32 := by omega
        have HV := Lib.hid (show en = 32 by rw [HEN.out, if_pos h32])
        clear h32
        go_wp2
        go_meet
        case rel => rw [HV.out]; exact ⟨rfl, rfl⟩
      · have k02 : ¬ (k0 : Int) < 32 := by omega
        have HV := Lib.hid (show (en : Int) = 8 * ((p.length : Int) + 4) by rw [HEN.out, if_neg h32]; omega)
        clear h32
        go_wp2
        go_meet
        case rel => rw [HV.out]; exact ⟨rfl, rfl⟩
    case rest =>
      obtain ⟨rfl, hwc⟩ := hcut
      subst hwc
      have e1 : (en : Int) ≤ 16032 := by have hq := HEN.out; have := HLM.out; split at hq <;> omega
      have HKE := Lib.hid (show k0 ≤ en ∧ en ≤ 8 * (p.length + 4) by have hq := HEN.out; have := HK0.out; split at hq <;> omega)
      have HR := Aside0.mk (Kd.R_lower HR2.out HS1.out)
      obtain ⟨g, rfl⟩ : ∃ g, B2 = some ⟨g, 0, none⟩ := by
        obtain ⟨g, cap, e, _, _⟩ := (Kd.own_of_R (enc := encB) HR.out).form (by have := HFL.out; omega)
        injection e with e1 e2 e3
        exact ⟨g, e1⟩
      go_wp2
      go_loopw [11, 12] (fun v11 v12 wr => ∃ (i : Nat) (B : Bool) (cur : List UInt8), v12 = .int .i64 i ∧ i ≤ 32 ∧ v11 = .bool B ∧ Hid (k0 + i ≤ en ∧ B = decide (mk % 2 ^ i ≠ 0) ∧ cur.length = F.length ∧ cur.take 4 = F.take 4 ∧ numL (cur.drop 4) = numL (F.drop 4) ^^^ (mk % 2 ^ i * 2 ^ k0)) ∧ Aside0 (kB.R 5 wr w.heap.size (fun _ => True) (.slice (some ⟨g, 0, none⟩) F.length d2) cur) ∧ Aside0 (Below w.heap.size w wr)) (fun _ v _ => 32 - (intOf v).toNat)
      case atStart => exact ⟨0, false, F, rfl, by omega, rfl, ⟨HKE.out.1, by simp [Nat.mod_one], rfl, rfl, by simp [Nat.mod_one]⟩, HR, H2⟩
      case round =>
        obtain ⟨i, B, cur, rfl, hi, rfl, HI, HRc, HBc⟩ := hrel
        have i0 : (0 : Int) ≤ i := by omega
        have i32 : (i : Int) ≤ 32 := by omega
        obtain ⟨K, hK⟩ : ∃ K : Nat, K = k0 + i := ⟨_, rfl⟩
        have hKi : (k0 : Int) + (i : Int) = (K : Int) := by omega
        have HK := Lib.hid hK
        have K0 : (0 : Int) ≤ K := by omega
        have K1 : (K : Int) ≤ 16064 := by have := HKE.out; have := e1; omega
        clear hK
        by_cases hgo : i < 32 ∧ K < en
        · have g1 : (i : Int) < 32 := by omega
          have g2 : (K : Int) < en := by omega
          have HGO := Lib.hid hgo
          have hsh : mk / 2 ^ i < 4294967296 := Nat.lt_of_le_of_lt (Nat.div_le_self _ _) HMK.out
          clear hgo
          go_upto_region 17 with (fail)
          obtain ⟨D, hD⟩ : ∃ D : Bool, D = decide (mk / 2 ^ i % 2 = 1) := ⟨_, rfl⟩
          have HD := Lib.hid hD
          clear hD
          go_cut [68] (fun s68 wx => s68 = .bool D ∧ wx = wr)
          case first =>
            go_wp2
            go_meet
            case rel =>
              have e1 : (mk : Int) / 2 ^ i = ((mk / 2 ^ i : Nat) : Int) := by simp
              rw [e1, and1 _ hsh, HD.out]
              refine ⟨?_, rfl⟩
              congr 1
              rcases Nat.mod_two_eq_zero_or_one (mk / 2 ^ i) with h | h <;> rw [h] <;> rfl
          case rest =>
            obtain ⟨rfl, hwc⟩ := hcut
            subst hwc
            cases D with
            | true =>
              obtain ⟨j, hj⟩ : ∃ j : Nat, j = K / 8 := ⟨_, rfl⟩
              obtain ⟨r, hr⟩ : ∃ r : Nat, r = K % 8 := ⟨_, rfl⟩
              have j1 : (K : Int) / 8 = (j : Int) := by omega
              have r1 : (K : Int) % 8 = (r : Int) := by omega
              have r8 : (r : Int) ≤ 7 := by omega
              have r0 : (0 : Int) ≤ r := by omega
              obtain ⟨J, hJ⟩ : ∃ J : Nat, J = 4 + j := ⟨_, rfl⟩
              have J1 : (4 : Int) + (j : Int) = (J : Int) := by omega
              have J0 : (0 : Int) ≤ J := by omega
              have hJl : J < F.length := by have := HGO.out; have := HKE.out; have := HFL.out; omega
              have J2 : (J : Int) < F.length := by omega
              have hcl := HI.out.2.2.1
              obtain ⟨z1, z2⟩ := Kd.R_celln (enc := encB) 0 HRc.out (J : Int) (by omega) (by omega)
              have z3 := Kd.R_putn (enc := encB) HRc.out (J : Int)
              simp only [Int.toNat_natCast] at z1 z2 z3
              obtain ⟨y, hy⟩ : ∃ y, y = (gb cur J).toNat := ⟨_, rfl⟩
              have y8 : y < 256 := by rw [hy]; exact (gb cur J).toNat_lt
              replace z1 : wc.cell? ⟨g, J, none⟩ = some (.int .u8 (y : Int)) := by rw [hy]; exact z1
              have y1 : (y : Int) ≤ 255 := by omega
              have Z3 := Aside0.mk z3
              have HJR := Lib.hid (show J = 4 + K / 8 ∧ r = K % 8 by omega)
              have HY := Lib.hid hy
              clear hj hr hJ z3 hy hcl
              go_upto_region 19 with (fail)
              go_region
              all_goals
                go_wp2
                go_roundw
              case rel =>
                obtain ⟨q1, q2, q3, q4, q5⟩ := HI.out
                have hd := of_decide_eq_true HD.out.symm
                have hJR := HJR.out
                have hk := HK.out
                have hv := xor_bit y r y8 (by omega)
                have hgw := ((Kd.R_bound HRc.out).1 g (by simp [Value.ownBlock])).2.1
                refine ⟨i + 1, true, cur.set J (UInt8.ofNat ((gb cur J).toNat ^^^ 2 ^ r)), by go_num, by omega, rfl, ⟨by have := HGO.out; omega, ?_, ?_, ?_, ?_⟩, ⟨?_⟩, ⟨?_⟩⟩
                · rw [decide_eq_true (mask_pos hd)]
                · rw [List.length_set]; exact q3
                · rw [List.take_set_of_le (by omega)]; exact q4
                · exact turn_bit F cur mk i k0 J r (by rw [hJR.1, hk]) (by rw [hJR.2, hk]) (by omega) hd q5
                · rw [hv, HY.out]
                  exact Kd.R_below (Z3.out _) (Below.refl _ _).drew
                · exact (below_set HBc.out hgw).drew
              case measure => simp [intOf]; omega
            | false =>
              go_wp2
              go_roundw
              case rel =>
                have hd := of_decide_eq_false HD.out.symm
                have hms := mask_step mk i
                rw [if_neg hd] at hms
                obtain ⟨q1, q2, q3, q4, q5⟩ := HI.out
                exact ⟨i + 1, B, cur, by go_num, by omega, rfl, ⟨by have := HGO.out; have := HK.out; omega, by rw [hms]; exact q2, q3, q4, by rw [hms]; exact q5⟩, HRc, HBc⟩
              case measure => simp [intOf]; omega
        · have HGO := Lib.hid hgo
          obtain ⟨q1, q2, q3, q4, q5⟩ := HI.out
          have hF := HF.out
          have hdrop : F.drop 4 = fourF (sumN p) ++ p := by rw [hF]; unfold frameF; rw [List.append_assoc]; rfl
          have htake : F.take 4 = fourF p.length := by rw [hF]; unfold frameF; rw [List.append_assoc]; rfl
          have HTT := Lib.hid (show B = true → takeF cur 0 = ([], 0, .at_ 1 4 7) by
            intro hB
            have hne : mk % 2 ^ i ≠ 0 := of_decide_eq_true (q2.symm.trans hB)
            refine burst_take p cur (mk % 2 ^ i * 2 ^ k0) (by have := HLM.out; omega) (by rw [q3]; exact HFL.out) (by rw [q4, htake]) (by rw [q5, hdrop]) (Nat.mul_ne_zero hne (Nat.pos_iff_ne_zero.1 (Nat.two_pow_pos k0))) ?_
            have hen := HEN.out
            have hlt : mk % 2 ^ i < 2 ^ i := Nat.mod_lt _ (Nat.two_pow_pos i)
            by_cases h32 : k0 < 32
            · rw [if_pos h32] at hen
              refine .inl (Nat.lt_of_lt_of_le (Nat.mul_lt_mul_of_pos_right hlt (Nat.two_pow_pos k0)) ?_)
              rw [← Nat.pow_add]
              exact Nat.le_trans (Nat.pow_le_pow_right (by decide) (show i + k0 ≤ 32 by omega)) (by decide)
            · refine .inr ⟨mk % 2 ^ i, k0 - 32, by rw [show 32 + (k0 - 32) = k0 by omega], Nat.lt_of_le_of_lt (Nat.mod_le _ _) HMK.out, ?_⟩
              have := HK0.out
              omega)
          have HTF := Lib.hid (show B = false → (takeF cur 0).2.2 = .ok by
            intro hB
            have hz : mk % 2 ^ i = 0 := by
              have := of_decide_eq_false (q2.symm.trans hB)
              omega
            rw [hz, Nat.zero_mul, Nat.xor_zero] at q5
            have e1 : cur.drop 4 = F.drop 4 := numL_inj _ _ (by rw [List.length_drop, List.length_drop, q3]) q5
            have e2 : cur = F := by rw [← List.take_append_drop 4 cur, q4, e1, List.take_append_drop]
            rw [e2, hF]
            exact frame_take p (by have := HLM.out; omega))
          have HCL := Lib.hid q3
          have hrd := Kd.R_reads' HRc.out
          have HCC := Aside0.mk hrd.2.2
          have HCD := Lib.hid (show cur.length ≤ d2 by rw [q3]; exact hrd.2.1)
          clear q1 q2 q3 q4 q5 hF hdrop htake hrd
          by_cases hi32 : i < 32
          · have g1 : (i : Int) < 32 := by omega
            have g2 : ¬ (K : Int) < en := by have := HGO.out; omega
            clear hi32 hgo
            cases B with
            | true =>
              have HT := Lib.hid (HTT.out rfl)
              clear HTT
              go_wp2_with (first
              | (go_at_call 11; refine (fails_calls _ _ (.at_ 1 4 7) _ _ (HG.out.below H6.out) ((HV4.out.below (below_alloc (Below.refl _ _) _)).below HB6.out) HV6.out).mono ?_; rintro e w7 ⟨rfl, hb⟩; have H7 := Aside0.mk (below_step H6.out hb); clear hb)
              | (go_at_call 12; refine (refAt_E _ 1 4 7).mono ?_; rintro e w6 ⟨v6, rfl, hv, hb⟩; have HV6 := Aside0.mk hv; have HB6 := Aside0.mk hb; have H6 := Aside0.mk (below_step (below_alloc H4.out _) hb); clear hv hb)
              | (go_at_call 13; refine (refN_calls _ 7).mono ?_; rintro e w5 ⟨rfl, rfl⟩)
              | (go_at_call 21; refine (takeFrame_len _ _ _ _ cur 0 HCL.out.symm HCC.out HCD.out (by have := HCL.out; have := HFL.out; have := HLM.out; omega)).mono ?_; intro e w4 h; unfold TakeFPost at h; rw [HT.out] at h; obtain ⟨pv, v4, rfl, hp, hv, hb⟩ := h; have HV4 := Aside0.mk hv; have H4 := Aside0.mk (below_step HBc.out hb); clear hv hb hp))
              go_ret
              exact ⟨rfl, H7.out⟩
            | false =>
              obtain ⟨t, ht⟩ : ∃ t, t = takeF cur 0 := ⟨_, rfl⟩
              obtain ⟨tq, tn, te⟩ := t
              have hte := HTF.out rfl
              rw [← ht] at hte
              have hte' : te = .ok := hte
              subst hte'
              have HT := Lib.hid ht.symm
              clear HTF hte ht
              go_wp2_with (first
              | (go_at_call 11; refine (fails_calls _ _ (.at_ 1 4 7) _ _ (HG.out.below H6.out) ((HV4.out.below (below_alloc (Below.refl _ _) _)).below HB6.out) HV6.out).mono ?_; rintro e w7 ⟨rfl, hb⟩; have H7 := Aside0.mk (below_step H6.out hb); clear hb)
              | (go_at_call 12; refine (refAt_E _ 1 4 7).mono ?_; rintro e w6 ⟨v6, rfl, hv, hb⟩; have HV6 := Aside0.mk hv; have HB6 := Aside0.mk hb; have H6 := Aside0.mk (below_step (below_alloc H4.out _) hb); clear hv hb)
              | (go_at_call 13; refine (refN_calls _ 7).mono ?_; rintro e w5 ⟨rfl, rfl⟩)
              | (go_at_call 21; refine (takeFrame_len _ _ _ _ cur 0 HCL.out.symm HCC.out HCD.out (by have := HCL.out; have := HFL.out; have := HLM.out; omega)).mono ?_; intro e w4 h; unfold TakeFPost at h; rw [HT.out] at h; obtain ⟨pv, v4, rfl, hp, hv, hb⟩ := h; have HVN : v4 = .nilIface := hv; subst HVN; have H4 := Aside0.mk (below_step HBc.out hb); clear hv hb hp))
              go_ret
              exact ⟨rfl, H4.out⟩
          · have g1 : ¬ (i : Int) < 32 := by omega
            clear hi32 hgo
            cases B with
            | true =>
              have HT := Lib.hid (HTT.out rfl)
              clear HTT
              go_wp2_with (first
              | (go_at_call 11; refine (fails_calls _ _ (.at_ 1 4 7) _ _ (HG.out.below H6.out) ((HV4.out.below (below_alloc (Below.refl _ _) _)).below HB6.out) HV6.out).mono ?_; rintro e w7 ⟨rfl, hb⟩; have H7 := Aside0.mk (below_step H6.out hb); clear hb)
              | (go_at_call 12; refine (refAt_E _ 1 4 7).mono ?_; rintro e w6 ⟨v6, rfl, hv, hb⟩; have HV6 := Aside0.mk hv; have HB6 := Aside0.mk hb; have H6 := Aside0.mk (below_step (below_alloc H4.out _) hb); clear hv hb)
              | (go_at_call 13; refine (refN_calls _ 7).mono ?_; rintro e w5 ⟨rfl, rfl⟩)
              | (go_at_call 21; refine (takeFrame_len _ _ _ _ cur 0 HCL.out.symm HCC.out HCD.out (by have := HCL.out; have := HFL.out; have := HLM.out; omega)).mono ?_; intro e w4 h; unfold TakeFPost at h; rw [HT.out] at h; obtain ⟨pv, v4, rfl, hp, hv, hb⟩ := h; have HV4 := Aside0.mk hv; have H4 := Aside0.mk (below_step HBc.out hb); clear hv hb hp))
              go_ret
              exact ⟨rfl, H7.out⟩
            | false =>
              obtain ⟨t, ht⟩ : ∃ t, t = takeF cur 0 := ⟨_, rfl⟩
              obtain ⟨tq, tn, te⟩ := t
              have hte := HTF.out rfl
              rw [← ht] at hte
              have hte' : te = .ok := hte
              subst hte'
              have HT := Lib.hid ht.symm
              clear HTF hte ht
              go_wp2_with (first
              | (go_at_call 11; refine (fails_calls _ _ (.at_ 1 4 7) _ _ (HG.out.below H6.out) ((HV4.out.below (below_alloc (Below.refl _ _) _)).below HB6.out) HV6.out).mono ?_; rintro e w7 ⟨rfl, hb⟩; have H7 := Aside0.mk (below_step H6.out hb); clear hb)
              | (go_at_call 12; refine (refAt_E _ 1 4 7).mono ?_; rintro e w6 ⟨v6, rfl, hv, hb⟩; have HV6 := Aside0.mk hv; have HB6 := Aside0.mk hb; have H6 := Aside0.mk (below_step (below_alloc H4.out _) hb); clear hv hb)
              | (go_at_call 13; refine (refN_calls _ 7).mono ?_; rintro e w5 ⟨rfl, rfl⟩)
              | (go_at_call 21; refine (takeFrame_len _ _ _ _ cur 0 HCL.out.symm HCC.out HCD.out (by have := HCL.out; have := HFL.out; have := HLM.out; omega)).mono ?_; intro e w4 h; unfold TakeFPost at h; rw [HT.out] at h; obtain ⟨pv, v4, rfl, hp, hv, hb⟩ := h; have HVN : v4 = .nilIface := hv; subst HVN; have H4 := Aside0.mk (below_step HBc.out hb); clear hv hb hp))
              go_ret
              exact ⟨rfl, H4.out⟩
end Go.Proofs.YthacedijfjcbcaaDoor
