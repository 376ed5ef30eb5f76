/- wire: the walk of WireKeeps. -/
import Derived.Test.YthacedijfjcbcaaWKeepsR
import Derived.Deep.RegionHeld3
import Derived.BigRegion
namespace Go.Proofs.Ythacedijfjcbcaa
open Go.RowKit Go.Proofs.YthacedijfjcbcaaW.PrintWords Go.Proofs.YthacedijfjcbcaaW.PrintLast Go.Proofs.YthacedijfjcbcaaW.PrintMore
set_option linter.unusedVariables false
set_option linter.unusedSimpArgs false

def sel4 {α : Type} (a b c d : α) : Nat → α
  | 0 => a
  | 1 => b
  | 2 => c
  | _ => d
def kE : List UInt8 := [71, 72, 73, 74, 75, 76, 77, 78, 79, 80, 81, 82]
set_option maxRecDepth 100000 in
set_option maxHeartbeats 4000000 in
theorem keeps_walk (w : World) (A : Option Addr) (c : Nat) (b : List UInt8) (x : Nat) (hx : kB.C w A b.length b) (hc : b.length ≤ c) (hn : x < 18446744073709551616) :
    Calls Try.prog 7 #[.slice A b.length c, .int .u64 (x : Int)] w fun e w' => e = .returned (.bool true) ∧ Below w.heap.size w w' := by
  have HX := Lib.hid hx
  have HC := Lib.hid hc
  have HN := Lib.hid hn
  have hm : (b.length : Int) ≤ 9223372036854775807 := by have := hx.2.1; omega
  clear hx hc hn
  by_cases h3 : 1000 < b.length
  · have h3' : (1000 : Int) < b.length := by omega
    clear h3
    go_enter Try.func7, Try.ntmps7
    go_wp2_with (go_at_call 8; refine (awake_calls _).mono ?_; rintro e w0 ⟨rfl, hb⟩; have H0 := Aside0.mk hb; clear hb)
    go_ret
    exact ⟨rfl, H0.out⟩
  · have h3' : ¬ (1000 : Int) < b.length := by omega
    have HL3 := Lib.hid (show b.length ≤ 1000 by omega)
    have HL := Lib.hid (show b.length ≤ 1099511627776 by omega)
    obtain ⟨F, hF⟩ : ∃ F, F = b ++ kE := ⟨_, rfl⟩
    obtain ⟨O, hO⟩ : ∃ O, O = frameF b := ⟨_, rfl⟩
    obtain ⟨L, hL⟩ : ∃ L, L = b ++ uintsF x := ⟨_, rfl⟩
    obtain ⟨T, hT⟩ : ∃ T, T = b ++ uintsF b.length ++ b := ⟨_, rfl⟩
    have HF := Lib.hid hF
    have HO := Lib.hid hO
    have HLL := Lib.hid hL
    have HT := Lib.hid hT
    have HFl := Lib.hid (show F.length = b.length + 12 by rw [hF, List.length_append]; rfl)
    have HF2 := Lib.hid (show (F.take b.length).drop 0 = b by rw [hF, List.drop_zero, List.take_left])
    have u1 := uintsF_len x HN.out
    have u2 := uintsF_len b.length (by omega)
    have HLl := Lib.hid (show L.length ≤ 2000 by rw [hL, List.length_append]; omega)
    have HTl := Lib.hid (show T.length ≤ 3000 by rw [hT, List.length_append, List.length_append]; omega)
    have HTB := Lib.hid (show takeB T ((b.length : Nat) : Int) = (b, ((T.length : Nat) : Int), .ok) by
      have := takeB_bytes b b (by omega)
      rw [← List.append_assoc, ← hT] at this
      exact this)
    clear h3 hF hO hL hT u1 u2
    go_enter Try.func7, Try.ntmps7
    go_wp2_with (first
      | (go_at_call 24; refine (takeBytes_calls _ _ _ T (b.length : Nat) HC6.out HCC6.out (by have := HTl.out; omega)).mono ?_; intro e w7 h; unfold TakeBPost at h; rw [HTB.out] at h; obtain ⟨pv, v, rfl, hp, hv, hb⟩ := h; have HV : v = .nilIface := hv; subst HV; obtain ⟨A7, c7, rfl, hc7, hC7⟩ := Kd.R_reads hp; have HR7 := Aside0.mk hp; have HB7 := Aside0.mk hb; have H7 := Aside0.mk (below_step H6.out hb); clear hv hb hp hc7 hC7)
      | (go_at_call 17; refine (putBytes_calls _ _ _ b _ _ b (Kd.C_below HC2p.out (below_step HB3.out (below_step HB4.out HB5.out))) (Kd.C_below HC2p.out (below_step HB3.out (below_step HB4.out HB5.out))) HL.out HL.out).mono ?_; intro e w6 h; rw [← HT.out] at h; obtain ⟨A6, c6, rfl, hc6, hr, hC, hb⟩ := h.open_; have HC6 := Aside0.mk hC; have HCC6 := Lib.hid hc6; have HR6 := Aside0.mk hr; have HB6 := Aside0.mk hb; have H6 := Aside0.mk (below_step H5.out hb); clear h hC hb hc6 hr)
      | (go_at_call 11; refine (putUint_calls _ _ _ b x (Kd.C_below HC2p.out (below_step HB3.out HB4.out)) HN.out HL.out).mono ?_; intro e w5 h; rw [← HLL.out] at h; obtain ⟨A5, c5, rfl, _, hr, _, hb⟩ := h.open_; have HR5 := Aside0.mk hr; have HB5 := Aside0.mk hb; have H5 := Aside0.mk (below_step H4.out hb); clear h hb hr)
      | (go_at_call 11; refine (putUint_calls _ _ _ b x (Kd.C_below HC2p.out HB3.out) HN.out HL.out).mono ?_; intro e w4 h; rw [← HLL.out] at h; obtain ⟨A4, c4, rfl, _, hr, _, hb⟩ := h.open_; have HR4 := Aside0.mk hr; have HB4 := Aside0.mk hb; have H4 := Aside0.mk (below_step H3.out hb); clear h hb hr)
      | (go_at_call 19; refine (frame_calls _ _ _ b HC2p.out (by have := HL3.out; omega)).mono ?_; intro e w3 h; rw [← HO.out] at h; obtain ⟨A3, c3, rfl, _, hr, hb⟩ := h; have HR3 := Aside0.mk hr; have HB3 := Aside0.mk hb; have H3 := Aside0.mk (below_step H2.out hb); clear hb hr)
      | (at_builtin; refine app_bytes w0.heap.size rfl _ _ rfl _ b kE _ 12 12 rfl rfl (Kd.R_below HR1.out (below_alloc (Below.refl _ _) _)) (B_litC _ kE (by decide) rfl rfl rfl) (by have := HB1.out.size; simp; omega) (by have := HL3.out; omega) ?_; intro v2 w2 hr hb; rw [← HF.out] at hr; obtain ⟨A2, c2, rfl, hc2, hC2⟩ := Kd.R_reads hr; obtain ⟨A2p, hcut2, hC2p, _⟩ := B_head (hi := b.length) hC2 (by have := HFl.out; omega) hc2 b.length rfl; rw [HF2.out] at hcut2 hC2p; have HR2 := Aside0.mk hr; have HC2p := Aside0.mk hC2p; have HC2c := Lib.hid hc2; have HB2 := Aside0.mk ((below_alloc HB1.out _).trans hb); have H2 := Aside0.mk (below_step H0.out HB2.out); clear hr hb hc2 hC2 hC2p)
      | (go_at_call 12; refine (twin_calls _ _ _ b (Kd.C_below HX.out H0.out) HL.out).mono ?_; intro e w1 h; obtain ⟨A1, c1, rfl, _, hr, hC, hb⟩ := h.open_; have HC1 := Aside0.mk hC; have HR1 := Aside0.mk hr; have HB1 := Aside0.mk hb; have H1 := Aside0.mk (below_step H0.out hb); clear h hC hb hr)
      | (go_at_call 8; refine (awake_calls _).mono ?_; rintro e w0 ⟨rfl, hb⟩; have H0 := Aside0.mk hb; clear hb))
    obtain ⟨lo, hlo⟩ : ∃ lo, lo = sel4 w2.heap.size w3.heap.size w5.heap.size w6.heap.size := ⟨_, rfl⟩
    obtain ⟨hi, hhi⟩ : ∃ hi, hi = sel4 w3.heap.size w4.heap.size w6.heap.size w7.heap.size := ⟨_, rfl⟩
    obtain ⟨vl, hvl⟩ : ∃ vl : Nat → Value, vl = sel4 (.slice A3 O.length c3) (.slice A4 L.length c4) (.slice A6 T.length c6) (.slice A7 b.length c7) := ⟨_, rfl⟩
    have s2 := H2.out.size
    have s3 := HB3.out.size
    have s4 := HB4.out.size
    have s5 := HB5.out.size
    have s6 := HB6.out.size
    have s7 := HB7.out.size
    have hm1 : ∀ j k, j < k → k < 4 → hi j ≤ lo k := fun j k hjk hk => by
      rw [hlo, hhi]
      rcases k with _ | _ | _ | _ | k <;> rcases j with _ | _ | _ | _ | j <;> simp [sel4] <;> omega
    have hs1 : ∀ k, k < 4 → hi k ≤ w7.heap.size := fun k hk => by
      rw [hhi]
      rcases k with _ | _ | _ | _ | k <;> simp [sel4] <;> omega
    have hw1 : ∀ k, k < 4 → w.heap.size ≤ lo k := fun k hk => by
      rw [hlo]
      rcases k with _ | _ | _ | _ | k <;> simp [sel4] <;> omega
    have hform : ∀ k, k < 4 → ∃ A n c, vl k = .slice A n c ∧ (n : Int) ≤ 9223372036854775807 := fun k hk => by
      have := HFl.out; have := HLl.out; have := HTl.out; have := HL3.out
      have : O.length ≤ 2000 := by rw [HO.out, frameF_len]; omega
      rw [hvl]
      rcases k with _ | _ | _ | _ | k
      · exact ⟨_, _, _, rfl, by omega⟩
      · exact ⟨_, _, _, rfl, by omega⟩
      · exact ⟨_, _, _, rfl, by omega⟩
      · exact ⟨_, _, _, rfl, by omega⟩
      · omega
    have hst : KJ w w7 lo hi vl (w7.alloc (.cells #[.slice A3 O.length c3, .slice A4 L.length c4, .slice A6 T.length c6, .slice A7 b.length c7] 22)) := by
      have ba : Below w7.heap.size w7 (w7.alloc (.cells #[.slice A3 O.length c3, .slice A4 L.length c4, .slice A6 T.length c6, .slice A7 b.length c7] 22)) := below_alloc (Below.refl _ _) _
      have b6 := below_step HB7.out ba
      have b5 := below_step HB6.out b6
      have b4 := below_step HB5.out b5
      have b3 := below_step HB4.out b4
      refine ⟨Kept.of_below ba _, by simp, ?_, fun k hk => ?_, below_step H7.out ba⟩
      · rw [hvl]
        exact heap_alloc_new w7 _
      · rw [hlo, hhi, hvl]
        rcases k with _ | _ | _ | _ | k
        · exact Rw.of HR3.out b3
        · exact Rw.of HR4.out b4
        · exact Rw.of HR6.out b6
        · exact Rw.of HR7.out ba
        · omega
    obtain ⟨J, hJ⟩ : ∃ J, J = KJ w w7 lo hi vl := ⟨_, rfl⟩
    have hat : ∀ wr, J wr → ∀ k, k < 4 → ∀ A n c, vl k = .slice A n c → wr.cell? ⟨w7.heap.size, k, none⟩ = some (.slice A n c) ∧ ∀ i, i < n → ∃ g y0, A = some ⟨g, 0, none⟩ ∧ wr.cell? ⟨g, i, none⟩ = some (encB y0) ∧ wr.frozen? ⟨g, i, none⟩ = false ∧ ∀ y, J (wr.setCell ⟨g, i, none⟩ (encB y)) := by
      rw [hJ]
      intro wr h k hk A n c hv
      refine ⟨by rw [← hv]; exact h.cell hk, fun i hin => h.at_ hm1 hs1 hw1 hk hv hin⟩
    rw [← hJ] at hst
    have HST := Aside0.mk hst
    have HAT := Aside0.mk hat
    have HFM := Aside0.mk hform
    have HJJ := Lib.hid hJ
    have HLO := Lib.hid hlo
    have HHI := Lib.hid hhi
    have HVL := Lib.hid hvl
    clear s2 s3 s4 s5 s6 s7 hm1 hs1 hw1 hform hst hJ hat hlo hhi hvl
    go_loopw [59] (fun v59 wr => ∃ k : Nat, v59 = .int .i64 k ∧ k ≤ 4 ∧ Aside0 (J wr)) (fun v _ => 4 - (intOf v).toNat)
    case atStart => exact ⟨0, rfl, by omega, HST⟩
    case round =>
      obtain ⟨k, rfl, hk, HJ⟩ := hrel
      by_cases hlt : k < 4
      · obtain ⟨B, n, d, hv, hnm⟩ := HFM.out k hlt
        have hcell := (HAT.out wr HJ.out k hlt B n d hv).1
        have k0 : (0 : Int) ≤ k := by omega
        have k1 : (k : Int) < 4 := by omega
        have HK := Lib.hid hlt
        have HV := Lib.hid hv
        clear hlt hv
        go_wp2
        go_loopw [65] (fun v65 wr2 => ∃ i : Nat, v65 = .int .i64 i ∧ i ≤ n ∧ Aside0 (J wr2)) (fun v _ => n - (intOf v).toNat)
        case atStart => exact ⟨0, rfl, by omega, HJ⟩
        case round =>
          obtain ⟨i, rfl, hin, HJ2⟩ := hrel
          by_cases hil : i < n
          · obtain ⟨g, y0, rfl, hc1, hf1, hnext⟩ := (HAT.out _ HJ2.out k HK.out B n d HV.out).2 i hil
            have i0 : (0 : Int) ≤ i := by omega
            have i1 : (i : Int) < n := by omega
            have HI := Lib.hid hil
            have HNX := Aside0.mk hnext
            have hxor := u8_xor_nat y0.toNat 255 y0.toNat_lt (by decide)
            change _ = some (Value.int .u8 (y0.toNat : Int)) at hc1
            clear hil hnext
            go_wp2
            go_roundw
            case rel =>
              have hv : Value.int .u8 ((y0.toNat ^^^ 255 : Nat) : Int) = encB (UInt8.ofNat (y0.toNat ^^^ 255)) := encB_ofNat (Nat.xor_lt_two_pow (n := 8) y0.toNat_lt (by decide))
              refine ⟨i + 1, by go_num, by have := HI.out; omega, ⟨?_⟩⟩
              have h := HNX.out (UInt8.ofNat (y0.toNat ^^^ 255))
              have hx2 : bits .xor .u8 (y0.toNat : Int) 255 = ((y0.toNat ^^^ 255 : Nat) : Int) := u8_xor_nat y0.toNat 255 y0.toNat_lt (by decide)
              rw [← hv, ← hx2] at h
              exact h
            case measure => simp [intOf]; omega
          · have i1 : ¬ (i : Int) < n := by omega
            clear hil
            go_wp2
            go_roundw
            case rel => exact ⟨k + 1, by go_num, by omega, HJ2⟩
            case measure => simp [intOf]; omega
      · have k1 : ¬ (k : Int) < 4 := by omega
        clear hlt
        obtain ⟨q1, q2, q3, q4, q5⟩ : KJ w w7 lo hi vl wr := by rw [← HJJ.out]; exact HJ.out
        have s2 := HB2.out.size
        have s0 := H0.out.size
        have s3 := HB3.out.size
        have s4 := HB4.out.size
        have s5 := HB5.out.size
        have s6 := HB6.out.size
        have s7 := HB7.out.size
        have q1' : Kept w7 wr (fun k => (w2.heap.size ≤ k ∧ k < w4.heap.size) ∨ (w5.heap.size ≤ k ∧ k < w7.heap.size)) := Kept.mono q1 (by
          rintro b ⟨k, hk, h1, h2⟩
          rw [HLO.out] at h1
          rw [HHI.out] at h2
          rcases k with _ | _ | _ | _ | k <;> simp [sel4] at h1 h2 <;> omega)
        obtain ⟨xu, hu⟩ : Rw wr w3.heap.size w4.heap.size (.slice A4 L.length c4) := by
          have := q4 1 (by decide)
          rw [HLO.out, HHI.out, HVL.out] at this
          exact this
        have hul : L.length = xu.length := (Kd.R_reads' hu).1
        have b57 := below_step HB6.out HB7.out
        have hv5 : kB.R 5 wr w4.heap.size (fun k => w4.heap.size ≤ k ∧ k < w5.heap.size) (.slice A5 L.length c5) L := by
          have h := Kd.R_below (Kd.R_mono (Kd.R_bound HR5.out) (ok' := fun k => w4.heap.size ≤ k ∧ k < w5.heap.size) fun k hk => ⟨hk.2.1, hk.2.2.1⟩) b57
          exact Kd.R_kept h q1' (fun k hk => by omega)
        have b27 := below_step HB3.out (below_step HB4.out (below_step HB5.out b57))
        have hf : kB.R 5 wr w0.heap.size (fun k => w0.heap.size ≤ k ∧ k < w2.heap.size) (.slice A2 F.length c2) F := by
          have h := Kd.R_below (Kd.R_mono (Kd.R_bound HR2.out) (ok' := fun k => w0.heap.size ≤ k ∧ k < w2.heap.size) fun k hk => ⟨hk.2.1, hk.2.2.1⟩) b27
          exact Kd.R_kept h q1' (fun k hk => by omega)
        obtain ⟨Xu, hXu⟩ : ∃ Xu, Xu = xu ++ [1] := ⟨_, rfl⟩
        obtain ⟨Xv, hXv⟩ : ∃ Xv, Xv = L ++ [2] := ⟨_, rfl⟩
        have HU := Aside0.mk hu
        have HV5 := Aside0.mk hv5
        have HFF := Aside0.mk hf
        have HQ5 := Aside0.mk q5
        have HXU := Lib.hid hXu
        have HXV := Lib.hid hXv
        have HUL := Lib.hid hul
        have HSZ := Lib.hid (show w.heap.size ≤ w0.heap.size ∧ w0.heap.size ≤ w2.heap.size ∧ w2.heap.size ≤ w3.heap.size ∧ w3.heap.size ≤ w4.heap.size ∧ w4.heap.size ≤ w5.heap.size ∧ w5.heap.size ≤ w7.heap.size ∧ w7.heap.size < wr.heap.size by omega)
        clear q1 q2 q3 q4 q5 s0 s2 s3 s4 s5 s6 s7 q1' hul b57 b27 hu hv5 hf hXu hXv
        go_wp2_with (first
          | (at_builtin; refine app_byteK w4.heap.size rfl _ _ rfl (.slice A5 L.length c5) L 2 _ rfl rfl rfl (fun k => (w4.heap.size ≤ k ∧ k < w5.heap.size) ∨ w20.heap.size ≤ k) (Kd.R_mono (Kd.R_kept HV5.out HK20.out (fun k hk => by omega)) (fun k hk => .inl hk)) (fun k hk => .inr hk) (by have := HSZ.out; have := HK20.out.1; omega) (by have := HLl.out; omega) ?_; intro v21 w21 hr hb hg; rw [← HXV.out] at hr; obtain ⟨A21, c21, rfl, hc21, _⟩ := Kd.R_reads hr; have HR21 := Aside0.mk hr; have HB21 := Aside0.mk hb; have HC21 := Lib.hid hc21; have HK21 := Aside0.mk (Kept.of_grown hg (Kept.refl _ (fun k => w4.heap.size ≤ k ∧ k < w5.heap.size)) (fun k hk => .inl (HV5.out.1 k hk))); clear hr hb hg hc21)
          | (at_builtin; refine app_byteK w3.heap.size rfl _ _ rfl (.slice A4 L.length c4) xu 1 _ rfl rfl rfl (fun k => (w3.heap.size ≤ k ∧ k < w4.heap.size) ∨ wr.heap.size ≤ k) (Kd.R_mono HU.out (fun k hk => .inl hk)) (fun k hk => .inr hk) (by have := HSZ.out; omega) (by have := HLl.out; have := HUL.out; omega) ?_; intro v20 w20 hr hb hg; rw [← HXU.out] at hr; obtain ⟨A20, c20, rfl, hc20, _⟩ := Kd.R_reads hr; have HR20 := Aside0.mk hr; have HB20 := Aside0.mk hb; have HK20 := Aside0.mk (Kept.of_grown hg (Kept.refl _ (fun k => w3.heap.size ≤ k ∧ k < w4.heap.size)) (fun k hk => .inl (HU.out.1 k hk))); clear hr hb hg hc20))
        have hsz := HSZ.out
        have h20 := HK20.out.1
        have b20 : Below w.heap.size w w20 := below_weaken HQ5.out (by omega) HB20.out
        have b21 : Below w.heap.size w w21 := below_weaken b20 (by omega) HB21.out
        have hf21 : kB.R 5 w21 w0.heap.size (fun k => w0.heap.size ≤ k ∧ k < w2.heap.size) (.slice A2 F.length c2) F := Kd.R_kept (Kd.R_kept HFF.out HK20.out (fun k hk => by omega)) HK21.out (fun k hk => by omega)
        have hu21 : kB.R 5 w21 w3.heap.size (fun k => (w3.heap.size ≤ k ∧ k < w4.heap.size) ∨ wr.heap.size ≤ k) (.slice A20 Xu.length c20) Xu := Kd.R_kept HR20.out HK21.out (fun k hk => by omega)
        have hFl := HFl.out
        have hXul : Xu.length = L.length + 1 := by rw [HXU.out, List.length_append, HUL.out]; rfl
        have hXvl : Xv.length = L.length + 1 := by rw [HXV.out, List.length_append]; rfl
        have fu := HLl.out
        have fb := HL3.out
        obtain ⟨hA2, hcap2⟩ : (∃ g2, A2 = some ⟨g2, 0, none⟩) ∧ F.length ≤ c2 := by
          obtain ⟨g, cap, e, _⟩ := (Kd.own_of_R (enc := encB) hf21).form (by omega)
          injection e with e1 e2 e3
          exact ⟨⟨g, e1⟩, HC2c.out⟩
        obtain ⟨g2, rfl⟩ := hA2
        obtain ⟨gu, rfl⟩ : ∃ gu, A20 = some ⟨gu, 0, none⟩ := by
          obtain ⟨g, cap, e, _⟩ := (Kd.own_of_R (enc := encB) hu21).form (by omega)
          injection e with e1 e2 e3
          exact ⟨g, e1⟩
        have hcell : ∀ w', Below w21.heap.size w21 w' → w'.cell? ⟨g2, b.length, none⟩ = some (.int .u8 71) ∧ w'.cell? ⟨g2, b.length + 11, none⟩ = some (.int .u8 82) ∧ w'.cell? ⟨gu, L.length, none⟩ = some (.int .u8 1) := fun w' hb => by
          have hf' := Kd.R_below hf21 hb
          have hu' := Kd.R_below hu21 hb
          have e1 := (Kd.R_celln (enc := encB) 0 hf' (b.length : Int) (by omega) (by omega)).1
          have e2 := (Kd.R_celln (enc := encB) 0 hf' ((b.length + 11 : Nat) : Int) (by omega) (by omega)).1
          have e3 := (Kd.R_celln (enc := encB) 0 hu' (L.length : Int) (by omega) (by omega)).1
          simp only [Int.toNat_natCast] at e1 e2 e3
          refine ⟨e1.trans ?_, e2.trans ?_, e3.trans ?_⟩
          · have : rdOf 0 F (b.length : Int) = 71 := by
              rw [HF.out]
              simp [rdOf, kE]
            rw [this]; rfl
          · have : rdOf 0 F ((b.length + 11 : Nat) : Int) = 82 := by
              rw [HF.out]
              unfold rdOf
              rw [Int.toNat_natCast, List.getD_eq_getElem?_getD, List.getElem?_append_right (by omega), Nat.add_sub_cancel_left]
              rfl
            rw [this]; rfl
          · have : rdOf 0 Xu (L.length : Int) = 1 := by
              rw [HXU.out, HUL.out]
              simp [rdOf]
            rw [this]; rfl
        obtain ⟨Ap, hcutp, hCp, _⟩ := B_head (hi := b.length) (Kd.R_reads' hf21).2.2 (by omega) hcap2 b.length rfl
        rw [HF2.out] at hcutp hCp
        have hAp : A2p = Ap := by
          have h := (hcut2 w21).symm.trans (hcutp w21)
          injection h with h1 h2
          injection h1
        subst hAp
        obtain ⟨Av, hcutv, hCv, _⟩ := B_head (hi := L.length) (Kd.R_reads' HR21.out).2.2 (by omega) HC21.out L.length rfl
        have eXv : (Xv.take L.length).drop 0 = L := by rw [HXV.out, List.drop_zero, List.take_left]
        rw [eXv] at hcutv hCv
        rw [hXvl] at hcutv
        rw [hXul, hXvl]
        have HSB := Aside0.mk hcell
        have HSS := Aside0.mk (hcell w21 (Below.refl _ _))
        have HCP := Aside0.mk hCp
        have HCV := Aside0.mk hCv
        have H21 := Aside0.mk b21
        have HUJ := Lib.hid (show b.length + (uintsF x).length ≤ 140737488355328 by have := uintsF_len x HN.out; omega)
        have hb1 : (b.length : Int) < F.length := by omega
        have hb2 : (b.length : Int) + 11 < F.length := by omega
        have hb3 : (0 : Int) ≤ (b.length : Int) + 11 := by omega
        have hb4 : (L.length : Int) < L.length + 1 := by omega
        have hwr1 : IntKind.i64.wrap ((b.length : Int) + 11) = b.length + 11 := IntWalk.i64_in _ (by omega)
        have hwr2 : IntKind.i64.wrap (L.length : Int) = L.length := IntWalk.i64_in _ (by omega)
        have htn : ((b.length : Int) + 11).toNat = b.length + 11 := by omega
        clear hsz h20 b20 b21 hf21 hu21 hFl hXul hXvl fu fb hcap2 hcell hcutp hCp hCv eXv
        refine wp_region_noPanic ?_
        refine wp_region_held_drew (S := fun w' : World => w'.cell? ⟨g2, b.length, none⟩ = some (.int .u8 71) ∧ w'.cell? ⟨g2, b.length + 11, none⟩ = some (.int .u8 82) ∧ w'.cell? ⟨gu, L.length, none⟩ = some (.int .u8 1)) (by kernel_rfl) HSS.out (fun hHeld => ?_)
        refine wpAnyH_take (i := 0) (v := ?_) rfl (by kernel_rfl) (by kernel_rfl) (by kernel_rfl) (fun _ _ _ h => h) (Or.inl ⟨by rfl, ?_⟩) (by assumption) ?_
        rotate_left 1
        · first | (intro w hSw; go_simp; done) | (intro w hSw; go_simp; with_reducible rfl)
        try simp only [Act.put, List.getElem_toArray, List.getElem_cons_zero, List.getElem_cons_succ, List.setIfInBounds_toArray, List.set_cons_zero, List.set_cons_succ]
        refine wpAnyH_take (i := 1) (v := ?_) rfl (by kernel_rfl) (by kernel_rfl) (by kernel_rfl) (fun _ _ _ h => h) (Or.inl ⟨by rfl, ?_⟩) (by assumption) ?_
        rotate_left 1
        · first | (intro w hSw; go_simp; done) | (intro w hSw; go_simp; with_reducible rfl)
        try simp only [Act.put, List.getElem_toArray, List.getElem_cons_zero, List.getElem_cons_succ, List.setIfInBounds_toArray, List.set_cons_zero, List.set_cons_succ]
        refine wpAnyH_ready (rs := [2]) (by kernel_rfl) (by simp) ?_
        refine AllReadyH.cons rfl (fun K hK => ?_) AllReadyH.nil
        go_simp
        (go_at_call 10; refine (bytes_same _ _ _ _ _ b (Kd.C_drew HCP.out) (Kd.C_drew (Kd.C_below HX.out H21.out))).mono ?_; rintro e w22 ⟨rfl, rfl⟩)
        go_simp
        refine hK.out _ _ hHeld (fun hHeld => ?_)
        clear hK K
        try simp only [Act.put, List.getElem_toArray, List.getElem_cons_zero, List.getElem_cons_succ, List.setIfInBounds_toArray, List.set_cons_zero, List.set_cons_succ]
        refine wpAnyH_take (i := 3) (v := ?_) rfl (by kernel_rfl) (by kernel_rfl) (by kernel_rfl) (fun _ _ _ h => h) (Or.inl ⟨by rfl, ?_⟩) (by assumption) ?_
        rotate_left 1
        · first | (intro w hSw; go_simp; done) | (intro w hSw; go_simp; with_reducible rfl)
        try simp only [Act.put, List.getElem_toArray, List.getElem_cons_zero, List.getElem_cons_succ, List.setIfInBounds_toArray, List.set_cons_zero, List.set_cons_succ]
        refine wpAnyH_take (i := 4) (v := ?_) rfl (by kernel_rfl) (by kernel_rfl) (by kernel_rfl) (fun _ _ _ h => h) (Or.inl ⟨by rfl, ?_⟩) (by assumption) ?_
        rotate_left 1
        · first | (intro w hSw; go_simp; done) | (intro w hSw; go_simp; with_reducible rfl)
        try simp only [Act.put, List.getElem_toArray, List.getElem_cons_zero, List.getElem_cons_succ, List.setIfInBounds_toArray, List.set_cons_zero, List.set_cons_succ]
        refine wpAnyH_take (i := 5) (v := ?_) rfl (by kernel_rfl) (by kernel_rfl) (by kernel_rfl) (fun _ _ _ h => h) (Or.inl ⟨by rfl, ?_⟩) (by assumption) ?_
        rotate_left 1
        · first | (intro w hSw; go_simp; done) | (intro w hSw; go_simp; with_reducible rfl)
        try simp only [Act.put, List.getElem_toArray, List.getElem_cons_zero, List.getElem_cons_succ, List.setIfInBounds_toArray, List.set_cons_zero, List.set_cons_succ]
        refine wpAnyH_take (i := 6) (v := ?_) rfl (by kernel_rfl) (by kernel_rfl) (by kernel_rfl) (fun _ _ _ h => h) (Or.inl ⟨by rfl, ?_⟩) (by assumption) ?_
        rotate_left 1
        · first | (intro w hSw; go_simp; done) | (intro w hSw; go_simp; with_reducible rfl)
        try simp only [Act.put, List.getElem_toArray, List.getElem_cons_zero, List.getElem_cons_succ, List.setIfInBounds_toArray, List.set_cons_zero, List.set_cons_succ]
        refine wpAnyH_take (i := 7) (v := ?_) rfl (by kernel_rfl) (by kernel_rfl) (by kernel_rfl) (fun _ _ _ h => h) (Or.inl ⟨by rfl, ?_⟩) (by assumption) ?_
        rotate_left 1
        · first | (intro w hSw; go_simp; done) | (intro w hSw; go_simp; with_reducible rfl)
        try simp only [Act.put, List.getElem_toArray, List.getElem_cons_zero, List.getElem_cons_succ, List.setIfInBounds_toArray, List.set_cons_zero, List.set_cons_succ]
        refine wpAnyH_take (i := 8) (v := ?_) rfl (by kernel_rfl) (by kernel_rfl) (by kernel_rfl) (fun _ _ _ h => h) (Or.inl ⟨by rfl, ?_⟩) (by assumption) ?_
        rotate_left 1
        · first | (intro w hSw; go_simp; done) | (intro w hSw; go_simp; with_reducible rfl)
        try simp only [Act.put, List.getElem_toArray, List.getElem_cons_zero, List.getElem_cons_succ, List.setIfInBounds_toArray, List.set_cons_zero, List.set_cons_succ]
        refine wpAnyH_take (i := 9) (v := ?_) rfl (by kernel_rfl) (by kernel_rfl) (by kernel_rfl) (fun _ _ _ h => h) (Or.inl ⟨by rfl, ?_⟩) (by assumption) ?_
        rotate_left 1
        · first | (intro w hSw; go_simp; done) | (intro w hSw; go_simp; with_reducible rfl)
        try simp only [Act.put, List.getElem_toArray, List.getElem_cons_zero, List.getElem_cons_succ, List.setIfInBounds_toArray, List.set_cons_zero, List.set_cons_succ]
        refine wpAnyH_take (i := 10) (v := ?_) rfl (by kernel_rfl) (by kernel_rfl) (by kernel_rfl) (fun _ _ _ h => h) (Or.inl ⟨by rfl, ?_⟩) (by assumption) ?_
        rotate_left 1
        · first | (intro w hSw; go_simp; done) | (intro w hSw; go_simp; with_reducible rfl)
        try simp only [Act.put, List.getElem_toArray, List.getElem_cons_zero, List.getElem_cons_succ, List.setIfInBounds_toArray, List.set_cons_zero, List.set_cons_succ]
        refine wpAnyH_take (i := 11) (v := ?_) rfl (by kernel_rfl) (by kernel_rfl) (by kernel_rfl) (fun _ _ _ h => h) (Or.inl ⟨by rfl, ?_⟩) (by assumption) ?_
        rotate_left 1
        · first | (intro w hSw; go_simp; done) | (intro w hSw; go_simp; with_reducible rfl)
        try simp only [Act.put, List.getElem_toArray, List.getElem_cons_zero, List.getElem_cons_succ, List.setIfInBounds_toArray, List.set_cons_zero, List.set_cons_succ]
        refine wpAnyH_take (i := 12) (v := ?_) rfl (by kernel_rfl) (by kernel_rfl) (by kernel_rfl) (fun _ _ _ h => h) (Or.inl ⟨by rfl, ?_⟩) (by assumption) ?_
        rotate_left 1
        · first | (intro w hSw; go_simp; done) | (intro w hSw; go_simp; with_reducible rfl)
        try simp only [Act.put, List.getElem_toArray, List.getElem_cons_zero, List.getElem_cons_succ, List.setIfInBounds_toArray, List.set_cons_zero, List.set_cons_succ]
        refine wpAnyH_take (i := 13) (v := ?_) rfl (by kernel_rfl) (by kernel_rfl) (by kernel_rfl) (fun _ _ _ h => h) (Or.inl ⟨by rfl, ?_⟩) (by assumption) ?_
        rotate_left 1
        · first | (intro w hSw; go_simp; done) | (intro w hSw; go_simp; with_reducible rfl)
        try simp only [Act.put, List.getElem_toArray, List.getElem_cons_zero, List.getElem_cons_succ, List.setIfInBounds_toArray, List.set_cons_zero, List.set_cons_succ]
        refine wpAnyH_take (i := 14) (v := ?_) rfl (by kernel_rfl) (by kernel_rfl) (by kernel_rfl) (fun _ _ _ h => h) (Or.inl ⟨by rfl, ?_⟩) (by assumption) ?_
        rotate_left 1
        · first | (intro w hSw; go_simp; done) | (intro w hSw; go_simp; with_reducible rfl)
        try simp only [Act.put, List.getElem_toArray, List.getElem_cons_zero, List.getElem_cons_succ, List.setIfInBounds_toArray, List.set_cons_zero, List.set_cons_succ]
        refine wpAnyH_take (i := 15) (v := ?_) rfl (by kernel_rfl) (by kernel_rfl) (by kernel_rfl) (fun _ _ _ h => h) (Or.inl ⟨by rfl, ?_⟩) (by assumption) ?_
        rotate_left 1
        · first | (intro w hSw; go_simp; done) | (intro w hSw; go_simp; with_reducible rfl)
        try simp only [Act.put, List.getElem_toArray, List.getElem_cons_zero, List.getElem_cons_succ, List.setIfInBounds_toArray, List.set_cons_zero, List.set_cons_succ]
        refine wpAnyH_take (i := 16) (v := ?_) rfl (by kernel_rfl) (by kernel_rfl) (by kernel_rfl) (fun _ _ _ h => h) (Or.inl ⟨by rfl, ?_⟩) (by assumption) ?_
        rotate_left 1
        · first | (intro w hSw; go_simp; done) | (intro w hSw; go_simp; with_reducible rfl)
        try simp only [Act.put, List.getElem_toArray, List.getElem_cons_zero, List.getElem_cons_succ, List.setIfInBounds_toArray, List.set_cons_zero, List.set_cons_succ]
        refine wpAnyH_take (i := 17) (v := ?_) rfl (by kernel_rfl) (by kernel_rfl) (by kernel_rfl) (fun _ _ _ h => h) (Or.inl ⟨by rfl, ?_⟩) (by assumption) ?_
        rotate_left 1
        · first | (intro w hSw; go_simp; done) | (intro w hSw; go_simp; with_reducible rfl)
        try simp only [Act.put, List.getElem_toArray, List.getElem_cons_zero, List.getElem_cons_succ, List.setIfInBounds_toArray, List.set_cons_zero, List.set_cons_succ]
        refine wpAnyH_take (i := 18) (v := ?_) rfl (by kernel_rfl) (by kernel_rfl) (by kernel_rfl) (fun _ _ _ h => h) (Or.inl ⟨by rfl, ?_⟩) (by assumption) ?_
        rotate_left 1
        · first | (intro w hSw; go_simp; done) | (intro w hSw; go_simp; with_reducible rfl)
        try simp only [Act.put, List.getElem_toArray, List.getElem_cons_zero, List.getElem_cons_succ, List.setIfInBounds_toArray, List.set_cons_zero, List.set_cons_succ]
        refine wpAnyH_take (i := 19) (v := ?_) rfl (by kernel_rfl) (by kernel_rfl) (by kernel_rfl) (fun _ _ _ h => h) (Or.inl ⟨by rfl, ?_⟩) (by assumption) ?_
        rotate_left 1
        · first | (intro w hSw; go_simp; done) | (intro w hSw; go_simp; with_reducible rfl)
        try simp only [Act.put, List.getElem_toArray, List.getElem_cons_zero, List.getElem_cons_succ, List.setIfInBounds_toArray, List.set_cons_zero, List.set_cons_succ]
        refine wpAnyH_take (i := 20) (v := ?_) rfl (by kernel_rfl) (by kernel_rfl) (by kernel_rfl) (fun _ _ _ h => h) (Or.inl ⟨by rfl, ?_⟩) (by assumption) ?_
        rotate_left 1
        · first | (intro w hSw; go_simp; done) | (intro w hSw; go_simp; with_reducible rfl)
        try simp only [Act.put, List.getElem_toArray, List.getElem_cons_zero, List.getElem_cons_succ, List.setIfInBounds_toArray, List.set_cons_zero, List.set_cons_succ]
        refine wpAnyH_take (i := 21) (v := ?_) rfl (by kernel_rfl) (by kernel_rfl) (by kernel_rfl) (fun _ _ _ h => h) (Or.inl ⟨by rfl, ?_⟩) (by assumption) ?_
        rotate_left 1
        · first | (intro w hSw; go_simp; done) | (intro w hSw; go_simp; with_reducible rfl)
        try simp only [Act.put, List.getElem_toArray, List.getElem_cons_zero, List.getElem_cons_succ, List.setIfInBounds_toArray, List.set_cons_zero, List.set_cons_succ]
        refine wpAnyH_take (i := 22) (v := ?_) rfl (by kernel_rfl) (by kernel_rfl) (by kernel_rfl) (fun _ _ _ h => h) (Or.inl ⟨by rfl, ?_⟩) (by assumption) ?_
        rotate_left 1
        · first | (intro w hSw; go_simp; done) | (intro w hSw; go_simp; with_reducible rfl)
        try simp only [Act.put, List.getElem_toArray, List.getElem_cons_zero, List.getElem_cons_succ, List.setIfInBounds_toArray, List.set_cons_zero, List.set_cons_succ]
        refine wpAnyH_take (i := 23) (v := ?_) rfl (by kernel_rfl) (by kernel_rfl) (by kernel_rfl) (fun _ _ _ h => h) (Or.inl ⟨by rfl, ?_⟩) (by assumption) ?_
        rotate_left 1
        · first | (intro w hSw; go_simp; done) | (intro w hSw; go_simp; with_reducible rfl)
        try simp only [Act.put, List.getElem_toArray, List.getElem_cons_zero, List.getElem_cons_succ, List.setIfInBounds_toArray, List.set_cons_zero, List.set_cons_succ]
        refine wpAnyH_take (i := 24) (v := ?_) rfl (by kernel_rfl) (by kernel_rfl) (by kernel_rfl) (fun _ _ _ h => h) (Or.inl ⟨by rfl, ?_⟩) (by assumption) ?_
        rotate_left 1
        · first | (intro w hSw; go_simp; done) | (intro w hSw; go_simp; with_reducible rfl)
        try simp only [Act.put, List.getElem_toArray, List.getElem_cons_zero, List.getElem_cons_succ, List.setIfInBounds_toArray, List.set_cons_zero, List.set_cons_succ]
        refine wpAnyH_take (i := 25) (v := ?_) rfl (by kernel_rfl) (by kernel_rfl) (by kernel_rfl) (fun _ _ _ h => h) (Or.inl ⟨by rfl, ?_⟩) (by assumption) ?_
        rotate_left 1
        · first | (intro w hSw; go_simp; done) | (intro w hSw; go_simp; with_reducible rfl)
        try simp only [Act.put, List.getElem_toArray, List.getElem_cons_zero, List.getElem_cons_succ, List.setIfInBounds_toArray, List.set_cons_zero, List.set_cons_succ]
        refine wpAnyH_take (i := 26) (v := ?_) rfl (by kernel_rfl) (by kernel_rfl) (by kernel_rfl) (fun _ _ _ h => h) (Or.inl ⟨by rfl, ?_⟩) (by assumption) ?_
        rotate_left 1
        · first | (intro w hSw; go_simp; done) | (intro w hSw; go_simp; with_reducible rfl)
        try simp only [Act.put, List.getElem_toArray, List.getElem_cons_zero, List.getElem_cons_succ, List.setIfInBounds_toArray, List.set_cons_zero, List.set_cons_succ]
        refine wpAnyH_take (i := 27) (v := ?_) rfl (by kernel_rfl) (by kernel_rfl) (by kernel_rfl) (fun _ _ _ h => h) (Or.inl ⟨by rfl, ?_⟩) (by assumption) ?_
        rotate_left 1
        · first | (intro w hSw; go_simp; done) | (intro w hSw; go_simp; with_reducible rfl)
        try simp only [Act.put, List.getElem_toArray, List.getElem_cons_zero, List.getElem_cons_succ, List.setIfInBounds_toArray, List.set_cons_zero, List.set_cons_succ]
        refine wpAnyH_take (i := 28) (v := ?_) rfl (by kernel_rfl) (by kernel_rfl) (by kernel_rfl) (fun _ _ _ h => h) (Or.inl ⟨by rfl, ?_⟩) (by assumption) ?_
        rotate_left 1
        · first | (intro w hSw; go_simp; done) | (intro w hSw; go_simp; with_reducible rfl)
        try simp only [Act.put, List.getElem_toArray, List.getElem_cons_zero, List.getElem_cons_succ, List.setIfInBounds_toArray, List.set_cons_zero, List.set_cons_succ]
        refine wpAnyH_take (i := 29) (v := ?_) rfl (by kernel_rfl) (by kernel_rfl) (by kernel_rfl) (fun _ _ _ h => h) (Or.inl ⟨by rfl, ?_⟩) (by assumption) ?_
        rotate_left 1
        · first | (intro w hSw; go_simp; done) | (intro w hSw; go_simp; with_reducible rfl)
        try simp only [Act.put, List.getElem_toArray, List.getElem_cons_zero, List.getElem_cons_succ, List.setIfInBounds_toArray, List.set_cons_zero, List.set_cons_succ]
        refine wpAnyH_take (i := 30) (v := ?_) rfl (by kernel_rfl) (by kernel_rfl) (by kernel_rfl) (fun _ _ _ h => h) (Or.inl ⟨by rfl, ?_⟩) (by assumption) ?_
        rotate_left 1
        · first | (intro w hSw; go_simp; done) | (intro w hSw; go_simp; with_reducible rfl)
        try simp only [Act.put, List.getElem_toArray, List.getElem_cons_zero, List.getElem_cons_succ, List.setIfInBounds_toArray, List.set_cons_zero, List.set_cons_succ]
        refine wpAnyH_take (i := 31) (v := ?_) rfl (by kernel_rfl) (by kernel_rfl) (by kernel_rfl) (fun _ _ _ h => h) (Or.inl ⟨by rfl, ?_⟩) (by assumption) ?_
        rotate_left 1
        · first | (intro w hSw; go_simp; done) | (intro w hSw; go_simp; with_reducible rfl)
        try simp only [Act.put, List.getElem_toArray, List.getElem_cons_zero, List.getElem_cons_succ, List.setIfInBounds_toArray, List.set_cons_zero, List.set_cons_succ]
        refine wpAnyH_take (i := 32) (v := ?_) rfl (by kernel_rfl) (by kernel_rfl) (by kernel_rfl) (fun _ _ _ h => h) (Or.inl ⟨by rfl, ?_⟩) (by assumption) ?_
        rotate_left 1
        · first | (intro w hSw; go_simp; done) | (intro w hSw; go_simp; with_reducible rfl)
        try simp only [Act.put, List.getElem_toArray, List.getElem_cons_zero, List.getElem_cons_succ, List.setIfInBounds_toArray, List.set_cons_zero, List.set_cons_succ]
        refine wpAnyH_take (i := 33) (v := ?_) rfl (by kernel_rfl) (by kernel_rfl) (by kernel_rfl) (fun _ _ _ h => h) (Or.inl ⟨by rfl, ?_⟩) (by assumption) ?_
        rotate_left 1
        · first | (intro w hSw; go_simp; done) | (intro w hSw; go_simp; with_reducible rfl)
        try simp only [Act.put, List.getElem_toArray, List.getElem_cons_zero, List.getElem_cons_succ, List.setIfInBounds_toArray, List.set_cons_zero, List.set_cons_succ]
        refine wpAnyH_take (i := 34) (v := ?_) rfl (by kernel_rfl) (by kernel_rfl) (by kernel_rfl) (fun _ _ _ h => h) (Or.inl ⟨by rfl, ?_⟩) (by assumption) ?_
        rotate_left 1
        · first | (intro w hSw; go_simp; done) | (intro w hSw; go_simp; with_reducible rfl)
        try simp only [Act.put, List.getElem_toArray, List.getElem_cons_zero, List.getElem_cons_succ, List.setIfInBounds_toArray, List.set_cons_zero, List.set_cons_succ]
        refine wpAnyH_take (i := 35) (v := ?_) rfl (by kernel_rfl) (by kernel_rfl) (by kernel_rfl) (fun _ _ _ h => h) (Or.inl ⟨by rfl, ?_⟩) (by assumption) ?_
        rotate_left 1
        · first | (intro w hSw; go_simp; done) | (intro w hSw; go_simp; with_reducible rfl)
        try simp only [Act.put, List.getElem_toArray, List.getElem_cons_zero, List.getElem_cons_succ, List.setIfInBounds_toArray, List.set_cons_zero, List.set_cons_succ]
        refine wpAnyH_take (i := 36) (v := ?_) rfl (by kernel_rfl) (by kernel_rfl) (by kernel_rfl) (fun _ _ _ h => h) (Or.inl ⟨by rfl, ?_⟩) (by assumption) ?_
        rotate_left 1
        · first | (intro w hSw; go_simp; done) | (intro w hSw; go_simp; with_reducible rfl)
        try simp only [Act.put, List.getElem_toArray, List.getElem_cons_zero, List.getElem_cons_succ, List.setIfInBounds_toArray, List.set_cons_zero, List.set_cons_succ]
        refine wpAnyH_ready (rs := [37]) (by kernel_rfl) (by simp) ?_
        refine AllReadyH.cons rfl (fun K hK => ?_) AllReadyH.nil
        go_simp
        (go_at_call 14; refine (refUint_calls _ x HN.out).mono ?_; intro e w22 h; obtain ⟨A22, c22, rfl, _, _, hC, hb⟩ := h.open_; have HC22 := Aside0.mk hC; have HB22 := Aside0.mk (below_step (below_drew (Below.refl _ w21)) hb); clear h hC hb)
        go_simp
        refine hK.out _ _ (HSB.out _ (HB22.out)) (fun hHeld => ?_)
        clear hK K
        try simp only [Act.put, List.getElem_toArray, List.getElem_cons_zero, List.getElem_cons_succ, List.setIfInBounds_toArray, List.set_cons_zero, List.set_cons_succ]
        refine wpAnyH_ready (rs := [38]) (by kernel_rfl) (by simp) ?_
        refine AllReadyH.cons rfl (fun K hK => ?_) AllReadyH.nil
        go_simp
        (go_at_call 13; refine (join_calls _ _ _ b _ _ (uintsF x) (Kd.C_below HX.out (below_step H21.out HB22.out)) HC22.out HUJ.out).mono ?_; intro e w23 h; rw [← HLL.out] at h; obtain ⟨A23, c23, rfl, _, _, hC, hb⟩ := h.open_; have HC23 := Aside0.mk hC; have HB23 := Aside0.mk hb; clear h hC hb)
        go_simp
        refine hK.out _ _ (HSB.out _ (below_step HB22.out HB23.out)) (fun hHeld => ?_)
        clear hK K
        try simp only [Act.put, List.getElem_toArray, List.getElem_cons_zero, List.getElem_cons_succ, List.setIfInBounds_toArray, List.set_cons_zero, List.set_cons_succ]
        refine wpAnyH_ready (rs := [39]) (by kernel_rfl) (by simp) ?_
        refine AllReadyH.cons rfl (fun K hK => ?_) AllReadyH.nil
        go_simp
        (go_at_call 10; refine (bytes_same _ _ _ _ _ L (Kd.C_below HCV.out (below_step HB22.out HB23.out)) HC23.out).mono ?_; rintro e w24 ⟨rfl, rfl⟩)
        go_simp
        refine hK.out _ _ (HSB.out _ (below_step HB22.out HB23.out)) (fun hHeld => ?_)
        clear hK K
        try simp only [Act.put, List.getElem_toArray, List.getElem_cons_zero, List.getElem_cons_succ, List.setIfInBounds_toArray, List.set_cons_zero, List.set_cons_succ]
        refine wpAnyH_take (i := 40) (v := ?_) rfl (by kernel_rfl) (by kernel_rfl) (by kernel_rfl) (fun _ _ _ h => h) (Or.inl ⟨by rfl, ?_⟩) (by assumption) ?_
        rotate_left 1
        · first | (intro w hSw; go_simp; done) | (intro w hSw; go_simp; with_reducible rfl)
        try simp only [Act.put, List.getElem_toArray, List.getElem_cons_zero, List.getElem_cons_succ, List.setIfInBounds_toArray, List.set_cons_zero, List.set_cons_succ]
        refine wpAnyH_take (i := 41) (v := ?_) rfl (by kernel_rfl) (by kernel_rfl) (by kernel_rfl) (fun _ _ _ h => h) (Or.inl ⟨by rfl, ?_⟩) (by assumption) ?_
        rotate_left 1
        · first | (intro w hSw; go_simp; done) | (intro w hSw; go_simp; with_reducible rfl)
        try simp only [Act.put, List.getElem_toArray, List.getElem_cons_zero, List.getElem_cons_succ, List.setIfInBounds_toArray, List.set_cons_zero, List.set_cons_succ]
        refine wpAnyH_done (by kernel_rfl) ?_ _
        refine NoPanic.normal ?_
        go_wp2
        go_ret
        exact ⟨rfl, below_step H21.out (below_step HB22.out HB23.out)⟩
end Go.Proofs.Ythacedijfjcbcaa
