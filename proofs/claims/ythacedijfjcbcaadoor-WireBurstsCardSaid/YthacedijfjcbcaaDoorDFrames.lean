/- WireFrames. -/
import Derived.Test.YthacedijfjcbcaaDoorR4Scan
namespace Go.Proofs.YthacedijfjcbcaaDoor
open Go.RowKit Go.Proofs.YthacedijfjcbcaaDoorW.PrintWords Go.Proofs.YthacedijfjcbcaaDoorW.PrintLast Go.Proofs.YthacedijfjcbcaaDoorW.PrintMore
set_option linter.unusedVariables false
set_option linter.unusedSimpArgs false
set_option maxRecDepth 100000 in
set_option maxHeartbeats 2000000 in
theorem wireFrames_calls (w : World) (hg : Laid w) (A : Option Addr) (c : Nat) (b : List UInt8) (p : Int) (hx : kB.C w A b.length b) (hc : b.length ≤ c) (hl : b.length ≤ 9223372036854775807) :
    Calls Tryd.prog 4 #[.slice A b.length c, .int .i64 p] w fun e w' => e = .returned (.bool true) ∧ Below w.heap.size w w' := by
  have HX := Lib.hid hx
  have HC := Lib.hid hc
  have HG := Lib.hid hg
  have hl1 : (b.length : Int) ≤ 9223372036854775807 := by omega
  obtain ⟨F, hF⟩ : ∃ F, F = frameF b := ⟨_, rfl⟩
  obtain ⟨t, ht⟩ : ∃ t, t = takeF b p := ⟨_, rfl⟩
  obtain ⟨ys, n, er⟩ := t
  obtain ⟨sm, hsm⟩ : ∃ sm, sm = sumN b := ⟨_, rfl⟩
  obtain ⟨t2, ht2⟩ : ∃ t2, t2 = scanF b (b.length + 1) 0 := ⟨_, rfl⟩
  obtain ⟨ls, m⟩ := t2
  have HF := Lib.hid hF
  have HT := Lib.hid ht
  have HT2 := Lib.hid ht2
  have HSM := Lib.hid hsm
  clear hx hc hl hg ht ht2 hF hsm
  by_cases h3 : 3000 < b.length
  · have h3' : (3000 : Int) < b.length := by omega
    clear h3
    go_enter Tryd.func4, Tryd.ntmps4
    go_wp2_with (go_at_call 7; refine (awake_calls _).mono ?_; rintro e w0 ⟨rfl, hb⟩; have H0 := Aside0.mk hb; clear hb)
    go_ret
    exact ⟨rfl, H0.out⟩
  · have h3' : ¬ (3000 : Int) < b.length := by omega
    have HL := Lib.hid (show b.length ≤ 1099511627776 by omega)
    have HLM := Lib.hid (show b.length ≤ 1048576 by omega)
    clear h3
    go_enter Tryd.func4, Tryd.ntmps4
    go_upto_region 6 with (first
      | (go_at_call 15; refine (frame_calls _ _ _ b HC1.out HLM.out).mono ?_; intro e w2 h; rw [← HF.out] at h; obtain ⟨B2, d2, rfl, hd, hR, hb⟩ := h; have HC2 := Aside0.mk (Kd.R_reads' hR).2.2; have H2 := Aside0.mk (below_step H1.out hb); clear hR hb hd)
      | (go_at_call 16; refine (twin_calls _ _ _ b (Kd.C_below HX.out H0.out) HL.out).mono ?_; intro e w1 h; obtain ⟨A1, c1, rfl, hl1, _, hC, hb⟩ := h.open_; have HC1 := Aside0.mk hC; have HL1 := Lib.hid hl1; have H1 := Aside0.mk (below_step H0.out hb); clear h hC hb hl1)
      | (go_at_call 7; refine (awake_calls _).mono ?_; rintro e w0 ⟨rfl, hb⟩; have H0 := Aside0.mk hb; clear hb))
    go_cut [7, 8] (fun s7 s8 wx => ∃ B3 d3 g, s7 = .slice B3 F.length d3 ∧ s8 = .pointer (some ⟨g, 0, none⟩) ∧ Aside0 (Below w.heap.size w wx ∧ w.heap.size ≤ g ∧ kB.C wx B2 F.length F ∧ kB.C wx B3 F.length F ∧ wx.heap[g]? = some (.cells #[.bool false, .slice none 0 0, .int .i64 0] 35)))
    case first =>
      go_wp2_with (go_at_call 17; refine (refDoc_calls _ _ _ b (Kd.C_below HX.out H2.out) HLM.out).mono ?_; intro e w3 h; rw [← HF.out] at h; obtain ⟨B3, d3, rfl, hC, hb⟩ := h; have HC3 := Aside0.mk hC; have HB3 := Aside0.mk hb; have H3 := Aside0.mk (below_step H2.out hb); clear hC hb)
      go_meet
      exact ⟨B3, d3, _, rfl, rfl, ⟨below_alloc H3.out _, H3.out.size, Kd.C_alloc (Kd.C_below HC2.out HB3.out) _, Kd.C_alloc HC3.out _, heap_alloc_new _ _⟩⟩
    case rest =>
      obtain ⟨B3, d3, g, rfl, rfl, hh⟩ := hcut
      obtain ⟨hb, hgw, hc2, hc3, hz⟩ := hh.out
      obtain ⟨⟨q0, q1, q2⟩, _, _, _⟩ := E_cells (x := (0, 0)) hz
      have H4 := Aside0.mk hb
      have HGW := Lib.hid hgw
      have HCa := Aside0.mk hc2
      have HCb := Aside0.mk hc3
      have HQ4 := Aside0.mk hz
      clear hh hb hgw hc2 hc3 hz
      go_upto_region 10 with (first
        | (go_at_call 21; refine (takeFrame_calls _ _ _ b p HC8.out HL8.out HL.out).mono ?_; intro e w9 h; unfold TakeFPost at h; rw [← HT.out] at h; obtain ⟨pv, v9, rfl, hp, hv, hb⟩ := h; obtain ⟨A9, c9, rfl, _, hC⟩ := Kd.R_reads hp; have HC9 := Aside0.mk hC; have HV9 := Aside0.mk hv; have H9 := Aside0.mk (below_step H8.out hb); have HQ9 := Aside0.mk ((hb.block _ (blk_lt HQ8.out)).trans HQ8.out); have HS8 := Aside0.mk (blk_lt HQ8.out); clear hv hb hp hC)
        | (have mm := MS.out; clear mm; go_at_call 16; refine (twin_calls _ _ _ b (Kd.C_below HX.out H6.out) HL.out).mono ?_; intro e w8 h; obtain ⟨A8, c8, rfl, hl1, _, hC, hb⟩ := h.open_; have HC8 := Aside0.mk hC; have HL8 := Lib.hid hl1; have H8 := Aside0.mk (below_step H6.out hb); have HQ8 := Aside0.mk ((hb.block _ (blk_lt HQ6.out)).trans HQ6.out); clear h hC hb hl1)
        | (go_at_call 20; refine (refSum_calls _ _ _ b (Kd.C_below HX.out H6.out)).mono ?_; rintro e w7 ⟨rfl, rfl⟩; rw [← HSM.out]; have MS := Aside0.mk True.intro)
        | (go_at_call 19; refine (sum_calls _ _ _ b HC6.out).mono ?_; rintro e w7 ⟨rfl, rfl⟩; rw [← HSM.out])
        | (go_at_call 16; refine (twin_calls _ _ _ b (Kd.C_below HX.out H5.out) HL.out).mono ?_; intro e w6 h; obtain ⟨A6, c6, rfl, hl1, _, hC, hb⟩ := h.open_; have HC6 := Aside0.mk hC; have HL6 := Lib.hid hl1; have H6 := Aside0.mk (below_step H5.out hb); have HQ6 := Aside0.mk ((hb.block _ (blk_lt HQ5.out)).trans HQ5.out); clear h hC hb hl1)
        | (go_at_call 11; refine (fails_calls _ 0 .ok _ _ (HG.out.below H4.out) rfl rfl).mono ?_; rintro e w5 ⟨rfl, hb⟩; have H5 := Aside0.mk (below_step H4.out hb); have HQ5 := Aside0.mk ((hb.block _ (blk_lt HQ4.out)).trans HQ4.out); clear hb)
        | (go_at_call 18; refine (bytes_same _ _ _ _ _ F HCa.out HCb.out).mono ?_; rintro e w9 ⟨rfl, rfl⟩))
      go_cut [7, 10] (fun s7 s10 wx => s10 = .int .i64 n ∧ ∃ B5 d5 A0 n0 c0 cd0, s7 = .slice B5 ys.length d5 ∧ Aside0 (Below w.heap.size w wx ∧ IsEr wx w8.heap.size er v9 ∧ IsE wx er (.agg #[.bool er.bad, .slice A0 n0 c0, .int .i64 cd0]) ∧ wx.heap[g]? = some (.cells #[.bool er.bad, .slice A0 n0 c0, .int .i64 cd0] 35) ∧ kB.C wx A9 ys.length ys ∧ kB.C wx B5 ys.length ys))
      case first =>
        go_wp2_with (go_at_call 22; refine (refTakeFrame_calls _ _ _ b p (Kd.C_below HX.out H9.out) HC.out HL.out).mono ?_; intro e w10 h; unfold RTakeFPost at h; rw [← HT.out] at h; obtain ⟨pv2, v10, rfl, hp, hv, hb⟩ := h; obtain ⟨B5, d5, rfl, _, hC⟩ := Kd.R_reads hp; obtain ⟨A8, n8, c8, cd8, rfl⟩ := hv.open_; have HV10 := Aside0.mk hv; have HB10 := Aside0.mk hb; have H10 := Aside0.mk (below_step H9.out hb); have HC10 := Aside0.mk hC; have hz8 := (hb.block _ (blk_lt HQ9.out)).trans HQ9.out; obtain ⟨⟨z0, z1, z2⟩, z3, z4, z5⟩ := E_cells (x := (0, 0)) hz8; have HQ10 := Aside0.mk hz8; clear hv hb hz8 hp hC)
        go_meet
        exact ⟨rfl, B5, d5, A8, n8, c8, cd8, rfl, ⟨below_put H10.out HGW.out _ _ _, (HV9.out.below HB10.out).put HS8.out _ _ _, HV10.out.put HQ10.out _ _ _, E_put HQ10.out _ _ _, C_farput (Kd.C_below HC9.out HB10.out) HQ10.out _ _ _ _ _, C_farput HC10.out HQ10.out _ _ _ _ _⟩⟩
      case rest =>
        obtain ⟨rfl, B5, d5, A8, n8, c8, cd8, rfl, hh⟩ := hcut
        obtain ⟨hb, hv, he, hz, hc2, hc3⟩ := hh.out
        obtain ⟨⟨q0, q1, q2⟩, _, _, _⟩ := E_cells (x := (0, 0)) hz
        have H11 := Aside0.mk hb
        have HV11 := Aside0.mk hv
        have HE11 := Aside0.mk he
        have HQ11 := Aside0.mk hz
        have HCa := Aside0.mk hc2
        have HCb := Aside0.mk hc3
        clear hh hb hv he hz hc2 hc3
        go_wp2_with (first
          | (go_at_call 25; refine (lists_same _ _ _ _ _ ls (Kd.C_below HC14.out HB15.out) HC15.out).mono ?_; rintro e w16 ⟨rfl, q, rfl⟩)
          | (go_at_call 24; refine (refScan_calls _ _ _ b (Kd.C_below HX.out H14.out) HC.out HL.out).mono ?_; intro e w15 h; rw [← HT2.out] at h; obtain ⟨v15, rfl, hR, hb⟩ := h; obtain ⟨A15, c15, rfl, _, hC⟩ := Kd.R_reads hR; have HC15 := Aside0.mk hC; have HB15 := Aside0.mk hb; have H15 := Aside0.mk (below_step H14.out hb); clear hR hb hC)
          | (go_at_call 23; refine (scan_calls _ _ _ b HC13.out HL13.out HL.out).mono ?_; intro e w14 h; rw [← HT2.out] at h; obtain ⟨v14, rfl, hR, hb⟩ := h; obtain ⟨A14, c14, rfl, _, hC⟩ := Kd.R_reads hR; have HC14 := Aside0.mk hC; have H14 := Aside0.mk (below_step H13.out hb); clear hR hb hC)
          | (go_at_call 16; refine (twin_calls _ _ _ b (Kd.C_below HX.out H12.out) HL.out).mono ?_; intro e w13 h; obtain ⟨A13, c13, rfl, hl1, _, hC, hb⟩ := h.open_; have HC13 := Aside0.mk hC; have HL13 := Lib.hid hl1; have H13 := Aside0.mk (below_step H12.out hb); have HQ13 := Aside0.mk ((hb.block _ (blk_lt HQ12.out)).trans HQ12.out); clear h hC hb hl1)
          | (go_at_call 11; refine (fails_calls _ _ er _ _ (HG.out.below H11.out) HV11.out HE11.out).mono ?_; rintro e w12 ⟨rfl, hb⟩; have H12 := Aside0.mk (below_step H11.out hb); have HQ12 := Aside0.mk ((hb.block _ (blk_lt HQ11.out)).trans HQ11.out); clear hb)
          | (go_at_call 18; refine (bytes_same _ _ _ _ _ ys HCa.out HCb.out).mono ?_; rintro e w9 ⟨rfl, rfl⟩))
        go_ret
        exact ⟨rfl, pw_below_drewN H15.out _⟩
end Go.Proofs.YthacedijfjcbcaaDoor
