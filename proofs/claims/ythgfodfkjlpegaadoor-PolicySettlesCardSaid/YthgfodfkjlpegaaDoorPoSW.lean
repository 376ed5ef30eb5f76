/- PolicySettles: the walk. -/
import Derived.Test.YthgfodfkjlpegaaDoorPoV
import Derived.Test.YthgfodfkjlpegaaDoorPoL
import Derived.Test.YthgfodfkjlpegaaDoorPoN
namespace Go.Proofs.YthgfodfkjlpegaaDoor
open Go.RowKit Go.Proofs.YthgfodfkjlpegaaDoorW.PrintWords Go.Proofs.YthgfodfkjlpegaaDoorW.PrintLast Go.Proofs.YthgfodfkjlpegaaDoorW.PrintMore
set_option linter.unusedVariables false
set_option linter.unusedSimpArgs false
set_option maxRecDepth 100000 in
set_option maxHeartbeats 2000000 in
theorem settles_go (w : World) (hg : Laid w) (A B : Option Addr) (c d : Nat) (nodes : List Int) (l : List Ld) (most : Int) (hr : (Kd.int .i64).C w A nodes.length nodes) (hl : kLd.C w B l.length l) (hcap : l.length ≤ d) (hwf : ∀ x ∈ l, (Lit.int .i64 x.sub).wf = true)
    (g1 : ¬ (nodes.length : Int) > 20) (g2 : ¬ (l.length : Int) > 30) (m : decide (most > 100) = false ∨ decide (most > 100) = true ∧ decide (most ≤ 10000) = false) :
    Calls Tryd.prog 4 #[.slice A nodes.length c, .slice B l.length d, .int .i64 most] w fun e w' => e = .returned (.bool true) ∧ Below w.heap.size w w' := by
  have HG := Lib.hid hg
  have HR := Lib.hid hr
  have HL := Lib.hid hl
  have HCAP := Lib.hid hcap
  have HWF := Lib.hid hwf
  have g1b : decide ((nodes.length : Int) > 20) = false := by simpa using g1
  have g2b : decide ((l.length : Int) > 30) = false := by simpa using g2
  have HN20 := Lib.hid (show nodes.length ≤ 20 by omega)
  have HL30 := Lib.hid (show l.length ≤ 30 by omega)
  obtain ⟨er, her⟩ : ∃ er, er = settleEr nodes l most := ⟨_, rfl⟩
  have HER := Lib.hid her
  clear hg hr hl hcap hwf g1 g2 her
  by_cases g3 : er = .ok
  · have HOK := Lib.hid g3
    obtain ⟨SS, hss⟩ : ∃ SS, SS = settle nodes most.toNat l := ⟨_, rfl⟩
    have HSS := Lib.hid hss
    clear g3 hss
    rcases m with m1 | ⟨m1, m2⟩
    · go_enter Tryd.func4, Tryd.ntmps4
      go_wp2_with (first
        | (go_at_call 16; refine (same_calls_ld w6 _ _ _ _ l (kLd.C_below HC1.out HB6.out) (kLd.C_below HL.out H6.out)).mono ?_; rintro e w7 ⟨rfl, hb⟩; have H7 := Aside0.mk (below_step H6.out hb.below); clear hb)
        | (go_at_call 16; refine (same_calls_ld (w4.alloc (.cells #[.bool er.bad, .slice E1 En Ec, .int .i64 Ed] 34)) _ _ _ _ SS (kLd.C_below HC3b.out (below_alloc (Below.refl _ _) _)) (kLd.C_below HC4.out (below_alloc (Below.refl _ _) _))).mono ?_; rintro e w5 ⟨rfl, hb⟩; have HV3c := Aside0.mk ((HV3b.out.below (below_alloc (Below.refl _ _) _)).below hb.below); have HV4c := Aside0.mk ((HV4.out.below (below_alloc (Below.refl _ _) _)).below hb.below); have H5 := Aside0.mk (below_step H4.out (below_first hb.below)); have HB5 := Aside0.mk (below_step HB4.out (below_first hb.below)); obtain ⟨⟨e0, e1, e2⟩, _⟩ := E_cells (x := (0, 0)) (show w5.heap[w4.heap.size]? = some (.cells #[.bool er.bad, .slice E1 En Ec, .int .i64 Ed] 34 (0, 0)) from (hb.below.block _ (by rw [alloc_size]; exact Nat.lt_succ_self _)).trans (heap_alloc_new _ _)); clear hb)
        | (go_at_call 9; refine (fails_calls _ w2.heap.size er _ _ (HG.out.below H5.out) HV3c.out HV4c.out).mono ?_; rintro e w6 ⟨rfl, hb⟩; have H6 := Aside0.mk (below_step H5.out hb); have HB6 := Aside0.mk (below_step HB5.out hb); clear hb)
        | (go_at_call 7; refine (list_calls _ _ _ l (kLd.C_below HL.out H0.out) (by have := HL30.out; omega)).mono ?_; rintro e w1 ⟨v, rfl, hR, hb⟩; obtain ⟨A1, c1, rfl⟩ := Kd.R_slice hR; have HC1 := Lib.hid (Kd.R_reads' hR).2.2; have H1 := Aside0.mk (below_step H0.out hb); clear hb hR)
        | (at_builtin; refine app_rows w1.heap.size rfl _ _ rfl (.slice (some ⟨w1.heap.size, 0, none⟩) 0 0) [] nodes A nodes.length c rfl rfl (empty_row w1 _ _ (Nat.le_refl _) trivial _) (Kd.C_alloc (Kd.C_below HR.out H1.out) _) (by simp) (by have := HN20.out; simp; omega) ?_; intro v2 w2 hr hb; rw [List.nil_append] at hr; obtain ⟨A2, c2, rfl⟩ := Kd.R_slice hr; have HC2 := Lib.hid (Kd.R_reads' hr).2.2; have HB2 := Aside0.mk (below_weaken (below_alloc (Below.refl _ _) _) (Nat.le_refl _) hb); have H2 := Aside0.mk (below_step H1.out HB2.out); clear hr hb)
        | (go_at_call 14; refine (settle_calls _ _ _ _ _ nodes l most HC2.out (kLd.C_below HC1.out HB2.out) HWF.out (by have := HN20.out; omega)).mono ?_; rintro e w3 ⟨u3, v3, rfl, hv, hR, hu, hb⟩; rw [← HER.out] at hv hR hu; have HV3 := Aside0.mk hv; have HB3 := Aside0.mk (below_step HB2.out hb); have H3 := Aside0.mk (below_step H1.out HB3.out); have hR2 := hR HOK.out; rw [← HSS.out] at hR2; obtain ⟨A3, c3, rfl⟩ := Kd.R_slice hR2; have HC3 := Lib.hid (Kd.R_reads' hR2).2.2; clear hR2; clear hv hb hR hu)
        | (go_at_call 15; refine (rsettle_calls w3 _ _ _ _ nodes l most (Kd.C_below HR.out H3.out) (kLd.C_below HL.out H3.out) HCAP.out (by have := HN20.out; omega)).mono ?_; rintro e w4 ⟨u4, v4, rfl, hv, hR, hu, hb⟩; rw [← HER.out] at hv hR hu; obtain ⟨E1, En, Ec, Ed, rfl⟩ := hv.open_; have HV4 := Aside0.mk hv; have HV3b := Aside0.mk (HV3.out.below hb); have HB4 := Aside0.mk (below_step HB3.out hb); have H4 := Aside0.mk (below_step H3.out hb); have hR2 := hR HOK.out; rw [← HSS.out] at hR2; obtain ⟨A4, c4, rfl⟩ := Kd.R_slice hR2; have HC4 := Lib.hid (Kd.R_reads' hR2).2.2; have HC3b := Lib.hid (kLd.C_below HC3.out hb); clear hR2; clear hv hb hR hu)
        | (go_at_call 5; refine (awake_calls _).mono ?_; rintro e w0 ⟨rfl, hb⟩; have H0 := Aside0.mk hb; clear hb))
      go_ret
      exact ⟨rfl, H7.out⟩
    · go_enter Tryd.func4, Tryd.ntmps4
      go_wp2_with (first
        | (go_at_call 16; refine (same_calls_ld w6 _ _ _ _ l (kLd.C_below HC1.out HB6.out) (kLd.C_below HL.out H6.out)).mono ?_; rintro e w7 ⟨rfl, hb⟩; have H7 := Aside0.mk (below_step H6.out hb.below); clear hb)
        | (go_at_call 16; refine (same_calls_ld (w4.alloc (.cells #[.bool er.bad, .slice E1 En Ec, .int .i64 Ed] 34)) _ _ _ _ SS (kLd.C_below HC3b.out (below_alloc (Below.refl _ _) _)) (kLd.C_below HC4.out (below_alloc (Below.refl _ _) _))).mono ?_; rintro e w5 ⟨rfl, hb⟩; have HV3c := Aside0.mk ((HV3b.out.below (below_alloc (Below.refl _ _) _)).below hb.below); have HV4c := Aside0.mk ((HV4.out.below (below_alloc (Below.refl _ _) _)).below hb.below); have H5 := Aside0.mk (below_step H4.out (below_first hb.below)); have HB5 := Aside0.mk (below_step HB4.out (below_first hb.below)); obtain ⟨⟨e0, e1, e2⟩, _⟩ := E_cells (x := (0, 0)) (show w5.heap[w4.heap.size]? = some (.cells #[.bool er.bad, .slice E1 En Ec, .int .i64 Ed] 34 (0, 0)) from (hb.below.block _ (by rw [alloc_size]; exact Nat.lt_succ_self _)).trans (heap_alloc_new _ _)); clear hb)
        | (go_at_call 9; refine (fails_calls _ w2.heap.size er _ _ (HG.out.below H5.out) HV3c.out HV4c.out).mono ?_; rintro e w6 ⟨rfl, hb⟩; have H6 := Aside0.mk (below_step H5.out hb); have HB6 := Aside0.mk (below_step HB5.out hb); clear hb)
        | (go_at_call 7; refine (list_calls _ _ _ l (kLd.C_below HL.out H0.out) (by have := HL30.out; omega)).mono ?_; rintro e w1 ⟨v, rfl, hR, hb⟩; obtain ⟨A1, c1, rfl⟩ := Kd.R_slice hR; have HC1 := Lib.hid (Kd.R_reads' hR).2.2; have H1 := Aside0.mk (below_step H0.out hb); clear hb hR)
        | (at_builtin; refine app_rows w1.heap.size rfl _ _ rfl (.slice (some ⟨w1.heap.size, 0, none⟩) 0 0) [] nodes A nodes.length c rfl rfl (empty_row w1 _ _ (Nat.le_refl _) trivial _) (Kd.C_alloc (Kd.C_below HR.out H1.out) _) (by simp) (by have := HN20.out; simp; omega) ?_; intro v2 w2 hr hb; rw [List.nil_append] at hr; obtain ⟨A2, c2, rfl⟩ := Kd.R_slice hr; have HC2 := Lib.hid (Kd.R_reads' hr).2.2; have HB2 := Aside0.mk (below_weaken (below_alloc (Below.refl _ _) _) (Nat.le_refl _) hb); have H2 := Aside0.mk (below_step H1.out HB2.out); clear hr hb)
        | (go_at_call 14; refine (settle_calls _ _ _ _ _ nodes l most HC2.out (kLd.C_below HC1.out HB2.out) HWF.out (by have := HN20.out; omega)).mono ?_; rintro e w3 ⟨u3, v3, rfl, hv, hR, hu, hb⟩; rw [← HER.out] at hv hR hu; have HV3 := Aside0.mk hv; have HB3 := Aside0.mk (below_step HB2.out hb); have H3 := Aside0.mk (below_step H1.out HB3.out); have hR2 := hR HOK.out; rw [← HSS.out] at hR2; obtain ⟨A3, c3, rfl⟩ := Kd.R_slice hR2; have HC3 := Lib.hid (Kd.R_reads' hR2).2.2; clear hR2; clear hv hb hR hu)
        | (go_at_call 15; refine (rsettle_calls w3 _ _ _ _ nodes l most (Kd.C_below HR.out H3.out) (kLd.C_below HL.out H3.out) HCAP.out (by have := HN20.out; omega)).mono ?_; rintro e w4 ⟨u4, v4, rfl, hv, hR, hu, hb⟩; rw [← HER.out] at hv hR hu; obtain ⟨E1, En, Ec, Ed, rfl⟩ := hv.open_; have HV4 := Aside0.mk hv; have HV3b := Aside0.mk (HV3.out.below hb); have HB4 := Aside0.mk (below_step HB3.out hb); have H4 := Aside0.mk (below_step H3.out hb); have hR2 := hR HOK.out; rw [← HSS.out] at hR2; obtain ⟨A4, c4, rfl⟩ := Kd.R_slice hR2; have HC4 := Lib.hid (Kd.R_reads' hR2).2.2; have HC3b := Lib.hid (kLd.C_below HC3.out hb); clear hR2; clear hv hb hR hu)
        | (go_at_call 5; refine (awake_calls _).mono ?_; rintro e w0 ⟨rfl, hb⟩; have H0 := Aside0.mk hb; clear hb))
      go_ret
      exact ⟨rfl, H7.out⟩
  · have HNO := Lib.hid g3
    clear g3
    rcases m with m1 | ⟨m1, m2⟩
    · go_enter Tryd.func4, Tryd.ntmps4
      go_wp2_with (first
        | (go_at_call 16; refine (same_calls_ld w6 _ _ _ _ l (kLd.C_below HC1.out HB6.out) (kLd.C_below HL.out H6.out)).mono ?_; rintro e w7 ⟨rfl, hb⟩; have H7 := Aside0.mk (below_step H6.out hb.below); clear hb)
        | (go_at_call 16; refine (same_calls_ld (w4.alloc (.cells #[.bool er.bad, .slice E1 En Ec, .int .i64 Ed] 34)) _ _ _ _ [] (Kd.C_nil _ _) (Kd.C_nil _ _)).mono ?_; rintro e w5 ⟨rfl, hb⟩; have HV3c := Aside0.mk ((HV3b.out.below (below_alloc (Below.refl _ _) _)).below hb.below); have HV4c := Aside0.mk ((HV4.out.below (below_alloc (Below.refl _ _) _)).below hb.below); have H5 := Aside0.mk (below_step H4.out (below_first hb.below)); have HB5 := Aside0.mk (below_step HB4.out (below_first hb.below)); obtain ⟨⟨e0, e1, e2⟩, _⟩ := E_cells (x := (0, 0)) (show w5.heap[w4.heap.size]? = some (.cells #[.bool er.bad, .slice E1 En Ec, .int .i64 Ed] 34 (0, 0)) from (hb.below.block _ (by rw [alloc_size]; exact Nat.lt_succ_self _)).trans (heap_alloc_new _ _)); clear hb)
        | (go_at_call 9; refine (fails_calls _ w2.heap.size er _ _ (HG.out.below H5.out) HV3c.out HV4c.out).mono ?_; rintro e w6 ⟨rfl, hb⟩; have H6 := Aside0.mk (below_step H5.out hb); have HB6 := Aside0.mk (below_step HB5.out hb); clear hb)
        | (go_at_call 7; refine (list_calls _ _ _ l (kLd.C_below HL.out H0.out) (by have := HL30.out; omega)).mono ?_; rintro e w1 ⟨v, rfl, hR, hb⟩; obtain ⟨A1, c1, rfl⟩ := Kd.R_slice hR; have HC1 := Lib.hid (Kd.R_reads' hR).2.2; have H1 := Aside0.mk (below_step H0.out hb); clear hb hR)
        | (at_builtin; refine app_rows w1.heap.size rfl _ _ rfl (.slice (some ⟨w1.heap.size, 0, none⟩) 0 0) [] nodes A nodes.length c rfl rfl (empty_row w1 _ _ (Nat.le_refl _) trivial _) (Kd.C_alloc (Kd.C_below HR.out H1.out) _) (by simp) (by have := HN20.out; simp; omega) ?_; intro v2 w2 hr hb; rw [List.nil_append] at hr; obtain ⟨A2, c2, rfl⟩ := Kd.R_slice hr; have HC2 := Lib.hid (Kd.R_reads' hr).2.2; have HB2 := Aside0.mk (below_weaken (below_alloc (Below.refl _ _) _) (Nat.le_refl _) hb); have H2 := Aside0.mk (below_step H1.out HB2.out); clear hr hb)
        | (go_at_call 14; refine (settle_calls _ _ _ _ _ nodes l most HC2.out (kLd.C_below HC1.out HB2.out) HWF.out (by have := HN20.out; omega)).mono ?_; rintro e w3 ⟨u3, v3, rfl, hv, hR, hu, hb⟩; rw [← HER.out] at hv hR hu; have HV3 := Aside0.mk hv; have HB3 := Aside0.mk (below_step HB2.out hb); have H3 := Aside0.mk (below_step H1.out HB3.out); obtain rfl := hu HNO.out; clear hv hb hR hu)
        | (go_at_call 15; refine (rsettle_calls w3 _ _ _ _ nodes l most (Kd.C_below HR.out H3.out) (kLd.C_below HL.out H3.out) HCAP.out (by have := HN20.out; omega)).mono ?_; rintro e w4 ⟨u4, v4, rfl, hv, hR, hu, hb⟩; rw [← HER.out] at hv hR hu; obtain ⟨E1, En, Ec, Ed, rfl⟩ := hv.open_; have HV4 := Aside0.mk hv; have HV3b := Aside0.mk (HV3.out.below hb); have HB4 := Aside0.mk (below_step HB3.out hb); have H4 := Aside0.mk (below_step H3.out hb); obtain rfl := hu HNO.out; clear hv hb hR hu)
        | (go_at_call 5; refine (awake_calls _).mono ?_; rintro e w0 ⟨rfl, hb⟩; have H0 := Aside0.mk hb; clear hb))
      go_ret
      exact ⟨rfl, H7.out⟩
    · go_enter Tryd.func4, Tryd.ntmps4
      go_wp2_with (first
        | (go_at_call 16; refine (same_calls_ld w6 _ _ _ _ l (kLd.C_below HC1.out HB6.out) (kLd.C_below HL.out H6.out)).mono ?_; rintro e w7 ⟨rfl, hb⟩; have H7 := Aside0.mk (below_step H6.out hb.below); clear hb)
        | (go_at_call 16; refine (same_calls_ld (w4.alloc (.cells #[.bool er.bad, .slice E1 En Ec, .int .i64 Ed] 34)) _ _ _ _ [] (Kd.C_nil _ _) (Kd.C_nil _ _)).mono ?_; rintro e w5 ⟨rfl, hb⟩; have HV3c := Aside0.mk ((HV3b.out.below (below_alloc (Below.refl _ _) _)).below hb.below); have HV4c := Aside0.mk ((HV4.out.below (below_alloc (Below.refl _ _) _)).below hb.below); have H5 := Aside0.mk (below_step H4.out (below_first hb.below)); have HB5 := Aside0.mk (below_step HB4.out (below_first hb.below)); obtain ⟨⟨e0, e1, e2⟩, _⟩ := E_cells (x := (0, 0)) (show w5.heap[w4.heap.size]? = some (.cells #[.bool er.bad, .slice E1 En Ec, .int .i64 Ed] 34 (0, 0)) from (hb.below.block _ (by rw [alloc_size]; exact Nat.lt_succ_self _)).trans (heap_alloc_new _ _)); clear hb)
        | (go_at_call 9; refine (fails_calls _ w2.heap.size er _ _ (HG.out.below H5.out) HV3c.out HV4c.out).mono ?_; rintro e w6 ⟨rfl, hb⟩; have H6 := Aside0.mk (below_step H5.out hb); have HB6 := Aside0.mk (below_step HB5.out hb); clear hb)
        | (go_at_call 7; refine (list_calls _ _ _ l (kLd.C_below HL.out H0.out) (by have := HL30.out; omega)).mono ?_; rintro e w1 ⟨v, rfl, hR, hb⟩; obtain ⟨A1, c1, rfl⟩ := Kd.R_slice hR; have HC1 := Lib.hid (Kd.R_reads' hR).2.2; have H1 := Aside0.mk (below_step H0.out hb); clear hb hR)
        | (at_builtin; refine app_rows w1.heap.size rfl _ _ rfl (.slice (some ⟨w1.heap.size, 0, none⟩) 0 0) [] nodes A nodes.length c rfl rfl (empty_row w1 _ _ (Nat.le_refl _) trivial _) (Kd.C_alloc (Kd.C_below HR.out H1.out) _) (by simp) (by have := HN20.out; simp; omega) ?_; intro v2 w2 hr hb; rw [List.nil_append] at hr; obtain ⟨A2, c2, rfl⟩ := Kd.R_slice hr; have HC2 := Lib.hid (Kd.R_reads' hr).2.2; have HB2 := Aside0.mk (below_weaken (below_alloc (Below.refl _ _) _) (Nat.le_refl _) hb); have H2 := Aside0.mk (below_step H1.out HB2.out); clear hr hb)
        | (go_at_call 14; refine (settle_calls _ _ _ _ _ nodes l most HC2.out (kLd.C_below HC1.out HB2.out) HWF.out (by have := HN20.out; omega)).mono ?_; rintro e w3 ⟨u3, v3, rfl, hv, hR, hu, hb⟩; rw [← HER.out] at hv hR hu; have HV3 := Aside0.mk hv; have HB3 := Aside0.mk (below_step HB2.out hb); have H3 := Aside0.mk (below_step H1.out HB3.out); obtain rfl := hu HNO.out; clear hv hb hR hu)
        | (go_at_call 15; refine (rsettle_calls w3 _ _ _ _ nodes l most (Kd.C_below HR.out H3.out) (kLd.C_below HL.out H3.out) HCAP.out (by have := HN20.out; omega)).mono ?_; rintro e w4 ⟨u4, v4, rfl, hv, hR, hu, hb⟩; rw [← HER.out] at hv hR hu; obtain ⟨E1, En, Ec, Ed, rfl⟩ := hv.open_; have HV4 := Aside0.mk hv; have HV3b := Aside0.mk (HV3.out.below hb); have HB4 := Aside0.mk (below_step HB3.out hb); have H4 := Aside0.mk (below_step H3.out hb); obtain rfl := hu HNO.out; clear hv hb hR hu)
        | (go_at_call 5; refine (awake_calls _).mono ?_; rintro e w0 ⟨rfl, hb⟩; have H0 := Aside0.mk hb; clear hb))
      go_ret
      exact ⟨rfl, H7.out⟩
set_option maxRecDepth 100000 in
theorem policySettles_calls (w : World) (hg : Laid w) (A B : Option Addr) (c d : Nat) (nodes : List Int) (l : List Ld) (most : Int) (hr : (Kd.int .i64).C w A nodes.length nodes) (hl : kLd.C w B l.length l) (hcap : l.length ≤ d) (hwf : ∀ x ∈ l, (Lit.int .i64 x.sub).wf = true) :
    Calls Tryd.prog 4 #[.slice A nodes.length c, .slice B l.length d, .int .i64 most] w fun e w' => e = .returned (.bool true) ∧ Below w.heap.size w w' := by
  have hm : (nodes.length : Int) ≤ 9223372036854775807 := by have : nodes.length ≤ 9223372036854775807 := hr.2.1; omega
  have hm2 : (l.length : Int) ≤ 9223372036854775807 := by have : l.length ≤ 9223372036854775807 := hl.2.1; omega
  by_cases g1 : (nodes.length : Int) > 20
  · have g1b : decide ((nodes.length : Int) > 20) = true := by simpa using g1
    clear g1 hr hl hcap hwf hg
    go_enter Tryd.func4, Tryd.ntmps4
    go_wp2_with (go_at_call 5; refine (awake_calls _).mono ?_; rintro e w0 ⟨rfl, hb⟩; have H0 := Aside0.mk hb; clear hb)
    go_ret
    exact ⟨rfl, H0.out⟩
  by_cases g2 : (l.length : Int) > 30
  · have g1b : decide ((nodes.length : Int) > 20) = false := by simpa using g1
    have g2b : decide ((l.length : Int) > 30) = true := by simpa using g2
    clear g1 g2 hr hl hcap hwf hg
    go_enter Tryd.func4, Tryd.ntmps4
    go_wp2_with (go_at_call 5; refine (awake_calls _).mono ?_; rintro e w0 ⟨rfl, hb⟩; have H0 := Aside0.mk hb; clear hb)
    go_ret
    exact ⟨rfl, H0.out⟩
  by_cases m1 : most > 100
  · by_cases m2 : most ≤ 10000
    · have g1b : decide ((nodes.length : Int) > 20) = false := by simpa using g1
      have g2b : decide ((l.length : Int) > 30) = false := by simpa using g2
      have m1b : decide (most > 100) = true := by simpa using m1
      have m2b : decide (most ≤ 10000) = true := by simpa using m2
      clear g1 g2 m1 m2 hr hl hcap hwf hg
      go_enter Tryd.func4, Tryd.ntmps4
      go_wp2_with (go_at_call 5; refine (awake_calls _).mono ?_; rintro e w0 ⟨rfl, hb⟩; have H0 := Aside0.mk hb; clear hb)
      go_ret
      exact ⟨rfl, H0.out⟩
    · exact settles_go w hg A B c d nodes l most hr hl hcap hwf g1 g2 (.inr ⟨by simpa using m1, by simpa using m2⟩)
  · exact settles_go w hg A B c d nodes l most hr hl hcap hwf g1 g2 (.inl (by simpa using m1))
end Go.Proofs.YthgfodfkjlpegaaDoor
