/- PolicyChooses: the walk. -/
import Derived.Test.YthgfodfkjlpegaaDoorPoV
import Derived.Test.YthgfodfkjlpegaaDoorPoL
namespace Go.Proofs.YthgfodfkjlpegaaDoor
open Go.RowKit Go.Proofs.YthgfodfkjlpegaaDoorW.PrintWords Go.Proofs.YthgfodfkjlpegaaDoorW.PrintLast Go.Proofs.YthgfodfkjlpegaaDoorW.PrintMore
set_option linter.unusedVariables false
set_option linter.unusedSimpArgs false
theorem Er.bad_true3 {er : Er} (h : er ≠ .ok) : er.bad = true := by
  cases er with
  | ok => exact absurd rfl h
  | num c => rfl
  | at_ a b c => rfl
set_option maxRecDepth 100000 in
set_option maxHeartbeats 2000000 in
theorem policyChooses_calls (w : World) (hg : Laid w) (A B : Option Addr) (c d : Nat) (nodes : List Int) (l : List Ld) (hr : (Kd.int .i64).C w A nodes.length nodes) (hl : kLd.C w B l.length l) (hcap : l.length ≤ d) (hwf : ∀ x ∈ l, (Lit.int .i64 x.sub).wf = true) :
    Calls Tryd.prog 3 #[.slice A nodes.length c, .slice B l.length d] w fun e w' => e = .returned (.bool true) ∧ Below w.heap.size w w' := by
  have HG := Lib.hid hg
  have HR := Lib.hid hr
  have HL := Lib.hid hl
  have HCAP := Lib.hid hcap
  have HWF := Lib.hid hwf
  have hm : (nodes.length : Int) ≤ 9223372036854775807 := by have : nodes.length ≤ 9223372036854775807 := hr.2.1; omega
  have hm2 : (l.length : Int) ≤ 9223372036854775807 := by have : l.length ≤ 9223372036854775807 := hl.2.1; omega
  clear hg hr hl hcap hwf
  by_cases g1 : (nodes.length : Int) > 50
  · have g1b : decide ((nodes.length : Int) > 50) = true := by simpa using g1
    clear g1
    go_enter Tryd.func3, Tryd.ntmps3
    go_wp2_with (go_at_call 5; refine (awake_calls _).mono ?_; rintro e w0 ⟨rfl, hb⟩; have H0 := Aside0.mk hb; clear hb)
    go_ret
    exact ⟨rfl, H0.out⟩
  have g1b : decide ((nodes.length : Int) > 50) = false := by simpa using g1
  by_cases g2 : (l.length : Int) > 100
  · have g2b : decide ((l.length : Int) > 100) = true := by simpa using g2
    clear g1 g2
    go_enter Tryd.func3, Tryd.ntmps3
    go_wp2_with (go_at_call 5; refine (awake_calls _).mono ?_; rintro e w0 ⟨rfl, hb⟩; have H0 := Aside0.mk hb; clear hb)
    go_ret
    exact ⟨rfl, H0.out⟩
  have g2b : decide ((l.length : Int) > 100) = false := by simpa using g2
  have HN50 := Lib.hid (show nodes.length ≤ 50 by omega)
  have HL100 := Lib.hid (show l.length ≤ 100 by omega)
  obtain ⟨p, hp⟩ : ∃ p, p = chooseOf nodes l := ⟨_, rfl⟩
  have HP := Lib.hid hp
  clear g1 g2 hp
  by_cases g3 : chk nodes l = .ok
  · have HCK := Lib.hid g3
    have HGD := Lib.hid (chk_good.1 g3)
    clear g3
    go_enter Tryd.func3, Tryd.ntmps3
    go_wp2_with (first
      | (go_at_call 7; refine (list_calls _ _ _ l (kLd.C_below HL.out H6.out) (by have := HL100.out; omega)).mono ?_; rintro e w7 ⟨v, rfl, hR, hb⟩; obtain ⟨Aw7, cw7, rfl⟩ := Kd.R_slice hR; have HCw7 := Lib.hid (Kd.R_reads' hR).2.2; have Kw7 := Lib.hid (Kd.C_below HCw6.out hb); have H7 := Aside0.mk (below_step H6.out hb); clear hb hR)
      | (go_at_call 7; refine (list_calls _ _ _ l (kLd.C_below HL.out H1.out) (by have := HL100.out; omega)).mono ?_; rintro e w2 ⟨v, rfl, hR, hb⟩; obtain ⟨Aw2, cw2, rfl⟩ := Kd.R_slice hR; have HCw2 := Lib.hid (Kd.R_reads' hR).2.2; have Kw2 := Lib.hid (Kd.C_below HCw1.out hb); have H2 := Aside0.mk (below_step H1.out hb); clear hb hR)
      | (go_at_call 10; refine (sums2_calls _ _ _ _ _ nodes l Kw7.out HCw7.out HWF.out (by have := HN50.out; omega)).mono ?_; rintro e w8 ⟨u8, v8, rfl, hv, hR, -, hb⟩; rw [HCK.out] at hv; obtain rfl := hv; have hR2 := hR HCK.out; obtain ⟨A8, c8, rfl⟩ := Kd.R_slice hR2; have HC8 := Lib.hid (Kd.R_reads' hR2).2.2; have H8 := Aside0.mk (below_step H7.out hb); clear hb hR hR2)
      | (go_at_call 6; refine (choose_calls _ _ _ _ _ nodes l Kw2.out HCw2.out HWF.out (by have := HN50.out; omega)).mono ?_; rintro e w3 ⟨v3, rfl, hv, hb⟩; rw [← HP.out] at hv ⊢; have HV3 := Aside0.mk hv; have H3 := Aside0.mk (below_step H2.out hb); clear hv hb)
      | (go_at_call 11; refine (checkRef_calls _ _ _ _ _ nodes l (Kd.C_below HR.out H8.out) (kLd.C_below HL.out H8.out) HCAP.out).mono ?_; rintro e w9 ⟨v9, rfl, hv, hb⟩; rw [HCK.out] at hv; obtain rfl := hv; have HC9 := Lib.hid (Kd.C_below HC8.out hb); have H9 := Aside0.mk (below_step H8.out hb); clear hb)
      | (go_at_call 8; refine (rchoose_calls w3 _ _ _ _ nodes l (Kd.C_below HR.out H3.out) (kLd.C_below HL.out H3.out) HCAP.out (by have := HN50.out; omega)).mono ?_; rintro e w4 ⟨v4, rfl, hv, hb⟩; rw [← HP.out] at hv ⊢; obtain ⟨E1, En, Ec, Ed, rfl⟩ := hv.open_; have HV4 := Aside0.mk hv; have HV3b := Aside0.mk (HV3.out.below hb); have H4 := Aside0.mk (below_step H3.out hb); clear hv hb)
      | (go_at_call 13; refine (rsums_calls _ _ _ _ _ nodes l (Kd.C_below HR.out (below_alloc H9.out _)) (kLd.C_below HL.out (below_alloc H9.out _)) (by have := HN50.out; omega) HGD.out.fine).mono ?_; rintro e w10 ⟨v, rfl, hR, hb⟩; obtain ⟨A10, c10, rfl⟩ := Kd.R_slice hR; have HC10 := Lib.hid (Kd.R_reads' hR).2.2; have HC9b := Lib.hid (Kd.C_below HC9.out (below_first hb)); have H10 := Aside0.mk (below_step H9.out (below_first hb)); clear hb hR)
      | (go_at_call 12; refine (ints_calls _ _ _ (sumsOf nodes l) _ _ (sumsOf nodes l) HC9b.out HC10.out).mono ?_; rintro e w11 ⟨rfl, hb⟩; rw [decide_eq_true (show sumsOf nodes l = sumsOf nodes l from rfl)]; have H11 := Aside0.mk (below_step H10.out hb.below); clear hb)
      | (go_at_call 9; refine (fails_calls _ w2.heap.size p.2.2 _ _ (HG.out.below (below_alloc H4.out _)) (HV3b.out.below (below_alloc (Below.refl _ _) _)) (HV4.out.below (below_alloc (Below.refl _ _) _))).mono ?_; rintro e w5 ⟨rfl, hb⟩; have H5 := Aside0.mk (below_step H4.out (below_first hb)); clear hb)
      | (go_at_call 5; refine (awake_calls _).mono ?_; rintro e w0 ⟨rfl, hb⟩; have H0 := Aside0.mk hb; clear hb)
      | (at_builtin; refine app_rows w5.heap.size rfl _ _ rfl (.slice (some ⟨w5.heap.size, 0, none⟩) 0 0) [] nodes A nodes.length c rfl rfl (empty_row w5 _ _ (Nat.le_refl _) trivial _) (Kd.C_alloc (Kd.C_below HR.out H5.out) _) (by simp) (by have := HN50.out; simp; omega) ?_; intro v6 w6 hr hb; rw [List.nil_append] at hr; obtain ⟨Aw6, cw6, rfl⟩ := Kd.R_slice hr; have HCw6 := Lib.hid (Kd.R_reads' hr).2.2; have H6 := Aside0.mk (below_weaken (below_alloc H5.out _) H5.out.size hb); clear hr hb)
      | (at_builtin; refine app_rows w0.heap.size rfl _ _ rfl (.slice (some ⟨w0.heap.size, 0, none⟩) 0 0) [] nodes A nodes.length c rfl rfl (empty_row w0 _ _ (Nat.le_refl _) trivial _) (Kd.C_alloc (Kd.C_below HR.out H0.out) _) (by simp) (by have := HN50.out; simp; omega) ?_; intro v1 w1 hr hb; rw [List.nil_append] at hr; obtain ⟨Aw1, cw1, rfl⟩ := Kd.R_slice hr; have HCw1 := Lib.hid (Kd.R_reads' hr).2.2; have H1 := Aside0.mk (below_weaken (below_alloc H0.out _) H0.out.size hb); clear hr hb))
    go_ret
    exact ⟨rfl, H11.out⟩
  · have HNO := Lib.hid g3
    have HBAD := Lib.hid (Er.bad_true3 g3)
    clear g3
    go_enter Tryd.func3, Tryd.ntmps3
    go_wp2_with (first
      | (go_at_call 7; refine (list_calls _ _ _ l (kLd.C_below HL.out H6.out) (by have := HL100.out; omega)).mono ?_; rintro e w7 ⟨v, rfl, hR, hb⟩; obtain ⟨Aw7, cw7, rfl⟩ := Kd.R_slice hR; have HCw7 := Lib.hid (Kd.R_reads' hR).2.2; have Kw7 := Lib.hid (Kd.C_below HCw6.out hb); have H7 := Aside0.mk (below_step H6.out hb); clear hb hR)
      | (go_at_call 7; refine (list_calls _ _ _ l (kLd.C_below HL.out H1.out) (by have := HL100.out; omega)).mono ?_; rintro e w2 ⟨v, rfl, hR, hb⟩; obtain ⟨Aw2, cw2, rfl⟩ := Kd.R_slice hR; have HCw2 := Lib.hid (Kd.R_reads' hR).2.2; have Kw2 := Lib.hid (Kd.C_below HCw1.out hb); have H2 := Aside0.mk (below_step H1.out hb); clear hb hR)
      | (go_at_call 10; refine (sums2_calls _ _ _ _ _ nodes l Kw7.out HCw7.out HWF.out (by have := HN50.out; omega)).mono ?_; rintro e w8 ⟨u8, v8, rfl, hv, -, hu, hb⟩; obtain rfl := hu HNO.out; have HV8 := Aside0.mk hv; have H8 := Aside0.mk (below_step H7.out hb); clear hv hb)
      | (go_at_call 6; refine (choose_calls _ _ _ _ _ nodes l Kw2.out HCw2.out HWF.out (by have := HN50.out; omega)).mono ?_; rintro e w3 ⟨v3, rfl, hv, hb⟩; rw [← HP.out] at hv ⊢; have HV3 := Aside0.mk hv; have H3 := Aside0.mk (below_step H2.out hb); clear hv hb)
      | (go_at_call 11; refine (checkRef_calls _ _ _ _ _ nodes l (Kd.C_below HR.out H8.out) (kLd.C_below HL.out H8.out) HCAP.out).mono ?_; rintro e w9 ⟨v9, rfl, hv, hb⟩; obtain ⟨F1, Fn, Fc, Fd, rfl⟩ := hv.open_; have HV9 := Aside0.mk hv; have HV8b := Aside0.mk (HV8.out.below hb); rw [HBAD.out] at HV9 ⊢; have H9 := Aside0.mk (below_step H8.out hb); clear hv hb)
      | (go_at_call 8; refine (rchoose_calls w3 _ _ _ _ nodes l (Kd.C_below HR.out H3.out) (kLd.C_below HL.out H3.out) HCAP.out (by have := HN50.out; omega)).mono ?_; rintro e w4 ⟨v4, rfl, hv, hb⟩; rw [← HP.out] at hv ⊢; obtain ⟨E1, En, Ec, Ed, rfl⟩ := hv.open_; have HV4 := Aside0.mk hv; have HV3b := Aside0.mk (HV3.out.below hb); have H4 := Aside0.mk (below_step H3.out hb); clear hv hb)
      | (go_at_call 9; refine (fails_calls _ w7.heap.size (chk nodes l) _ _ (HG.out.below (below_alloc H9.out _)) (HV8b.out.below (below_alloc (Below.refl _ _) _)) (HV9.out.below (below_alloc (Below.refl _ _) _))).mono ?_; rintro e w10 ⟨rfl, hb⟩; have H10 := Aside0.mk (below_step H9.out (below_first hb)); clear hb)
      | (go_at_call 9; refine (fails_calls _ w2.heap.size p.2.2 _ _ (HG.out.below (below_alloc H4.out _)) (HV3b.out.below (below_alloc (Below.refl _ _) _)) (HV4.out.below (below_alloc (Below.refl _ _) _))).mono ?_; rintro e w5 ⟨rfl, hb⟩; have H5 := Aside0.mk (below_step H4.out (below_first hb)); clear hb)
      | (go_at_call 5; refine (awake_calls _).mono ?_; rintro e w0 ⟨rfl, hb⟩; have H0 := Aside0.mk hb; clear hb)
      | (at_builtin; refine app_rows w5.heap.size rfl _ _ rfl (.slice (some ⟨w5.heap.size, 0, none⟩) 0 0) [] nodes A nodes.length c rfl rfl (empty_row w5 _ _ (Nat.le_refl _) trivial _) (Kd.C_alloc (Kd.C_below HR.out H5.out) _) (by simp) (by have := HN50.out; simp; omega) ?_; intro v6 w6 hr hb; rw [List.nil_append] at hr; obtain ⟨Aw6, cw6, rfl⟩ := Kd.R_slice hr; have HCw6 := Lib.hid (Kd.R_reads' hr).2.2; have H6 := Aside0.mk (below_weaken (below_alloc H5.out _) H5.out.size hb); clear hr hb)
      | (at_builtin; refine app_rows w0.heap.size rfl _ _ rfl (.slice (some ⟨w0.heap.size, 0, none⟩) 0 0) [] nodes A nodes.length c rfl rfl (empty_row w0 _ _ (Nat.le_refl _) trivial _) (Kd.C_alloc (Kd.C_below HR.out H0.out) _) (by simp) (by have := HN50.out; simp; omega) ?_; intro v1 w1 hr hb; rw [List.nil_append] at hr; obtain ⟨Aw1, cw1, rfl⟩ := Kd.R_slice hr; have HCw1 := Lib.hid (Kd.R_reads' hr).2.2; have H1 := Aside0.mk (below_weaken (below_alloc H0.out _) H0.out.size hb); clear hr hb))
    go_ret
    exact ⟨rfl, H10.out⟩
end Go.Proofs.YthgfodfkjlpegaaDoor
