/- PolicyAlike: the walk. -/
import Derived.Test.YthgfodfkjlpegaaPoA
namespace Go.Proofs.Ythgfodfkjlpegaa
open Go.RowKit Go.Proofs.YthgfodfkjlpegaaW.PrintWords Go.Proofs.YthgfodfkjlpegaaW.PrintLast Go.Proofs.YthgfodfkjlpegaaW.PrintMore
set_option linter.unusedVariables false
set_option linter.unusedSimpArgs false
theorem Er.bad_true2 {er : Er} (h : er ≠ .ok) : er.bad = true := by
  cases er with
  | ok => exact absurd rfl h
  | num c => rfl
  | at_ a b c => rfl
theorem Below.keeps {B : Nat} {w w' : World} (h : Below B w w') {p : Addr} {v : Value} (hc : w.cell? p = some v) (hp : p.block < B) : w'.cell? p = some v := (h.cell hp).trans hc
theorem fieldE2 (b : Bool) (A : Option Addr) (n c : Nat) (cd : Int) (w : World) : (Instr.field 28 (.agg #[.bool b, .slice A n c, .int .i64 cd]) 0).run Try.prog w = .ok (.bool b) w := by kernel_rfl
theorem infoR : (Try.prog.info? 44).map (fun i => (i.zero, i.size, i.bytes)) = some (some (.agg #[.int .i64 0, .int .i64 0, .int .i64 0]), 3, 24) := by kernel_rfl
theorem settle_subs {nodes : List Int} {p : Ld → Prop} (hp : ∀ x y : Ld, x.sub = y.sub → p x → p y) : ∀ (n : Nat) {l : List Ld}, Good nodes l → (∀ x ∈ l, p x) → ∀ x ∈ settle nodes n l, p x
  | 0, l, _, h => h
  | n + 1, l, hG, h => by
    simp only [settle]
    by_cases h0 : pickI nodes l < 0
    · rw [if_pos h0]; exact h
    · rw [if_neg h0]; exact settle_subs hp n (hG.moved (by omega)) (moved_subs hp h (by omega))
set_option maxRecDepth 100000 in
set_option maxHeartbeats 2000000 in
theorem policyAlike_calls (w : World) (A B : Option Addr) (c d : Nat) (nodes : List Int) (l : List Ld) (hr : (Kd.int .i64).C w A nodes.length nodes) (hl : kLd.C w B l.length l) (hcap : l.length ≤ d) (hwf : ∀ x ∈ l, (Lit.int .i64 x.sub).wf = true) :
    Calls Try.prog 4 #[.slice A nodes.length c, .slice B l.length d] w fun e w' => e = .returned (.bool true) ∧ Below w.heap.size w w' := by
  have HR := Lib.hid hr
  have HL := Lib.hid hl
  have HCAP := Lib.hid hcap
  have HWF := Lib.hid hwf
  have hm : (nodes.length : Int) ≤ 9223372036854775807 := by have : nodes.length ≤ 9223372036854775807 := hr.2.1; omega
  have hm2 : (l.length : Int) ≤ 9223372036854775807 := by have : l.length ≤ 9223372036854775807 := hl.2.1; omega
  clear hr hl hcap hwf
  have hfd := fieldE2
  by_cases g1 : (nodes.length : Int) > 8
  · have g1b : decide ((nodes.length : Int) > 8) = true := by simpa using g1
    clear g1
    go_enter Try.func4, Try.ntmps4
    go_wp2_with (go_at_call 5; refine (awake_calls _).mono ?_; rintro e w0 ⟨rfl, hb⟩; have H0 := Aside0.mk hb; clear hb)
    go_ret
    exact ⟨rfl, H0.out⟩
  have g1b : decide ((nodes.length : Int) > 8) = false := by simpa using g1
  by_cases g2 : (l.length : Int) > 20
  · have g2b : decide ((l.length : Int) > 20) = true := by simpa using g2
    clear g1 g2
    go_enter Try.func4, Try.ntmps4
    go_wp2_with (go_at_call 5; refine (awake_calls _).mono ?_; rintro e w0 ⟨rfl, hb⟩; have H0 := Aside0.mk hb; clear hb)
    go_ret
    exact ⟨rfl, H0.out⟩
  have g2b : decide ((l.length : Int) > 20) = false := by simpa using g2
  by_cases g3 : chk nodes l = .ok
  · have HBAD := Lib.hid (show (chk nodes l).bad = false by rw [g3]; rfl)
    have hgood := chk_good.1 g3
    have HG := Lib.hid hgood
    have HN8 := Lib.hid (show nodes.length ≤ 8 by omega)
    have HL20 := Lib.hid (show l.length ≤ 20 by omega)
    have hl20 : (l.length : Int) ≤ 20 := by omega
    obtain ⟨TT, hT⟩ : ∃ TT, TT = l.reverse := ⟨_, rfl⟩
    have HT := Lib.hid hT
    have htl : TT.length = l.length := by rw [hT, List.length_reverse]
    have HTL := Lib.hid htl
    have HWT := Lib.hid (show ∀ x ∈ TT, (Lit.int .i64 x.sub).wf = true by rw [hT]; exact fun x hx => HWF.out x (List.mem_reverse.1 hx))
    have HSE := Lib.hid (settleEr_ok (most := 400) g3 (by omega))
    have HSE2 := Lib.hid (show settleEr nodes TT 400 = .ok by rw [hT]; exact settleEr_ok (chk_good.2 hgood.rev) (by omega))
    obtain ⟨SA, hSA⟩ : ∃ SA, SA = settle nodes (400 : Int).toNat l := ⟨_, rfl⟩
    obtain ⟨SB, hSB⟩ : ∃ SB, SB = settle nodes (400 : Int).toNat TT := ⟨_, rfl⟩
    have HSA := Lib.hid hSA.symm
    have HSB := Lib.hid hSB.symm
    have hrev : SB = SA.reverse := by rw [hSB, hSA, hT]; exact settle_rev _ hgood
    have HRV := Lib.hid hrev
    have hal : SA.length = l.length := by rw [hSA]; exact settle_len _ _
    have hbl : SB.length = SA.length := by rw [hrev, List.length_reverse]
    have HBL := Lib.hid hbl
    have HAL := Lib.hid hal
    have hlen : ((SA.length : Int) != (SB.length : Int)) = false := by simp [hbl]
    have hal20 : (SA.length : Int) ≤ 20 := by omega
    have hbli : (SB.length : Int) = SA.length := by omega
    clear g1 g2 g3 hT hSA hSB hgood hrev htl hal hbl
    go_enter Try.func4, Try.ntmps4
    go_wp2_with (first
      | (go_at_call 5; refine (awake_calls _).mono ?_; rintro e w0 ⟨rfl, hb⟩; have H0 := Aside0.mk hb; clear hb)
      | (go_at_call 6; refine (checkRef_calls _ _ _ _ _ nodes l (Kd.C_below HR.out H0.out) (kLd.C_below HL.out H0.out) HCAP.out).mono ?_; rintro e w1 ⟨v, rfl, hv, hb⟩; obtain ⟨AA, an, ac, acd, rfl⟩ := hv.open_; rw [HBAD.out]; have H1 := Aside0.mk (below_step H0.out hb); clear hv hb))
    clear hfd
    go_loopw [5, 30] (fun v5 v30 wr => ∃ k : Nat, v30 = .int .i64 k ∧ k ≤ l.length ∧ Aside0 (kLd.R 44 wr w.heap.size (fun _ => True) v5 (TT.take k)) ∧ Aside0 (Below w.heap.size w wr)) (fun _ v _ => l.length - (intOf v).toNat)
    case atStart => exact ⟨0, rfl, Nat.zero_le _, ⟨by rw [List.take_zero]; exact Kd.R_nil _ _ _ _ _⟩, H1⟩
    case round =>
      obtain ⟨k, rfl, hk, HK, HB⟩ := hrel
      by_cases hlt : k < l.length
      · obtain ⟨j, hj⟩ : ∃ j : Nat, j = l.length - 1 - k := ⟨_, rfl⟩
        have hjl : j < l.length := by omega
        have hjj : (l.length : Int) - 1 - k = j := by omega
        obtain ⟨ad, rfl, hc0, hc1, hc2⟩ := Ld_cell (kLd.C_below HL.out HB.out) hjl
        obtain ⟨x, hx⟩ : ∃ x, x = ldAt l j := ⟨_, rfl⟩
        rw [← hx] at hc0 hc1 hc2
        have HX := Lib.hid (show ldAt TT k = x by rw [HT.out, ldAt_rev l k hlt, hx, hj])
        have k0 : (0 : Int) ≤ k := by omega
        have k1 : (k : Int) < l.length := by omega
        have j0 : (0 : Int) ≤ j := by omega
        have j1 : (j : Int) < l.length := by omega
        have HLT := Lib.hid hlt
        have HLT2 := Lib.hid (show k < TT.length by rw [HTL.out]; exact hlt)
        have HTK := Lib.hid (show (TT.take k).length ≤ 1000 by have := List.length_take_le k TT; have := HTL.out; have := HL20.out; omega)
        obtain ⟨xs, xn, xw⟩ := x
        simp only [] at hc0 hc1 hc2
        clear hlt hx hj hjl
        go_wp2_with ((at_builtin; refine Kd.R_append kLd (w0 := w) (W := wr) w.heap.size rfl _ _ 23 44 (.agg #[.int .i64 0, .int .i64 0, .int .i64 0]) 24 rfl Try.underlying23 infoR rfl (by decide) (by omega) _ (TT.take k) ⟨xs, xn, xw⟩ [.int .i64 xs, .int .i64 xn, .int .i64 xw] (fun _ => True) (fun _ => False) rfl rfl (kLd_mkM _ _ _ ⟨xs, xn, xw⟩) (fun _ hk => hk.elim) (fun _ _ => trivial) (by exact HK.out) HB.out HB.out.size (by have := HTK.out; omega) ?_; intro v1 w1 ho hb hg hat; have HO := Aside0.mk ho; have HB1 := Aside0.mk hb; clear ho hb hg hat))
        go_roundw
        case rel => exact ⟨k + 1, by go_num, by have := HLT.out; omega, ⟨by rw [take_ld TT k HLT2.out, HX.out]; exact HO.out⟩, HB1⟩
        case measure => have := HLT.out; simp [intOf]; omega
      · have k1 : ¬ (k : Int) < l.length := by omega
        have HH := Lib.hid (show TT.take k = TT from List.take_of_length_le (by rw [HTL.out]; omega))
        clear hlt
        have HK2 := HK.out
        rw [HH.out] at HK2
        obtain ⟨AT, cT, rfl⟩ := Kd.R_slice HK2
        have HCT := Lib.hid (Kd.R_reads' HK2).2.2
        clear HK2
        go_wp2_with (first
          | (go_at_call 7; refine (list_calls _ _ _ TT (kLd.C_below HCT.out B3.out) (by have := HTL.out; have := HL20.out; omega)).mono ?_; rintro e w4 ⟨v, rfl, hR, hb⟩; obtain ⟨A4, c4, rfl⟩ := Kd.R_slice hR; have HC4 := Lib.hid (Kd.R_reads' hR).2.2; have BB4 := Aside0.mk hb; have B4 := Aside0.mk (below_step B3.out hb); clear hb hR)
          | (go_at_call 7; refine (list_calls wr _ _ l (kLd.C_below HL.out HB.out) (by have := HL20.out; omega)).mono ?_; rintro e w2 ⟨v, rfl, hR, hb⟩; obtain ⟨A2, c2, rfl⟩ := Kd.R_slice hR; have HC2 := Lib.hid (Kd.R_reads' hR).2.2; have B2 := Aside0.mk hb; clear hb hR)
          | (go_at_call 9; refine (settle_calls _ _ _ _ _ nodes TT 400 (Kd.C_below HR.out (below_step HB.out B4.out)) HC4.out HWT.out (by have := HN8.out; omega)).mono ?_; rintro e w5 ⟨u, v, rfl, hv, hR, -, hb⟩; rw [HSE2.out] at hv; obtain rfl := hv; have hR2 := hR HSE2.out; rw [HSB.out] at hR2; obtain ⟨A5, c5, rfl⟩ := Kd.R_slice hR2; have HC5 := Lib.hid (Kd.R_reads' hR2).2.2; have HC3b := Lib.hid (kLd.C_below HC3.out (below_step BB4.out hb)); have B5 := Aside0.mk (below_step B4.out hb); clear hb hR hR2)
          | (go_at_call 9; refine (settle_calls w2 _ _ _ _ nodes l 400 (Kd.C_below HR.out (below_step HB.out B2.out)) HC2.out HWF.out (by have := HN8.out; omega)).mono ?_; rintro e w3 ⟨u, v, rfl, hv, hR, -, hb⟩; rw [HSE.out] at hv; obtain rfl := hv; have hR2 := hR HSE.out; rw [HSA.out] at hR2; obtain ⟨A3, c3, rfl⟩ := Kd.R_slice hR2; have HC3 := Lib.hid (Kd.R_reads' hR2).2.2; have B3 := Aside0.mk (below_step B2.out hb); clear hb hR hR2))
        have HC3c := HC3b.out
        have HC5c := HC5.out
        go_loopw [74] (fun v74 wq => ∃ (z : Nat), v74 = .int .i64 z ∧ z ≤ SA.length ∧ Drawn0 w5 wq) (fun v _ => SA.length - (intOf v).toNat)
        case atStart => exact ⟨0, rfl, Nat.zero_le _, ⟨⟨0, rfl⟩⟩⟩
        case round =>
          clear HC3c HC5c
          obtain ⟨z, rfl, hz, HDZ⟩ := hrel
          by_cases hlt : z < SA.length
          · have z0 : (0 : Int) ≤ z := by omega
            have z1 : (z : Int) < SA.length := by omega
            obtain ⟨j, hj⟩ : ∃ j : Nat, j = SA.length - 1 - z := ⟨_, rfl⟩
            have hjj : (SA.length : Int) - 1 - z = j := by omega
            have j0 : (0 : Int) ≤ j := by omega
            have hw3 : IntKind.i64.wrap (j : Int) = j := by rw [IntKind.wrap_i64]; omega
            have hw1 : IntKind.i64.wrap ((SA.length : Int) - 1) = (SA.length : Int) - 1 := by rw [IntKind.wrap_i64]; omega
            have hw2 : IntKind.i64.wrap ((SA.length : Int) - 1 - z) = (j : Int) := by rw [IntKind.wrap_i64]; omega
            have j1 : (j : Int) < SA.length := by omega
            have hat : ldAt SB j = ldAt SA z := by rw [HRV.out, ldAt_rev SA j (by omega), hj, show SA.length - 1 - (SA.length - 1 - z) = z by omega]
            have HLZ := Lib.hid hlt
            have HLJ := Lib.hid (show j < SB.length by rw [HBL.out]; omega)
            have hD := HDZ
            obtain ⟨⟨nd, rfl⟩⟩ := hD
            obtain ⟨ad3, rfl, x0, x1, x2⟩ := Ld_cell (kLd.C_drewN HC3b.out nd) HLZ.out
            obtain ⟨ad5, rfl, y0, y1, y2⟩ := Ld_cell (kLd.C_drewN HC5.out nd) HLJ.out
            rw [hat] at y0 y1 y2
            generalize (ldAt SA z).sub = ys at *
            generalize (ldAt SA z).node = yn at *
            generalize (ldAt SA z).weight = yw at *
            have hne : ∀ W : World, (binOp .neq 42 (.agg #[.int .i64 ys, .int .i64 yn, .int .i64 yw]) (.agg #[.int .i64 ys, .int .i64 yn, .int .i64 yw])).run Try.prog W = .ok (.bool false) W := fun W => by rw [load_neq]; simp
            obtain ⟨wk, hwk⟩ : ∃ wk, wk = w5.drewN nd := ⟨_, rfl⟩
            rw [← hwk] at x0 x1 x2 y0 y1 y2 HDZ ⊢
            have X0 := Lib.hid x0
            have XL0 := Lib.hid (cell_in x0)
            have Y0 := Lib.hid y0
            have YL0 := Lib.hid (cell_in y0)
            have X1 := Lib.hid x1
            have XL1 := Lib.hid (cell_in x1)
            have Y1 := Lib.hid y1
            have YL1 := Lib.hid (cell_in y1)
            have X2 := Lib.hid x2
            have XL2 := Lib.hid (cell_in x2)
            have Y2 := Lib.hid y2
            have YL2 := Lib.hid (cell_in y2)
            clear x0 x1 x2 y0 y1 y2 hwk hlt hat hj
            go_wp2
            refine wp_region_noPanic ?_
            refine wp_region_held_drew (S := fun W => Below wk.heap.size wk W) (by kernel_rfl) (by first | exact Below.refl _ _ | exact (Below.refl _ _).drew) (fun hHeld => ?_)
            refine wpAnyH_take (i := 0) (v := ?_) rfl (by kernel_rfl) (by kernel_rfl) (by kernel_rfl) (fun _ _ _ h => h) (Or.inl ⟨by rfl, ?_⟩) (by assumption) ?_
            rotate_left 1
            · first | (intro w hSw; go_simp; done) | (intro w hSw; go_simp; with_reducible rfl)
            try simp only [Act.put, List.getElem_toArray, List.getElem_cons_zero, List.getElem_cons_succ, List.setIfInBounds_toArray, List.set_cons_zero, List.set_cons_succ]
            refine wpAnyH_take (i := 1) (v := ?_) rfl (by kernel_rfl) (by kernel_rfl) (by kernel_rfl) (fun _ _ _ h => h) (Or.inl ⟨by rfl, ?_⟩) (by assumption) ?_
            rotate_left 1
            · first | (intro w hSw; go_simp; done) | (intro w hSw; go_simp; with_reducible rfl)
            try simp only [Act.put, List.getElem_toArray, List.getElem_cons_zero, List.getElem_cons_succ, List.setIfInBounds_toArray, List.set_cons_zero, List.set_cons_succ]
            refine wpAnyH_take (i := 2) (v := ?_) rfl (by kernel_rfl) (by kernel_rfl) (by kernel_rfl) (fun _ _ _ h => h) (Or.inl ⟨by rfl, ?_⟩) (by assumption) ?_
            rotate_left 1
            · first | (intro w hSw; go_simp; done) | (intro w hSw; go_simp; with_reducible rfl)
            try simp only [Act.put, List.getElem_toArray, List.getElem_cons_zero, List.getElem_cons_succ, List.setIfInBounds_toArray, List.set_cons_zero, List.set_cons_succ]
            refine wpAnyH_take (i := 3) (v := ?_) rfl (by kernel_rfl) (by kernel_rfl) (by kernel_rfl) (fun _ _ _ h => h) (Or.inl ⟨by rfl, ?_⟩) (by assumption) ?_
            rotate_left 1
            · first | (intro w hSw; have c0 := Below.keeps hSw X0.out XL0.out; have c1 := Below.keeps hSw X1.out XL1.out; have c2 := Below.keeps hSw X2.out XL2.out; go_simp; done) | (intro w hSw; have c0 := Below.keeps hSw X0.out XL0.out; have c1 := Below.keeps hSw X1.out XL1.out; have c2 := Below.keeps hSw X2.out XL2.out; go_simp; with_reducible rfl)
            try simp only [Act.put, List.getElem_toArray, List.getElem_cons_zero, List.getElem_cons_succ, List.setIfInBounds_toArray, List.set_cons_zero, List.set_cons_succ]
            refine wpAnyH_take (i := 4) (v := ?_) rfl (by kernel_rfl) (by kernel_rfl) (by kernel_rfl) (fun _ _ _ h => h) (Or.inl ⟨by rfl, ?_⟩) (by assumption) ?_
            rotate_left 1
            · first | (intro w hSw; go_simp; done) | (intro w hSw; go_simp; with_reducible rfl)
            try simp only [Act.put, List.getElem_toArray, List.getElem_cons_zero, List.getElem_cons_succ, List.setIfInBounds_toArray, List.set_cons_zero, List.set_cons_succ]
            refine wpAnyH_take (i := 5) (v := ?_) rfl (by kernel_rfl) (by kernel_rfl) (by kernel_rfl) (fun _ _ _ h => h) (Or.inl ⟨by rfl, ?_⟩) (by assumption) ?_
            rotate_left 1
            · first | (intro w hSw; go_simp; done) | (intro w hSw; go_simp; with_reducible rfl)
            try simp only [Act.put, List.getElem_toArray, List.getElem_cons_zero, List.getElem_cons_succ, List.setIfInBounds_toArray, List.set_cons_zero, List.set_cons_succ]
            refine wpAnyH_take (i := 6) (v := ?_) rfl (by kernel_rfl) (by kernel_rfl) (by kernel_rfl) (fun _ _ _ h => h) (Or.inl ⟨by rfl, ?_⟩) (by assumption) ?_
            rotate_left 1
            · first | (intro w hSw; go_simp; done) | (intro w hSw; go_simp; with_reducible rfl)
            try simp only [Act.put, List.getElem_toArray, List.getElem_cons_zero, List.getElem_cons_succ, List.setIfInBounds_toArray, List.set_cons_zero, List.set_cons_succ]
            refine wpAnyH_take (i := 7) (v := ?_) rfl (by kernel_rfl) (by kernel_rfl) (by kernel_rfl) (fun _ _ _ h => h) (Or.inl ⟨by rfl, ?_⟩) (by assumption) ?_
            rotate_left 1
            · first | (intro w hSw; go_simp; done) | (intro w hSw; go_simp; with_reducible rfl)
            try simp only [Act.put, List.getElem_toArray, List.getElem_cons_zero, List.getElem_cons_succ, List.setIfInBounds_toArray, List.set_cons_zero, List.set_cons_succ]
            refine wpAnyH_take (i := 8) (v := ?_) rfl (by kernel_rfl) (by kernel_rfl) (by kernel_rfl) (fun _ _ _ h => h) (Or.inl ⟨by rfl, ?_⟩) (by assumption) ?_
            rotate_left 1
            · first | (intro w hSw; go_simp; done) | (intro w hSw; go_simp; with_reducible rfl)
            try simp only [Act.put, List.getElem_toArray, List.getElem_cons_zero, List.getElem_cons_succ, List.setIfInBounds_toArray, List.set_cons_zero, List.set_cons_succ]
            refine wpAnyH_take (i := 9) (v := ?_) rfl (by kernel_rfl) (by kernel_rfl) (by kernel_rfl) (fun _ _ _ h => h) (Or.inl ⟨by rfl, ?_⟩) (by assumption) ?_
            rotate_left 1
            · first | (intro w hSw; go_simp; done) | (intro w hSw; go_simp; with_reducible rfl)
            try simp only [Act.put, List.getElem_toArray, List.getElem_cons_zero, List.getElem_cons_succ, List.setIfInBounds_toArray, List.set_cons_zero, List.set_cons_succ]
            refine wpAnyH_take (i := 10) (v := ?_) rfl (by kernel_rfl) (by kernel_rfl) (by kernel_rfl) (fun _ _ _ h => h) (Or.inl ⟨by rfl, ?_⟩) (by assumption) ?_
            rotate_left 1
            · first | (intro w hSw; go_simp; done) | (intro w hSw; go_simp; with_reducible rfl)
            try simp only [Act.put, List.getElem_toArray, List.getElem_cons_zero, List.getElem_cons_succ, List.setIfInBounds_toArray, List.set_cons_zero, List.set_cons_succ]
            refine wpAnyH_take (i := 11) (v := ?_) rfl (by kernel_rfl) (by kernel_rfl) (by kernel_rfl) (fun _ _ _ h => h) (Or.inl ⟨by rfl, ?_⟩) (by assumption) ?_
            rotate_left 1
            · first | (intro w hSw; have d0 := Below.keeps hSw Y0.out YL0.out; have d1 := Below.keeps hSw Y1.out YL1.out; have d2 := Below.keeps hSw Y2.out YL2.out; go_simp; done) | (intro w hSw; have d0 := Below.keeps hSw Y0.out YL0.out; have d1 := Below.keeps hSw Y1.out YL1.out; have d2 := Below.keeps hSw Y2.out YL2.out; go_simp; with_reducible rfl)
            try simp only [Act.put, List.getElem_toArray, List.getElem_cons_zero, List.getElem_cons_succ, List.setIfInBounds_toArray, List.set_cons_zero, List.set_cons_succ]
            refine wpAnyH_take (i := 12) (v := ?_) rfl (by kernel_rfl) (by kernel_rfl) (by kernel_rfl) (fun _ _ _ h => h) (Or.inl ⟨by rfl, ?_⟩) (by assumption) ?_
            rotate_left 1
            · first | (intro w hSw; go_simp; done) | (intro w hSw; go_simp; with_reducible rfl)
            try simp only [Act.put, List.getElem_toArray, List.getElem_cons_zero, List.getElem_cons_succ, List.setIfInBounds_toArray, List.set_cons_zero, List.set_cons_succ]
            refine wpAnyH_done (by kernel_rfl) ?_ _
            refine NoPanic.normal ?_
            clear hne
            go_wp2
            go_roundw
            case rel => exact ⟨z + 1, by go_num, by have := HLZ.out; omega, HDZ.step 1⟩
            case measure => have := HLZ.out; simp [intOf]; omega
          · have z1 : ¬ (z : Int) < SA.length := by omega
            clear hlt
            go_wp2
            go_ret
            exact ⟨rfl, below_step HB.out (below_step B5.out HDZ.below)⟩
  · have HBAD := Lib.hid (Er.bad_true2 g3)
    clear g1 g2 g3
    go_enter Try.func4, Try.ntmps4
    go_wp2_with (first
      | (go_at_call 5; refine (awake_calls _).mono ?_; rintro e w0 ⟨rfl, hb⟩; have H0 := Aside0.mk hb; clear hb)
      | (go_at_call 6; refine (checkRef_calls _ _ _ _ _ nodes l (Kd.C_below HR.out H0.out) (kLd.C_below HL.out H0.out) HCAP.out).mono ?_; rintro e w1 ⟨v, rfl, hv, hb⟩; obtain ⟨AA, an, ac, acd, rfl⟩ := hv.open_; rw [HBAD.out]; have H1 := Aside0.mk (below_step H0.out hb); clear hv hb))
    go_ret
    exact ⟨rfl, H1.out⟩
end Go.Proofs.Ythgfodfkjlpegaa
