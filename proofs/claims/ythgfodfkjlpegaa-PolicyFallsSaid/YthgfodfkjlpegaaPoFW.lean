/- PolicyFalls: the walk. -/
import Derived.Test.YthgfodfkjlpegaaPoF
namespace Go.Proofs.Ythgfodfkjlpegaa
open Go.RowKit Go.Proofs.YthgfodfkjlpegaaW.PrintWords Go.Proofs.YthgfodfkjlpegaaW.PrintLast Go.Proofs.YthgfodfkjlpegaaW.PrintMore
attribute [local go_sem] max2_int min2_int max_two min_two
set_option linter.unusedVariables false
set_option linter.unusedSimpArgs false
theorem Er.bad_true {er : Er} (h : er ≠ .ok) : er.bad = true := by
  cases er with
  | ok => exact absurd rfl h
  | num c => rfl
  | at_ a b c => rfl
/-- The greatest (the least) of what a loop has seen, itself one of the list. -/
def PMax (xs : List Int) (k : Nat) (m : Int) : Prop := m ∈ xs ∧ ∀ y ∈ xs.take k, y ≤ m
def PMin (xs : List Int) (k : Nat) (m : Int) : Prop := m ∈ xs ∧ ∀ y ∈ xs.take k, m ≤ y
theorem PMax.step {xs : List Int} {m : Int} {k : Nat} (h : PMax xs k m) (hk : k < xs.length) : PMax xs (k + 1) (mx m (rd xs k)) := by
  unfold PMax
  rw [take_rd _ _ hk]
  have hr := rd_mem _ _ hk
  unfold mx
  refine ⟨?_, fun y hy => ?_⟩
  · split
    · exact hr
    · exact h.1
  · rcases List.mem_append.1 hy with hy | hy
    · have := h.2 y hy
      split <;> omega
    · simp at hy
      subst hy
      split <;> omega
theorem PMin.step {xs : List Int} {m : Int} {k : Nat} (h : PMin xs k m) (hk : k < xs.length) : PMin xs (k + 1) (mn m (rd xs k)) := by
  unfold PMin
  rw [take_rd _ _ hk]
  have hr := rd_mem _ _ hk
  unfold mn
  refine ⟨?_, fun y hy => ?_⟩
  · split
    · exact hr
    · exact h.1
  · rcases List.mem_append.1 hy with hy | hy
    · have := h.2 y hy
      split <;> omega
    · simp at hy
      subst hy
      split <;> omega
theorem sums_small {nodes S : List Int} {l : List Ld} (h : S = sumsOf nodes l) (hF : LFine nodes l) (hl : l.length ≤ 20) : ∀ x ∈ S, 0 ≤ x ∧ x ≤ 20000000 := by
  subst h
  intro x hx
  obtain ⟨n, _, rfl⟩ := List.mem_map.1 hx
  have := wsum_bound n hF.w0 hF.w1
  omega
theorem one_more {i z : Nat} (h : ¬ i = z) : (if i < z then (1 : Int) else 0) = if i < z + 1 then 1 else 0 := by
  by_cases h5 : i < z
  · rw [if_pos h5, if_pos (by omega)]
  · rw [if_neg h5, if_neg (by omega)]
theorem Below.keeps {B : Nat} {w w' : World} (h : Below B w w') {p : Addr} {v : Value} (hc : w.cell? p = some v) (hp : p.block < B) : w'.cell? p = some v := (h.cell hp).trans hc
theorem fieldE (b : Bool) (A : Option Addr) (n c : Nat) (cd : Int) (w : World) : (Instr.field 28 (.agg #[.bool b, .slice A n c, .int .i64 cd]) 0).run Try.prog w = .ok (.bool b) w := by kernel_rfl
set_option maxRecDepth 100000 in
set_option maxHeartbeats 2000000 in
theorem policyFalls_calls (w : World) (A B : Option Addr) (c d : Nat) (nodes : List Int) (l : List Ld) (hr : (Kd.int .i64).C w A nodes.length nodes) (hl : kLd.C w B l.length l) (hcap : l.length ≤ d) (hwf : ∀ x ∈ l, (Lit.int .i64 x.sub).wf = true) :
    Calls Try.prog 3 #[.slice A nodes.length c, .slice B l.length d] w fun e w' => e = .returned (.bool true) ∧ Below w.heap.size w w' := by
  have HR := Lib.hid hr
  have HL := Lib.hid hl
  have HCAP := Lib.hid hcap
  have HWF := Lib.hid hwf
  have hm : (nodes.length : Int) ≤ 9223372036854775807 := by have : nodes.length ≤ 9223372036854775807 := hr.2.1; omega
  have hm2 : (l.length : Int) ≤ 9223372036854775807 := by have : l.length ≤ 9223372036854775807 := hl.2.1; omega
  clear hr hl hcap hwf
  have hfd := fieldE
  by_cases g1 : (nodes.length : Int) > 8
  · have g1b : decide ((nodes.length : Int) > 8) = true := by simpa using g1
    clear g1
    go_enter Try.func3, Try.ntmps3
    go_wp2_with (go_at_call 5; refine (awake_calls _).mono ?_; rintro e w0 ⟨rfl, hb⟩; have H0 := Aside0.mk hb; clear hb)
    go_ret
    exact ⟨rfl, H0.out⟩
  have g1b : decide ((nodes.length : Int) > 8) = false := by simpa using g1
  by_cases g2 : (l.length : Int) > 20
  · have g2b : decide ((l.length : Int) > 20) = true := by simpa using g2
    clear g1 g2
    go_enter Try.func3, Try.ntmps3
    go_wp2_with (go_at_call 5; refine (awake_calls _).mono ?_; rintro e w0 ⟨rfl, hb⟩; have H0 := Aside0.mk hb; clear hb)
    go_ret
    exact ⟨rfl, H0.out⟩
  have g2b : decide ((l.length : Int) > 20) = false := by simpa using g2
  by_cases g3 : chk nodes l = .ok
  · have HBAD := Lib.hid (show (chk nodes l).bad = false by rw [g3]; rfl)
    have HG := Lib.hid (chk_good.1 g3)
    have HN8 := Lib.hid (show nodes.length ≤ 8 by omega)
    have HL20 := Lib.hid (show l.length ≤ 20 by omega)
    clear g1 g2 g3
    go_enter Try.func3, Try.ntmps3
    go_wp2_with (first
      | (go_at_call 5; refine (awake_calls _).mono ?_; rintro e w0 ⟨rfl, hb⟩; have H0 := Aside0.mk hb; clear hb)
      | (go_at_call 6; refine (checkRef_calls _ _ _ _ _ nodes l (Kd.C_below HR.out H0.out) (kLd.C_below HL.out H0.out) HCAP.out).mono ?_; rintro e w1 ⟨v, rfl, hv, hb⟩; obtain ⟨AA, an, ac, acd, rfl⟩ := hv.open_; rw [HBAD.out]; have H1 := Aside0.mk (below_step H0.out hb); clear hv hb)
      | (go_at_call 7; refine (list_calls _ _ _ l (kLd.C_below HL.out H1.out) (by have := HL20.out; omega)).mono ?_; rintro e w2 ⟨v, rfl, hR, hb⟩; have HRow := Aside0.mk (Kd.R_lower hR H1.out.size); have H2 := Aside0.mk (below_step H1.out hb); clear hR hb))
    clear hfd
    go_loopw [5, 40] (fun v5 v40 wr => ∃ (k : Nat) (lk : List Ld), v40 = .int .i64 k ∧ k ≤ 400 ∧ Hid (lk.length = l.length) ∧ Aside0 (kLd.R 42 wr w.heap.size (fun _ => True) v5 lk) ∧ Aside0 (Below w.heap.size w wr) ∧ Hid (Good nodes lk ∧ ∀ x ∈ lk, (Lit.int .i64 x.sub).wf = true)) (fun _ v _ => 400 - (intOf v).toNat)
    case atStart => exact ⟨0, l, rfl, by omega, rfl, HRow, H2, HG.out, HWF.out⟩
    case round =>
      obtain ⟨k, lk, rfl, hk, HLK, HK, HB, HGK⟩ := hrel
      by_cases hlt : k < 400
      · have k1 : (k : Int) < 400 := by omega
        have HLT := Lib.hid hlt
        clear hlt
        obtain ⟨A5, c5, rfl⟩ := Kd.R_slice HK.out
        have HC := Lib.hid (Kd.R_reads' HK.out).2.2
        have hch := choose_calls wr A A5 c c5 nodes lk (Kd.C_below HR.out HB.out) HC.out HGK.out.2 (by have := HN8.out; omega)
        by_cases hp : pickI nodes lk < 0
        · rw [chooseOf_none (chk_good.2 HGK.out.1) hp] at hch
          have HCH := Lib.hid hch
          clear hch hp
          go_wp2_with (go_at_call 8; refine HCH.out.mono ?_; rintro e w3 ⟨v, rfl, hv, hb⟩; obtain rfl := hv; have H3 := Aside0.mk (below_step HB.out hb); clear hb)
          go_ret
          exact ⟨rfl, H3.out⟩
        · rw [chooseOf_some (chk_good.2 HGK.out.1) hp] at hch
          dsimp only at hch
          obtain ⟨i, h, g, hi, lo, wt, hgo⟩ := going HGK.out.1 (by omega)
          have HGO := Lib.hid hgo
          obtain ⟨sb, hsb⟩ : ∃ sb, sb = (ldAt lk (pickI nodes lk).toNat).sub := ⟨_, rfl⟩
          obtain ⟨tn, htn⟩ : ∃ tn, tn = loN nodes lk := ⟨_, rfl⟩
          rw [← hsb, ← htn] at hch
          have HCH := Lib.hid hch
          have HSB := Lib.hid (show sb = (ldAt lk i).sub by rw [hsb, hgo.pick]; rfl)
          have HTN := Lib.hid htn
          obtain ⟨mk, hmk⟩ : ∃ mk, mk = moved nodes lk := ⟨_, rfl⟩
          have HMK := Lib.hid hmk
          have hml : mk.length = lk.length := by rw [hmk, moved_len]
          have HML := Lib.hid hml
          have HCK := Lib.hid (chk_good.2 HGK.out.1)
          have HSE := Lib.hid (settleEr_ok (most := 1) HCK.out (by omega))
          have HST := Lib.hid (show settle nodes (1 : Int).toNat lk = mk by rw [hmk]; exact settle_step hp 0)
          have HGM := Lib.hid (show Good nodes mk ∧ ∀ x ∈ mk, (Lit.int .i64 x.sub).wf = true by rw [hmk]; exact ⟨HGK.out.1.moved (by omega), moved_subs (p := fun x => (Lit.int .i64 x.sub).wf = true) (fun x y e h => by rw [← e]; exact h) HGK.out.2 (by omega)⟩)
          have HCM := Lib.hid (chk_good.2 HGM.out.1)
          obtain ⟨S, hS⟩ : ∃ S, S = sumsOf nodes lk := ⟨_, rfl⟩
          obtain ⟨T, hT⟩ : ∃ T, T = sumsOf nodes mk := ⟨_, rfl⟩
          have HS := Lib.hid hS
          have HT := Lib.hid hT
          have HSL := Lib.hid (show S.length = nodes.length by rw [hS, sumsOf_len])
          have HTL := Lib.hid (show T.length = nodes.length by rw [hT, sumsOf_len])
          have HSQ := Lib.hid (show ¬ sq T ≥ sq S by rw [hS, hT, hmk]; have := hgo.falls HGK.out.1; omega)
          have HBT := Lib.hid (show ∀ y ∈ T, lo ≤ y ∧ y ≤ hi by rw [hT, hmk]; exact hgo.between HGK.out.1)
          have HSB2 := Lib.hid (show ∀ y ∈ S, 0 ≤ y ∧ y ≤ 20000000 from sums_small hS HGK.out.1.fine (by rw [HLK.out]; exact HL20.out))
          have HTB2 := Lib.hid (show ∀ y ∈ T, 0 ≤ y ∧ y ≤ 20000000 from sums_small hT HGM.out.1.fine (by rw [hml, HLK.out]; exact HL20.out))
          have hsq : decide (sq T ≥ sq S) = false := by simpa using HSQ.out
          have hlen : ((mk.length : Int) != (lk.length : Int)) = false := by simp [hml]
          clear hch hp hgo hsb htn hmk hS hT hml
          go_upto_region 16 with (first
            | (go_at_call 8; refine HCH.out.mono ?_; rintro e w3 ⟨v, rfl, hv, hb⟩; obtain rfl := hv; have BW3 := Aside0.mk hb; have H3 := Aside0.mk (below_step HB.out hb); clear hb)
            | (go_at_call 9; refine (settle_calls _ _ _ _ _ nodes lk 1 (Kd.C_below HR.out H3.out) (kLd.C_below HC.out BW3.out) HGK.out.2 (by have := HN8.out; omega)).mono ?_; rintro e w4 ⟨u, v, rfl, hv, hR, -, hb⟩; rw [HSE.out] at hv; obtain rfl := hv; have hR2 := hR HSE.out; rw [HST.out] at hR2; obtain ⟨A9, c9, rfl⟩ := Kd.R_slice hR2; have HK9 := Aside0.mk (Kd.R_lower hR2 H3.out.size); have HC9 := Lib.hid (Kd.R_reads' hR2).2.2; have BW4 := Aside0.mk (below_step BW3.out hb); have H4 := Aside0.mk (below_step H3.out hb); clear hb hR hR2)
            | (go_at_call 10; refine (sums2_calls _ _ _ _ _ nodes mk (Kd.C_below HR.out H5.out) (kLd.C_below HC9.out BX5.out) HGM.out.2 (by have := HN8.out; omega)).mono ?_; rintro e w6 ⟨u, v, rfl, hv, hR, -, hb⟩; rw [HCM.out] at hv; obtain rfl := hv; have hR2 := hR HCM.out; rw [← HT.out] at hR2; obtain ⟨A13, c13, rfl⟩ := Kd.R_slice hR2; have HC13 := Lib.hid (Kd.R_reads' hR2).2.2; have BY6 := Aside0.mk hb; have BX6 := Aside0.mk (below_step BX5.out hb); have BW6 := Aside0.mk (below_step BW5.out hb); have H6 := Aside0.mk (below_step H5.out hb); clear hb hR hR2)
            | (go_at_call 10; refine (sums2_calls _ _ _ _ _ nodes lk (Kd.C_below HR.out H4.out) (kLd.C_below HC.out BW4.out) HGK.out.2 (by have := HN8.out; omega)).mono ?_; rintro e w5 ⟨u, v, rfl, hv, hR, -, hb⟩; rw [HCK.out] at hv; obtain rfl := hv; have hR2 := hR HCK.out; rw [← HS.out] at hR2; obtain ⟨A11, c11, rfl⟩ := Kd.R_slice hR2; have HC11 := Lib.hid (Kd.R_reads' hR2).2.2; have BX5 := Aside0.mk hb; have BW5 := Aside0.mk (below_step BW4.out hb); have H5 := Aside0.mk (below_step H4.out hb); clear hb hR hR2)
            | (go_at_call 11; have hz := HDONE; clear hz; refine (squares_calls w6 A11 c11 S (Kd.C_below HC11.out BY6.out) HSB2.out (by rw [HSL.out]; exact HN8.out)).mono ?_; rintro e w7 ⟨rfl, rfl⟩)
            | (go_at_call 11; refine (squares_calls w6 A13 c13 T HC13.out HTB2.out (by rw [HTL.out]; exact HN8.out)).mono ?_; rintro e w7 ⟨rfl, rfl⟩; have HDONE := Lib.hid True.intro))
          have HC11b := Lib.hid (Kd.C_below HC11.out BY6.out)
          have HNP := Lib.hid (show 0 < nodes.length from List.length_pos_iff.2 HG.out.ne)
          have ht0 : 0 < T.length := by rw [HTL.out]; exact HNP.out
          have hs0 : 0 < S.length := by rw [HSL.out]; exact HNP.out
          have ht0i : (0 : Int) < T.length := by omega
          have hs0i : (0 : Int) < S.length := by omega
          have HT0 := Lib.hid ht0
          have HS0 := Lib.hid hs0
          have htl : (T.length : Int) ≤ 8 := by have := HN8.out; rw [HTL.out]; omega
          have hsl : (S.length : Int) ≤ 8 := by have := HN8.out; rw [HSL.out]; omega
          obtain ⟨a13, rfl, hcz⟩ := C_cell HC13.out ht0
          obtain ⟨a11, rfl, hcy⟩ := C_cell HC11b.out hs0
          have b13 : w6.cell? a13 = some (.int .i64 (rd T 0)) := by simpa [Addr.add] using hcz
          have b11 : w6.cell? a11 = some (.int .i64 (rd S 0)) := by simpa [Addr.add] using hcy
          clear hcz hcy ht0 hs0
          go_quiet (fail)
          clear b13 b11
          go_wp2
          trace_state
          go_loopw [15, 16, 17, 18, 113] (fun v15 v16 v17 v18 v113 wq => ∃ (q : Nat) (up dn was low : Int), v15 = .int .i64 up ∧ v16 = .int .i64 dn ∧ v17 = .int .i64 was ∧ v18 = .int .i64 low ∧ v113 = .int .i64 q ∧ q ≤ S.length ∧ Drawn0 w6 wq ∧ Hid (PMax T q up ∧ PMin T q dn ∧ PMax S q was ∧ PMin S q low)) (fun _ _ _ _ v _ => S.length - (intOf v).toNat)
          case atStart => exact ⟨0, rd T 0, rd T 0, rd S 0, rd S 0, rfl, rfl, rfl, rfl, rfl, Nat.zero_le _, ⟨⟨_, rfl⟩⟩, ⟨rd_mem _ _ HT0.out, by simp⟩, ⟨rd_mem _ _ HT0.out, by simp⟩, ⟨rd_mem _ _ HS0.out, by simp⟩, ⟨rd_mem _ _ HS0.out, by simp⟩⟩
          case round =>
            obtain ⟨q, up, dn, was, low, rfl, rfl, rfl, rfl, rfl, hq, HDQ, HPQ⟩ := hrel
            by_cases hlt : q < S.length
            · have q0 : (0 : Int) ≤ q := by omega
              have q1 : (q : Int) < S.length := by omega
              have q2 : (q : Int) < T.length := by rw [HTL.out, ← HSL.out]; exact q1
              have HLQ := Lib.hid hlt
              have HLQ2 := Lib.hid (show q < T.length by omega)
              have hD := HDQ
              obtain ⟨⟨nd, rfl⟩⟩ := hD
              obtain ⟨_, e, hcz⟩ := C_cell (Kd.C_drewN HC13.out nd) HLQ2.out
              cases e
              obtain ⟨_, e, hcy⟩ := C_cell (Kd.C_drewN HC11b.out nd) HLQ.out
              cases e
              have HPS := Lib.hid (show PMax T (q + 1) (mx up (rd T q)) ∧ PMin T (q + 1) (mn dn (rd T q)) ∧ PMax S (q + 1) (mx was (rd S q)) ∧ PMin S (q + 1) (mn low (rd S q)) from ⟨HPQ.out.1.step HLQ2.out, HPQ.out.2.1.step HLQ2.out, HPQ.out.2.2.1.step HLQ.out, HPQ.out.2.2.2.step HLQ.out⟩)
              clear hlt
              -- R20BEGIN
              obtain ⟨wk, hwk⟩ : ∃ wk, wk = w6.drewN nd := ⟨_, rfl⟩
              rw [← hwk] at hcz hcy HDQ ⊢
              have HZ := Lib.hid hcz
              have HY := Lib.hid hcy
              have HZL := Lib.hid (cell_in hcz)
              have HYL := Lib.hid (cell_in hcy)
              clear hcz hcy hwk
              go_wp2
              refine wp_region_noPanic ?_
              refine wp_region_held_drew (S := fun W => Below wk.heap.size wk W) (by kernel_rfl) (by first | exact Below.refl _ _ | exact (Below.refl _ _).drew) (fun hHeld => ?_)
              refine wpAnyH_take (i := 0) (v := ?_) rfl (by kernel_rfl) (by kernel_rfl) (by kernel_rfl) (fun _ _ _ h => h) (Or.inl ⟨by rfl, ?_⟩) (by assumption) ?_
              rotate_left 1
              · first | (intro w hSw; go_simp; done) | (intro w hSw; go_simp; with_reducible rfl)
              try simp only [Act.put, List.getElem_toArray, List.getElem_cons_zero, List.getElem_cons_succ, List.setIfInBounds_toArray, List.set_cons_zero, List.set_cons_succ]
              refine wpAnyH_take (i := 1) (v := ?_) rfl (by kernel_rfl) (by kernel_rfl) (by kernel_rfl) (fun _ _ _ h => h) (Or.inl ⟨by rfl, ?_⟩) (by assumption) ?_
              rotate_left 1
              · first | (intro w hSw; go_simp; done) | (intro w hSw; go_simp; with_reducible rfl)
              try simp only [Act.put, List.getElem_toArray, List.getElem_cons_zero, List.getElem_cons_succ, List.setIfInBounds_toArray, List.set_cons_zero, List.set_cons_succ]
              refine wpAnyH_take (i := 2) (v := ?_) rfl (by kernel_rfl) (by kernel_rfl) (by kernel_rfl) (fun _ _ _ h => h) (Or.inl ⟨by rfl, ?_⟩) (by assumption) ?_
              rotate_left 1
              · first | (intro w hSw; go_simp; done) | (intro w hSw; go_simp; with_reducible rfl)
              try simp only [Act.put, List.getElem_toArray, List.getElem_cons_zero, List.getElem_cons_succ, List.setIfInBounds_toArray, List.set_cons_zero, List.set_cons_succ]
              refine wpAnyH_take (i := 3) (v := ?_) rfl (by kernel_rfl) (by kernel_rfl) (by kernel_rfl) (fun _ _ _ h => h) (Or.inl ⟨by rfl, ?_⟩) (by assumption) ?_
              rotate_left 1
              · first | (intro w hSw; go_simp; done) | (intro w hSw; go_simp; with_reducible rfl)
              try simp only [Act.put, List.getElem_toArray, List.getElem_cons_zero, List.getElem_cons_succ, List.setIfInBounds_toArray, List.set_cons_zero, List.set_cons_succ]
              refine wpAnyH_take (i := 4) (v := ?_) rfl (by kernel_rfl) (by kernel_rfl) (by kernel_rfl) (fun _ _ _ h => h) (Or.inl ⟨by rfl, ?_⟩) (by assumption) ?_
              rotate_left 1
              · first | (intro w hSw; have b1 := (hSw.cell HZL.out).trans HZ.out; go_simp; done) | (intro w hSw; have b1 := (hSw.cell HZL.out).trans HZ.out; go_simp; with_reducible rfl)
              try simp only [Act.put, List.getElem_toArray, List.getElem_cons_zero, List.getElem_cons_succ, List.setIfInBounds_toArray, List.set_cons_zero, List.set_cons_succ]
              refine wpAnyH_take (i := 5) (v := ?_) rfl (by kernel_rfl) (by kernel_rfl) (by kernel_rfl) (fun _ _ _ h => h) (Or.inl ⟨by rfl, ?_⟩) (by assumption) ?_
              rotate_left 1
              · first | (intro w hSw; go_simp; done) | (intro w hSw; go_simp; with_reducible rfl)
              try simp only [Act.put, List.getElem_toArray, List.getElem_cons_zero, List.getElem_cons_succ, List.setIfInBounds_toArray, List.set_cons_zero, List.set_cons_succ]
              refine wpAnyH_take (i := 6) (v := ?_) rfl (by kernel_rfl) (by kernel_rfl) (by kernel_rfl) (fun _ _ _ h => h) (Or.inl ⟨by rfl, ?_⟩) (by assumption) ?_
              rotate_left 1
              · first | (intro w hSw; go_simp; done) | (intro w hSw; go_simp; with_reducible rfl)
              try simp only [Act.put, List.getElem_toArray, List.getElem_cons_zero, List.getElem_cons_succ, List.setIfInBounds_toArray, List.set_cons_zero, List.set_cons_succ]
              refine wpAnyH_take (i := 7) (v := ?_) rfl (by kernel_rfl) (by kernel_rfl) (by kernel_rfl) (fun _ _ _ h => h) (Or.inl ⟨by rfl, ?_⟩) (by assumption) ?_
              rotate_left 1
              · first | (intro w hSw; go_simp; done) | (intro w hSw; go_simp; with_reducible rfl)
              try simp only [Act.put, List.getElem_toArray, List.getElem_cons_zero, List.getElem_cons_succ, List.setIfInBounds_toArray, List.set_cons_zero, List.set_cons_succ]
              refine wpAnyH_take (i := 8) (v := ?_) rfl (by kernel_rfl) (by kernel_rfl) (by kernel_rfl) (fun _ _ _ h => h) (Or.inl ⟨by rfl, ?_⟩) (by assumption) ?_
              rotate_left 1
              · first | (intro w hSw; go_simp; done) | (intro w hSw; go_simp; with_reducible rfl)
              try simp only [Act.put, List.getElem_toArray, List.getElem_cons_zero, List.getElem_cons_succ, List.setIfInBounds_toArray, List.set_cons_zero, List.set_cons_succ]
              refine wpAnyH_take (i := 9) (v := ?_) rfl (by kernel_rfl) (by kernel_rfl) (by kernel_rfl) (fun _ _ _ h => h) (Or.inl ⟨by rfl, ?_⟩) (by assumption) ?_
              rotate_left 1
              · first | (intro w hSw; go_simp; done) | (intro w hSw; go_simp; with_reducible rfl)
              try simp only [Act.put, List.getElem_toArray, List.getElem_cons_zero, List.getElem_cons_succ, List.setIfInBounds_toArray, List.set_cons_zero, List.set_cons_succ]
              refine wpAnyH_take (i := 10) (v := ?_) rfl (by kernel_rfl) (by kernel_rfl) (by kernel_rfl) (fun _ _ _ h => h) (Or.inl ⟨by rfl, ?_⟩) (by assumption) ?_
              rotate_left 1
              · first | (intro w hSw; have b1 := (hSw.cell HZL.out).trans HZ.out; go_simp; done) | (intro w hSw; have b1 := (hSw.cell HZL.out).trans HZ.out; go_simp; with_reducible rfl)
              try simp only [Act.put, List.getElem_toArray, List.getElem_cons_zero, List.getElem_cons_succ, List.setIfInBounds_toArray, List.set_cons_zero, List.set_cons_succ]
              refine wpAnyH_take (i := 11) (v := ?_) rfl (by kernel_rfl) (by kernel_rfl) (by kernel_rfl) (fun _ _ _ h => h) (Or.inl ⟨by rfl, ?_⟩) (by assumption) ?_
              rotate_left 1
              · first | (intro w hSw; go_simp; done) | (intro w hSw; go_simp; with_reducible rfl)
              try simp only [Act.put, List.getElem_toArray, List.getElem_cons_zero, List.getElem_cons_succ, List.setIfInBounds_toArray, List.set_cons_zero, List.set_cons_succ]
              refine wpAnyH_take (i := 12) (v := ?_) rfl (by kernel_rfl) (by kernel_rfl) (by kernel_rfl) (fun _ _ _ h => h) (Or.inl ⟨by rfl, ?_⟩) (by assumption) ?_
              rotate_left 1
              · first | (intro w hSw; go_simp; done) | (intro w hSw; go_simp; with_reducible rfl)
              try simp only [Act.put, List.getElem_toArray, List.getElem_cons_zero, List.getElem_cons_succ, List.setIfInBounds_toArray, List.set_cons_zero, List.set_cons_succ]
              refine wpAnyH_take (i := 13) (v := ?_) rfl (by kernel_rfl) (by kernel_rfl) (by kernel_rfl) (fun _ _ _ h => h) (Or.inl ⟨by rfl, ?_⟩) (by assumption) ?_
              rotate_left 1
              · first | (intro w hSw; go_simp; done) | (intro w hSw; go_simp; with_reducible rfl)
              try simp only [Act.put, List.getElem_toArray, List.getElem_cons_zero, List.getElem_cons_succ, List.setIfInBounds_toArray, List.set_cons_zero, List.set_cons_succ]
              refine wpAnyH_take (i := 14) (v := ?_) rfl (by kernel_rfl) (by kernel_rfl) (by kernel_rfl) (fun _ _ _ h => h) (Or.inl ⟨by rfl, ?_⟩) (by assumption) ?_
              rotate_left 1
              · first | (intro w hSw; go_simp; done) | (intro w hSw; go_simp; with_reducible rfl)
              try simp only [Act.put, List.getElem_toArray, List.getElem_cons_zero, List.getElem_cons_succ, List.setIfInBounds_toArray, List.set_cons_zero, List.set_cons_succ]
              refine wpAnyH_take (i := 15) (v := ?_) rfl (by kernel_rfl) (by kernel_rfl) (by kernel_rfl) (fun _ _ _ h => h) (Or.inl ⟨by rfl, ?_⟩) (by assumption) ?_
              rotate_left 1
              · first | (intro w hSw; go_simp; done) | (intro w hSw; go_simp; with_reducible rfl)
              try simp only [Act.put, List.getElem_toArray, List.getElem_cons_zero, List.getElem_cons_succ, List.setIfInBounds_toArray, List.set_cons_zero, List.set_cons_succ]
              refine wpAnyH_take (i := 16) (v := ?_) rfl (by kernel_rfl) (by kernel_rfl) (by kernel_rfl) (fun _ _ _ h => h) (Or.inl ⟨by rfl, ?_⟩) (by assumption) ?_
              rotate_left 1
              · first | (intro w hSw; have b1 := (hSw.cell HYL.out).trans HY.out; go_simp; done) | (intro w hSw; have b1 := (hSw.cell HYL.out).trans HY.out; go_simp; with_reducible rfl)
              try simp only [Act.put, List.getElem_toArray, List.getElem_cons_zero, List.getElem_cons_succ, List.setIfInBounds_toArray, List.set_cons_zero, List.set_cons_succ]
              refine wpAnyH_take (i := 17) (v := ?_) rfl (by kernel_rfl) (by kernel_rfl) (by kernel_rfl) (fun _ _ _ h => h) (Or.inl ⟨by rfl, ?_⟩) (by assumption) ?_
              rotate_left 1
              · first | (intro w hSw; go_simp; done) | (intro w hSw; go_simp; with_reducible rfl)
              try simp only [Act.put, List.getElem_toArray, List.getElem_cons_zero, List.getElem_cons_succ, List.setIfInBounds_toArray, List.set_cons_zero, List.set_cons_succ]
              refine wpAnyH_take (i := 18) (v := ?_) rfl (by kernel_rfl) (by kernel_rfl) (by kernel_rfl) (fun _ _ _ h => h) (Or.inl ⟨by rfl, ?_⟩) (by assumption) ?_
              rotate_left 1
              · first | (intro w hSw; go_simp; done) | (intro w hSw; go_simp; with_reducible rfl)
              try simp only [Act.put, List.getElem_toArray, List.getElem_cons_zero, List.getElem_cons_succ, List.setIfInBounds_toArray, List.set_cons_zero, List.set_cons_succ]
              refine wpAnyH_take (i := 19) (v := ?_) rfl (by kernel_rfl) (by kernel_rfl) (by kernel_rfl) (fun _ _ _ h => h) (Or.inl ⟨by rfl, ?_⟩) (by assumption) ?_
              rotate_left 1
              · first | (intro w hSw; go_simp; done) | (intro w hSw; go_simp; with_reducible rfl)
              try simp only [Act.put, List.getElem_toArray, List.getElem_cons_zero, List.getElem_cons_succ, List.setIfInBounds_toArray, List.set_cons_zero, List.set_cons_succ]
              refine wpAnyH_take (i := 20) (v := ?_) rfl (by kernel_rfl) (by kernel_rfl) (by kernel_rfl) (fun _ _ _ h => h) (Or.inl ⟨by rfl, ?_⟩) (by assumption) ?_
              rotate_left 1
              · first | (intro w hSw; go_simp; done) | (intro w hSw; go_simp; with_reducible rfl)
              try simp only [Act.put, List.getElem_toArray, List.getElem_cons_zero, List.getElem_cons_succ, List.setIfInBounds_toArray, List.set_cons_zero, List.set_cons_succ]
              refine wpAnyH_take (i := 21) (v := ?_) rfl (by kernel_rfl) (by kernel_rfl) (by kernel_rfl) (fun _ _ _ h => h) (Or.inl ⟨by rfl, ?_⟩) (by assumption) ?_
              rotate_left 1
              · first | (intro w hSw; go_simp; done) | (intro w hSw; go_simp; with_reducible rfl)
              try simp only [Act.put, List.getElem_toArray, List.getElem_cons_zero, List.getElem_cons_succ, List.setIfInBounds_toArray, List.set_cons_zero, List.set_cons_succ]
              refine wpAnyH_take (i := 22) (v := ?_) rfl (by kernel_rfl) (by kernel_rfl) (by kernel_rfl) (fun _ _ _ h => h) (Or.inl ⟨by rfl, ?_⟩) (by assumption) ?_
              rotate_left 1
              · first | (intro w hSw; have b1 := (hSw.cell HYL.out).trans HY.out; go_simp; done) | (intro w hSw; have b1 := (hSw.cell HYL.out).trans HY.out; go_simp; with_reducible rfl)
              try simp only [Act.put, List.getElem_toArray, List.getElem_cons_zero, List.getElem_cons_succ, List.setIfInBounds_toArray, List.set_cons_zero, List.set_cons_succ]
              refine wpAnyH_take (i := 23) (v := ?_) rfl (by kernel_rfl) (by kernel_rfl) (by kernel_rfl) (fun _ _ _ h => h) (Or.inl ⟨by rfl, ?_⟩) (by assumption) ?_
              rotate_left 1
              · first | (intro w hSw; go_simp; done) | (intro w hSw; go_simp; with_reducible rfl)
              try simp only [Act.put, List.getElem_toArray, List.getElem_cons_zero, List.getElem_cons_succ, List.setIfInBounds_toArray, List.set_cons_zero, List.set_cons_succ]
              refine wpAnyH_take (i := 24) (v := ?_) rfl (by kernel_rfl) (by kernel_rfl) (by kernel_rfl) (fun _ _ _ h => h) (Or.inl ⟨by rfl, ?_⟩) (by assumption) ?_
              rotate_left 1
              · first | (intro w hSw; go_simp; done) | (intro w hSw; go_simp; with_reducible rfl)
              try simp only [Act.put, List.getElem_toArray, List.getElem_cons_zero, List.getElem_cons_succ, List.setIfInBounds_toArray, List.set_cons_zero, List.set_cons_succ]
              refine wpAnyH_take (i := 25) (v := ?_) rfl (by kernel_rfl) (by kernel_rfl) (by kernel_rfl) (fun _ _ _ h => h) (Or.inl ⟨by rfl, ?_⟩) (by assumption) ?_
              rotate_left 1
              · first | (intro w hSw; go_simp; done) | (intro w hSw; go_simp; with_reducible rfl)
              try simp only [Act.put, List.getElem_toArray, List.getElem_cons_zero, List.getElem_cons_succ, List.setIfInBounds_toArray, List.set_cons_zero, List.set_cons_succ]
              refine wpAnyH_take (i := 26) (v := ?_) rfl (by kernel_rfl) (by kernel_rfl) (by kernel_rfl) (fun _ _ _ h => h) (Or.inl ⟨by rfl, ?_⟩) (by assumption) ?_
              rotate_left 1
              · first | (intro w hSw; go_simp; done) | (intro w hSw; go_simp; with_reducible rfl)
              try simp only [Act.put, List.getElem_toArray, List.getElem_cons_zero, List.getElem_cons_succ, List.setIfInBounds_toArray, List.set_cons_zero, List.set_cons_succ]
              refine wpAnyH_take (i := 27) (v := ?_) rfl (by kernel_rfl) (by kernel_rfl) (by kernel_rfl) (fun _ _ _ h => h) (Or.inl ⟨by rfl, ?_⟩) (by assumption) ?_
              rotate_left 1
              · first | (intro w hSw; go_simp; done) | (intro w hSw; go_simp; with_reducible rfl)
              try simp only [Act.put, List.getElem_toArray, List.getElem_cons_zero, List.getElem_cons_succ, List.setIfInBounds_toArray, List.set_cons_zero, List.set_cons_succ]
              refine wpAnyH_done (by kernel_rfl) ?_ _
              refine NoPanic.normal ?_
              go_wp2
              -- R20END
              go_roundw
              case rel => exact ⟨q + 1, _, _, _, _, rfl, rfl, rfl, rfl, by go_num, by have := HLQ.out; omega, HDQ.step 1, HPS⟩
              case measure => have := HLQ.out; simp [intOf]; omega
            · have q1 : ¬ (q : Int) < S.length := by omega
              clear hlt
              have hup : up ≤ was := by
                have h1 := HPQ.out.1.1
                have h2 := (HBT.out up h1).2
                have h3 := HGO.out.max.1
                rw [← HS.out] at h3
                have h4 := HPQ.out.2.2.1.2 hi (by rw [List.take_of_length_le (by omega)]; exact h3)
                omega
              have hdn : low ≤ dn := by
                have h1 := HPQ.out.2.1.1
                have h2 := (HBT.out dn h1).1
                have h3 := HGO.out.min.1
                rw [← HS.out] at h3
                have h4 := HPQ.out.2.2.2.2 lo (by rw [List.take_of_length_le (by omega)]; exact h3)
                omega
              have hupb : decide (up > was) = false := by simpa using hup
              have hdnb : decide (dn < low) = false := by simpa using hdn
              have HIL := Lib.hid HGO.out.il
              have hll : (lk.length : Int) ≤ 20 := by have := HLK.out; have := HL20.out; omega
              clear hup hdn
              go_wp2
              go_loopw [20, 143] (fun v20 v143 wq => ∃ (z : Nat), v20 = .int .i64 (if i < z then 1 else 0) ∧ v143 = .int .i64 z ∧ z ≤ lk.length ∧ Drawn0 w6 wq) (fun _ v _ => lk.length - (intOf v).toNat)
              case atStart => exact ⟨0, rfl, rfl, Nat.zero_le _, HDQ⟩
              case round =>
                obtain ⟨z, rfl, rfl, hz, HDZ⟩ := hrel
                by_cases hlt : z < lk.length
                · have z0 : (0 : Int) ≤ z := by omega
                  have z1 : (z : Int) < lk.length := by omega
                  have HLZ := Lib.hid hlt
                  have HLZ2 := Lib.hid (show z < mk.length by rw [HML.out]; exact hlt)
                  have z2 : (z : Int) < mk.length := by have := HLZ2.out; omega
                  have hD := HDZ
                  obtain ⟨⟨nd, rfl⟩⟩ := hD
                  obtain ⟨ad5, rfl, y0, y1, y2⟩ := Ld_cell (kLd.C_drewN (kLd.C_below HC.out BW6.out) nd) HLZ.out
                  obtain ⟨ad9, rfl, x0, x1, x2⟩ := Ld_cell (kLd.C_drewN (kLd.C_below HC9.out BX6.out) nd) HLZ2.out
                  -- R26BEGIN
                  by_cases hi2 : i = z
                  · have hat := HGO.out.at_ z HLZ.out
                    rw [if_pos hi2, ← HMK.out, ← HTN.out, hi2] at hat
                    have hdf := HGO.out.differs HGK.out.1
                    rw [← HTN.out, hi2] at hdf
                    have hsb := HSB.out
                    rw [hi2] at hsb
                    rw [hat] at x0 x1 x2
                    simp only [] at x0 x1 x2
                    generalize (ldAt lk z).sub = ys at *
                    generalize (ldAt lk z).node = yn at *
                    generalize (ldAt lk z).weight = yw at *
                    subst hsb
                    have hnq : (tn == yn) = false := beq_eq_false_iff_ne.2 (fun e => hdf e.symm)
                    have hne : ∀ W : World, (binOp .neq 42 (.agg #[.int .i64 sb, .int .i64 tn, .int .i64 yw]) (.agg #[.int .i64 sb, .int .i64 yn, .int .i64 yw])).run Try.prog W = .ok (.bool true) W := fun W => by rw [load_neq, hnq]; simp
                    have HI2 := Lib.hid hi2
                    rw [if_neg (show ¬ i < z by omega)]
                    clear hat hdf hi2 hnq
                    obtain ⟨wk, hwk⟩ : ∃ wk, wk = w6.drewN nd := ⟨_, rfl⟩
                    rw [← hwk] at x0 x1 x2 y0 y1 y2 HDZ ⊢
                    have X0 := Lib.hid x0
                    have XL0 := Lib.hid (cell_in x0)
                    have Y0 := Lib.hid y0
                    have YL0 := Lib.hid (cell_in y0)
                    have X1 := Lib.hid x1
                    have XL1 := Lib.hid (cell_in x1)
                    have Y1 := Lib.hid y1
                    have YL1 := Lib.hid (cell_in y1)
                    have X2 := Lib.hid x2
                    have XL2 := Lib.hid (cell_in x2)
                    have Y2 := Lib.hid y2
                    have YL2 := Lib.hid (cell_in y2)
                    clear x0 x1 x2 y0 y1 y2 hwk hlt
                    go_wp2
                    refine wp_region_noPanic ?_
                    refine wp_region_held_drew (S := fun W => Below wk.heap.size wk W) (by kernel_rfl) (by first | exact Below.refl _ _ | exact (Below.refl _ _).drew) (fun hHeld => ?_)
                    refine wpAnyH_take (i := 0) (v := ?_) rfl (by kernel_rfl) (by kernel_rfl) (by kernel_rfl) (fun _ _ _ h => h) (Or.inl ⟨by rfl, ?_⟩) (by assumption) ?_
                    rotate_left 1
                    · first | (intro w hSw; go_simp; done) | (intro w hSw; go_simp; with_reducible rfl)
                    try simp only [Act.put, List.getElem_toArray, List.getElem_cons_zero, List.getElem_cons_succ, List.setIfInBounds_toArray, List.set_cons_zero, List.set_cons_succ]
                    refine wpAnyH_take (i := 1) (v := ?_) rfl (by kernel_rfl) (by kernel_rfl) (by kernel_rfl) (fun _ _ _ h => h) (Or.inl ⟨by rfl, ?_⟩) (by assumption) ?_
                    rotate_left 1
                    · first | (intro w hSw; go_simp; done) | (intro w hSw; go_simp; with_reducible rfl)
                    try simp only [Act.put, List.getElem_toArray, List.getElem_cons_zero, List.getElem_cons_succ, List.setIfInBounds_toArray, List.set_cons_zero, List.set_cons_succ]
                    refine wpAnyH_take (i := 2) (v := ?_) rfl (by kernel_rfl) (by kernel_rfl) (by kernel_rfl) (fun _ _ _ h => h) (Or.inl ⟨by rfl, ?_⟩) (by assumption) ?_
                    rotate_left 1
                    · first | (intro w hSw; go_simp; done) | (intro w hSw; go_simp; with_reducible rfl)
                    try simp only [Act.put, List.getElem_toArray, List.getElem_cons_zero, List.getElem_cons_succ, List.setIfInBounds_toArray, List.set_cons_zero, List.set_cons_succ]
                    refine wpAnyH_take (i := 3) (v := ?_) rfl (by kernel_rfl) (by kernel_rfl) (by kernel_rfl) (fun _ _ _ h => h) (Or.inl ⟨by rfl, ?_⟩) (by assumption) ?_
                    rotate_left 1
                    · first | (intro w hSw; have c0 := Below.keeps hSw X0.out XL0.out; have c1 := Below.keeps hSw X1.out XL1.out; have c2 := Below.keeps hSw X2.out XL2.out; go_simp; done) | (intro w hSw; have c0 := Below.keeps hSw X0.out XL0.out; have c1 := Below.keeps hSw X1.out XL1.out; have c2 := Below.keeps hSw X2.out XL2.out; go_simp; with_reducible rfl)
                    try simp only [Act.put, List.getElem_toArray, List.getElem_cons_zero, List.getElem_cons_succ, List.setIfInBounds_toArray, List.set_cons_zero, List.set_cons_succ]
                    refine wpAnyH_take (i := 4) (v := ?_) rfl (by kernel_rfl) (by kernel_rfl) (by kernel_rfl) (fun _ _ _ h => h) (Or.inl ⟨by rfl, ?_⟩) (by assumption) ?_
                    rotate_left 1
                    · first | (intro w hSw; go_simp; done) | (intro w hSw; go_simp; with_reducible rfl)
                    try simp only [Act.put, List.getElem_toArray, List.getElem_cons_zero, List.getElem_cons_succ, List.setIfInBounds_toArray, List.set_cons_zero, List.set_cons_succ]
                    refine wpAnyH_take (i := 5) (v := ?_) rfl (by kernel_rfl) (by kernel_rfl) (by kernel_rfl) (fun _ _ _ h => h) (Or.inl ⟨by rfl, ?_⟩) (by assumption) ?_
                    rotate_left 1
                    · first | (intro w hSw; go_simp; done) | (intro w hSw; go_simp; with_reducible rfl)
                    try simp only [Act.put, List.getElem_toArray, List.getElem_cons_zero, List.getElem_cons_succ, List.setIfInBounds_toArray, List.set_cons_zero, List.set_cons_succ]
                    refine wpAnyH_take (i := 6) (v := ?_) rfl (by kernel_rfl) (by kernel_rfl) (by kernel_rfl) (fun _ _ _ h => h) (Or.inl ⟨by rfl, ?_⟩) (by assumption) ?_
                    rotate_left 1
                    · first | (intro w hSw; go_simp; done) | (intro w hSw; go_simp; with_reducible rfl)
                    try simp only [Act.put, List.getElem_toArray, List.getElem_cons_zero, List.getElem_cons_succ, List.setIfInBounds_toArray, List.set_cons_zero, List.set_cons_succ]
                    refine wpAnyH_take (i := 7) (v := ?_) rfl (by kernel_rfl) (by kernel_rfl) (by kernel_rfl) (fun _ _ _ h => h) (Or.inl ⟨by rfl, ?_⟩) (by assumption) ?_
                    rotate_left 1
                    · first | (intro w hSw; have d0 := Below.keeps hSw Y0.out YL0.out; have d1 := Below.keeps hSw Y1.out YL1.out; have d2 := Below.keeps hSw Y2.out YL2.out; go_simp; done) | (intro w hSw; have d0 := Below.keeps hSw Y0.out YL0.out; have d1 := Below.keeps hSw Y1.out YL1.out; have d2 := Below.keeps hSw Y2.out YL2.out; go_simp; with_reducible rfl)
                    try simp only [Act.put, List.getElem_toArray, List.getElem_cons_zero, List.getElem_cons_succ, List.setIfInBounds_toArray, List.set_cons_zero, List.set_cons_succ]
                    refine wpAnyH_take (i := 8) (v := ?_) rfl (by kernel_rfl) (by kernel_rfl) (by kernel_rfl) (fun _ _ _ h => h) (Or.inl ⟨by rfl, ?_⟩) (by assumption) ?_
                    rotate_left 1
                    · first | (intro w hSw; go_simp; done) | (intro w hSw; go_simp; with_reducible rfl)
                    try simp only [Act.put, List.getElem_toArray, List.getElem_cons_zero, List.getElem_cons_succ, List.setIfInBounds_toArray, List.set_cons_zero, List.set_cons_succ]
                    refine wpAnyH_done (by kernel_rfl) ?_ _
                    refine NoPanic.normal ?_
                    clear hne
                    have hDW := Aside0.mk (show Below wk.heap.size wk wk.drew from (Below.refl _ _).drew)
                    go_upto_region 28 with (fail)
                    obtain ⟨wl, hwl⟩ : ∃ wl, wl = wk.drew := ⟨_, rfl⟩
                    rw [← hwl] at hDW ⊢
                    have HDL := Aside0.mk (show Drawn0 w6 wl by rw [hwl]; exact HDZ.step 1)
                    have X0' := Lib.hid (Below.keeps hDW.out X0.out XL0.out)
                    have XL0' := Lib.hid (Nat.lt_of_lt_of_le XL0.out hDW.out.size)
                    have Y0' := Lib.hid (Below.keeps hDW.out Y0.out YL0.out)
                    have YL0' := Lib.hid (Nat.lt_of_lt_of_le YL0.out hDW.out.size)
                    have X1' := Lib.hid (Below.keeps hDW.out X1.out XL1.out)
                    have XL1' := Lib.hid (Nat.lt_of_lt_of_le XL1.out hDW.out.size)
                    have Y1' := Lib.hid (Below.keeps hDW.out Y1.out YL1.out)
                    have YL1' := Lib.hid (Nat.lt_of_lt_of_le YL1.out hDW.out.size)
                    have X2' := Lib.hid (Below.keeps hDW.out X2.out XL2.out)
                    have XL2' := Lib.hid (Nat.lt_of_lt_of_le XL2.out hDW.out.size)
                    have Y2' := Lib.hid (Below.keeps hDW.out Y2.out YL2.out)
                    have YL2' := Lib.hid (Nat.lt_of_lt_of_le YL2.out hDW.out.size)
                    clear hwl
                    refine wp_region_noPanic ?_
                    refine wp_region_held_drew (S := fun W => Below wl.heap.size wl W) (by kernel_rfl) (by first | exact Below.refl _ _ | exact (Below.refl _ _).drew) (fun hHeld => ?_)
                    refine wpAnyH_take (i := 0) (v := ?_) rfl (by kernel_rfl) (by kernel_rfl) (by kernel_rfl) (fun _ _ _ h => h) (Or.inl ⟨by rfl, ?_⟩) (by assumption) ?_
                    rotate_left 1
                    · first | (intro w hSw; go_simp; done) | (intro w hSw; go_simp; with_reducible rfl)
                    try simp only [Act.put, List.getElem_toArray, List.getElem_cons_zero, List.getElem_cons_succ, List.setIfInBounds_toArray, List.set_cons_zero, List.set_cons_succ]
                    refine wpAnyH_take (i := 1) (v := ?_) rfl (by kernel_rfl) (by kernel_rfl) (by kernel_rfl) (fun _ _ _ h => h) (Or.inl ⟨by rfl, ?_⟩) (by assumption) ?_
                    rotate_left 1
                    · first | (intro w hSw; go_simp; done) | (intro w hSw; go_simp; with_reducible rfl)
                    try simp only [Act.put, List.getElem_toArray, List.getElem_cons_zero, List.getElem_cons_succ, List.setIfInBounds_toArray, List.set_cons_zero, List.set_cons_succ]
                    refine wpAnyH_take (i := 2) (v := ?_) rfl (by kernel_rfl) (by kernel_rfl) (by kernel_rfl) (fun _ _ _ h => h) (Or.inl ⟨by rfl, ?_⟩) (by assumption) ?_
                    rotate_left 1
                    · first | (intro w hSw; go_simp; done) | (intro w hSw; go_simp; with_reducible rfl)
                    try simp only [Act.put, List.getElem_toArray, List.getElem_cons_zero, List.getElem_cons_succ, List.setIfInBounds_toArray, List.set_cons_zero, List.set_cons_succ]
                    refine wpAnyH_take (i := 3) (v := ?_) rfl (by kernel_rfl) (by kernel_rfl) (by kernel_rfl) (fun _ _ _ h => h) (Or.inl ⟨by rfl, ?_⟩) (by assumption) ?_
                    rotate_left 1
                    · first | (intro w hSw; go_simp; done) | (intro w hSw; go_simp; with_reducible rfl)
                    try simp only [Act.put, List.getElem_toArray, List.getElem_cons_zero, List.getElem_cons_succ, List.setIfInBounds_toArray, List.set_cons_zero, List.set_cons_succ]
                    refine wpAnyH_take (i := 4) (v := ?_) rfl (by kernel_rfl) (by kernel_rfl) (by kernel_rfl) (fun _ _ _ h => h) (Or.inl ⟨by rfl, ?_⟩) (by assumption) ?_
                    rotate_left 1
                    · first | (intro w hSw; have c := Below.keeps hSw X0'.out XL0'.out; go_simp; done) | (intro w hSw; have c := Below.keeps hSw X0'.out XL0'.out; go_simp; with_reducible rfl)
                    try simp only [Act.put, List.getElem_toArray, List.getElem_cons_zero, List.getElem_cons_succ, List.setIfInBounds_toArray, List.set_cons_zero, List.set_cons_succ]
                    refine wpAnyH_take (i := 5) (v := ?_) rfl (by kernel_rfl) (by kernel_rfl) (by kernel_rfl) (fun _ _ _ h => h) (Or.inl ⟨by rfl, ?_⟩) (by assumption) ?_
                    rotate_left 1
                    · first | (intro w hSw; go_simp; done) | (intro w hSw; go_simp; with_reducible rfl)
                    try simp only [Act.put, List.getElem_toArray, List.getElem_cons_zero, List.getElem_cons_succ, List.setIfInBounds_toArray, List.set_cons_zero, List.set_cons_succ]
                    refine wpAnyH_take (i := 6) (v := ?_) rfl (by kernel_rfl) (by kernel_rfl) (by kernel_rfl) (fun _ _ _ h => h) (Or.inl ⟨by rfl, ?_⟩) (by assumption) ?_
                    rotate_left 1
                    · first | (intro w hSw; go_simp; done) | (intro w hSw; go_simp; with_reducible rfl)
                    try simp only [Act.put, List.getElem_toArray, List.getElem_cons_zero, List.getElem_cons_succ, List.setIfInBounds_toArray, List.set_cons_zero, List.set_cons_succ]
                    refine wpAnyH_take (i := 7) (v := ?_) rfl (by kernel_rfl) (by kernel_rfl) (by kernel_rfl) (fun _ _ _ h => h) (Or.inl ⟨by rfl, ?_⟩) (by assumption) ?_
                    rotate_left 1
                    · first | (intro w hSw; go_simp; done) | (intro w hSw; go_simp; with_reducible rfl)
                    try simp only [Act.put, List.getElem_toArray, List.getElem_cons_zero, List.getElem_cons_succ, List.setIfInBounds_toArray, List.set_cons_zero, List.set_cons_succ]
                    refine wpAnyH_take (i := 8) (v := ?_) rfl (by kernel_rfl) (by kernel_rfl) (by kernel_rfl) (fun _ _ _ h => h) (Or.inl ⟨by rfl, ?_⟩) (by assumption) ?_
                    rotate_left 1
                    · first | (intro w hSw; go_simp; done) | (intro w hSw; go_simp; with_reducible rfl)
                    try simp only [Act.put, List.getElem_toArray, List.getElem_cons_zero, List.getElem_cons_succ, List.setIfInBounds_toArray, List.set_cons_zero, List.set_cons_succ]
                    refine wpAnyH_take (i := 9) (v := ?_) rfl (by kernel_rfl) (by kernel_rfl) (by kernel_rfl) (fun _ _ _ h => h) (Or.inl ⟨by rfl, ?_⟩) (by assumption) ?_
                    rotate_left 1
                    · first | (intro w hSw; go_simp; done) | (intro w hSw; go_simp; with_reducible rfl)
                    try simp only [Act.put, List.getElem_toArray, List.getElem_cons_zero, List.getElem_cons_succ, List.setIfInBounds_toArray, List.set_cons_zero, List.set_cons_succ]
                    refine wpAnyH_take (i := 10) (v := ?_) rfl (by kernel_rfl) (by kernel_rfl) (by kernel_rfl) (fun _ _ _ h => h) (Or.inl ⟨by rfl, ?_⟩) (by assumption) ?_
                    rotate_left 1
                    · first | (intro w hSw; go_simp; done) | (intro w hSw; go_simp; with_reducible rfl)
                    try simp only [Act.put, List.getElem_toArray, List.getElem_cons_zero, List.getElem_cons_succ, List.setIfInBounds_toArray, List.set_cons_zero, List.set_cons_succ]
                    refine wpAnyH_take (i := 11) (v := ?_) rfl (by kernel_rfl) (by kernel_rfl) (by kernel_rfl) (fun _ _ _ h => h) (Or.inl ⟨by rfl, ?_⟩) (by assumption) ?_
                    rotate_left 1
                    · first | (intro w hSw; go_simp; done) | (intro w hSw; go_simp; with_reducible rfl)
                    try simp only [Act.put, List.getElem_toArray, List.getElem_cons_zero, List.getElem_cons_succ, List.setIfInBounds_toArray, List.set_cons_zero, List.set_cons_succ]
                    refine wpAnyH_take (i := 12) (v := ?_) rfl (by kernel_rfl) (by kernel_rfl) (by kernel_rfl) (fun _ _ _ h => h) (Or.inl ⟨by rfl, ?_⟩) (by assumption) ?_
                    rotate_left 1
                    · first | (intro w hSw; have c := Below.keeps hSw X1'.out XL1'.out; go_simp; done) | (intro w hSw; have c := Below.keeps hSw X1'.out XL1'.out; go_simp; with_reducible rfl)
                    try simp only [Act.put, List.getElem_toArray, List.getElem_cons_zero, List.getElem_cons_succ, List.setIfInBounds_toArray, List.set_cons_zero, List.set_cons_succ]
                    refine wpAnyH_take (i := 13) (v := ?_) rfl (by kernel_rfl) (by kernel_rfl) (by kernel_rfl) (fun _ _ _ h => h) (Or.inl ⟨by rfl, ?_⟩) (by assumption) ?_
                    rotate_left 1
                    · first | (intro w hSw; go_simp; done) | (intro w hSw; go_simp; with_reducible rfl)
                    try simp only [Act.put, List.getElem_toArray, List.getElem_cons_zero, List.getElem_cons_succ, List.setIfInBounds_toArray, List.set_cons_zero, List.set_cons_succ]
                    refine wpAnyH_take (i := 14) (v := ?_) rfl (by kernel_rfl) (by kernel_rfl) (by kernel_rfl) (fun _ _ _ h => h) (Or.inl ⟨by rfl, ?_⟩) (by assumption) ?_
                    rotate_left 1
                    · first | (intro w hSw; go_simp; done) | (intro w hSw; go_simp; with_reducible rfl)
                    try simp only [Act.put, List.getElem_toArray, List.getElem_cons_zero, List.getElem_cons_succ, List.setIfInBounds_toArray, List.set_cons_zero, List.set_cons_succ]
                    refine wpAnyH_take (i := 15) (v := ?_) rfl (by kernel_rfl) (by kernel_rfl) (by kernel_rfl) (fun _ _ _ h => h) (Or.inl ⟨by rfl, ?_⟩) (by assumption) ?_
                    rotate_left 1
                    · first | (intro w hSw; go_simp; done) | (intro w hSw; go_simp; with_reducible rfl)
                    try simp only [Act.put, List.getElem_toArray, List.getElem_cons_zero, List.getElem_cons_succ, List.setIfInBounds_toArray, List.set_cons_zero, List.set_cons_succ]
                    refine wpAnyH_take (i := 16) (v := ?_) rfl (by kernel_rfl) (by kernel_rfl) (by kernel_rfl) (fun _ _ _ h => h) (Or.inl ⟨by rfl, ?_⟩) (by assumption) ?_
                    rotate_left 1
                    · first | (intro w hSw; go_simp; done) | (intro w hSw; go_simp; with_reducible rfl)
                    try simp only [Act.put, List.getElem_toArray, List.getElem_cons_zero, List.getElem_cons_succ, List.setIfInBounds_toArray, List.set_cons_zero, List.set_cons_succ]
                    refine wpAnyH_take (i := 17) (v := ?_) rfl (by kernel_rfl) (by kernel_rfl) (by kernel_rfl) (fun _ _ _ h => h) (Or.inl ⟨by rfl, ?_⟩) (by assumption) ?_
                    rotate_left 1
                    · first | (intro w hSw; go_simp; done) | (intro w hSw; go_simp; with_reducible rfl)
                    try simp only [Act.put, List.getElem_toArray, List.getElem_cons_zero, List.getElem_cons_succ, List.setIfInBounds_toArray, List.set_cons_zero, List.set_cons_succ]
                    refine wpAnyH_take (i := 18) (v := ?_) rfl (by kernel_rfl) (by kernel_rfl) (by kernel_rfl) (fun _ _ _ h => h) (Or.inl ⟨by rfl, ?_⟩) (by assumption) ?_
                    rotate_left 1
                    · first | (intro w hSw; go_simp; done) | (intro w hSw; go_simp; with_reducible rfl)
                    try simp only [Act.put, List.getElem_toArray, List.getElem_cons_zero, List.getElem_cons_succ, List.setIfInBounds_toArray, List.set_cons_zero, List.set_cons_succ]
                    refine wpAnyH_take (i := 19) (v := ?_) rfl (by kernel_rfl) (by kernel_rfl) (by kernel_rfl) (fun _ _ _ h => h) (Or.inl ⟨by rfl, ?_⟩) (by assumption) ?_
                    rotate_left 1
                    · first | (intro w hSw; go_simp; done) | (intro w hSw; go_simp; with_reducible rfl)
                    try simp only [Act.put, List.getElem_toArray, List.getElem_cons_zero, List.getElem_cons_succ, List.setIfInBounds_toArray, List.set_cons_zero, List.set_cons_succ]
                    refine wpAnyH_take (i := 20) (v := ?_) rfl (by kernel_rfl) (by kernel_rfl) (by kernel_rfl) (fun _ _ _ h => h) (Or.inl ⟨by rfl, ?_⟩) (by assumption) ?_
                    rotate_left 1
                    · first | (intro w hSw; go_simp; done) | (intro w hSw; go_simp; with_reducible rfl)
                    try simp only [Act.put, List.getElem_toArray, List.getElem_cons_zero, List.getElem_cons_succ, List.setIfInBounds_toArray, List.set_cons_zero, List.set_cons_succ]
                    refine wpAnyH_take (i := 21) (v := ?_) rfl (by kernel_rfl) (by kernel_rfl) (by kernel_rfl) (fun _ _ _ h => h) (Or.inl ⟨by rfl, ?_⟩) (by assumption) ?_
                    rotate_left 1
                    · first | (intro w hSw; have c := Below.keeps hSw X2'.out XL2'.out; go_simp; done) | (intro w hSw; have c := Below.keeps hSw X2'.out XL2'.out; go_simp; with_reducible rfl)
                    try simp only [Act.put, List.getElem_toArray, List.getElem_cons_zero, List.getElem_cons_succ, List.setIfInBounds_toArray, List.set_cons_zero, List.set_cons_succ]
                    refine wpAnyH_take (i := 22) (v := ?_) rfl (by kernel_rfl) (by kernel_rfl) (by kernel_rfl) (fun _ _ _ h => h) (Or.inl ⟨by rfl, ?_⟩) (by assumption) ?_
                    rotate_left 1
                    · first | (intro w hSw; go_simp; done) | (intro w hSw; go_simp; with_reducible rfl)
                    try simp only [Act.put, List.getElem_toArray, List.getElem_cons_zero, List.getElem_cons_succ, List.setIfInBounds_toArray, List.set_cons_zero, List.set_cons_succ]
                    refine wpAnyH_take (i := 23) (v := ?_) rfl (by kernel_rfl) (by kernel_rfl) (by kernel_rfl) (fun _ _ _ h => h) (Or.inl ⟨by rfl, ?_⟩) (by assumption) ?_
                    rotate_left 1
                    · first | (intro w hSw; go_simp; done) | (intro w hSw; go_simp; with_reducible rfl)
                    try simp only [Act.put, List.getElem_toArray, List.getElem_cons_zero, List.getElem_cons_succ, List.setIfInBounds_toArray, List.set_cons_zero, List.set_cons_succ]
                    refine wpAnyH_take (i := 24) (v := ?_) rfl (by kernel_rfl) (by kernel_rfl) (by kernel_rfl) (fun _ _ _ h => h) (Or.inl ⟨by rfl, ?_⟩) (by assumption) ?_
                    rotate_left 1
                    · first | (intro w hSw; go_simp; done) | (intro w hSw; go_simp; with_reducible rfl)
                    try simp only [Act.put, List.getElem_toArray, List.getElem_cons_zero, List.getElem_cons_succ, List.setIfInBounds_toArray, List.set_cons_zero, List.set_cons_succ]
                    refine wpAnyH_take (i := 25) (v := ?_) rfl (by kernel_rfl) (by kernel_rfl) (by kernel_rfl) (fun _ _ _ h => h) (Or.inl ⟨by rfl, ?_⟩) (by assumption) ?_
                    rotate_left 1
                    · first | (intro w hSw; go_simp; done) | (intro w hSw; go_simp; with_reducible rfl)
                    try simp only [Act.put, List.getElem_toArray, List.getElem_cons_zero, List.getElem_cons_succ, List.setIfInBounds_toArray, List.set_cons_zero, List.set_cons_succ]
                    refine wpAnyH_take (i := 26) (v := ?_) rfl (by kernel_rfl) (by kernel_rfl) (by kernel_rfl) (fun _ _ _ h => h) (Or.inl ⟨by rfl, ?_⟩) (by assumption) ?_
                    rotate_left 1
                    · first | (intro w hSw; have c := Below.keeps hSw Y2'.out YL2'.out; go_simp; done) | (intro w hSw; have c := Below.keeps hSw Y2'.out YL2'.out; go_simp; with_reducible rfl)
                    try simp only [Act.put, List.getElem_toArray, List.getElem_cons_zero, List.getElem_cons_succ, List.setIfInBounds_toArray, List.set_cons_zero, List.set_cons_succ]
                    refine wpAnyH_take (i := 27) (v := ?_) rfl (by kernel_rfl) (by kernel_rfl) (by kernel_rfl) (fun _ _ _ h => h) (Or.inl ⟨by rfl, ?_⟩) (by assumption) ?_
                    rotate_left 1
                    · first | (intro w hSw; go_simp; done) | (intro w hSw; go_simp; with_reducible rfl)
                    try simp only [Act.put, List.getElem_toArray, List.getElem_cons_zero, List.getElem_cons_succ, List.setIfInBounds_toArray, List.set_cons_zero, List.set_cons_succ]
                    refine wpAnyH_take (i := 28) (v := ?_) rfl (by kernel_rfl) (by kernel_rfl) (by kernel_rfl) (fun _ _ _ h => h) (Or.inl ⟨by rfl, ?_⟩) (by assumption) ?_
                    rotate_left 1
                    · first | (intro w hSw; go_simp; done) | (intro w hSw; go_simp; with_reducible rfl)
                    try simp only [Act.put, List.getElem_toArray, List.getElem_cons_zero, List.getElem_cons_succ, List.setIfInBounds_toArray, List.set_cons_zero, List.set_cons_succ]
                    refine wpAnyH_done (by kernel_rfl) ?_ _
                    refine NoPanic.normal ?_
                    go_wp2
                    go_roundw
                    case rel => exact ⟨z + 1, by rw [if_pos (by have := HI2.out; omega)], by go_num, by have := HLZ.out; omega, HDL.out.step 1⟩
                    case measure => have := HLZ.out; simp [intOf]; omega
                  · have hat := HGO.out.at_ z HLZ.out
                    rw [if_neg hi2, ← HMK.out] at hat
                    rw [hat] at x0 x1 x2
                    generalize (ldAt lk z).sub = ys at *
                    generalize (ldAt lk z).node = yn at *
                    generalize (ldAt lk z).weight = yw at *
                    have hne : ∀ W : World, (binOp .neq 42 (.agg #[.int .i64 ys, .int .i64 yn, .int .i64 yw]) (.agg #[.int .i64 ys, .int .i64 yn, .int .i64 yw])).run Try.prog W = .ok (.bool false) W := fun W => by rw [load_neq]; simp
                    obtain ⟨cnt, hcnt⟩ : ∃ cnt : Int, cnt = if i < z then 1 else 0 := ⟨_, rfl⟩
                    have HCNT := Lib.hid (hcnt.trans (one_more hi2))
                    rw [← hcnt]
                    clear hat hi2 hcnt
                    obtain ⟨wk, hwk⟩ : ∃ wk, wk = w6.drewN nd := ⟨_, rfl⟩
                    rw [← hwk] at x0 x1 x2 y0 y1 y2 HDZ ⊢
                    have X0 := Lib.hid x0
                    have XL0 := Lib.hid (cell_in x0)
                    have Y0 := Lib.hid y0
                    have YL0 := Lib.hid (cell_in y0)
                    have X1 := Lib.hid x1
                    have XL1 := Lib.hid (cell_in x1)
                    have Y1 := Lib.hid y1
                    have YL1 := Lib.hid (cell_in y1)
                    have X2 := Lib.hid x2
                    have XL2 := Lib.hid (cell_in x2)
                    have Y2 := Lib.hid y2
                    have YL2 := Lib.hid (cell_in y2)
                    clear x0 x1 x2 y0 y1 y2 hwk hlt
                    go_wp2
                    refine wp_region_noPanic ?_
                    refine wp_region_held_drew (S := fun W => Below wk.heap.size wk W) (by kernel_rfl) (by first | exact Below.refl _ _ | exact (Below.refl _ _).drew) (fun hHeld => ?_)
                    refine wpAnyH_take (i := 0) (v := ?_) rfl (by kernel_rfl) (by kernel_rfl) (by kernel_rfl) (fun _ _ _ h => h) (Or.inl ⟨by rfl, ?_⟩) (by assumption) ?_
                    rotate_left 1
                    · first | (intro w hSw; go_simp; done) | (intro w hSw; go_simp; with_reducible rfl)
                    try simp only [Act.put, List.getElem_toArray, List.getElem_cons_zero, List.getElem_cons_succ, List.setIfInBounds_toArray, List.set_cons_zero, List.set_cons_succ]
                    refine wpAnyH_take (i := 1) (v := ?_) rfl (by kernel_rfl) (by kernel_rfl) (by kernel_rfl) (fun _ _ _ h => h) (Or.inl ⟨by rfl, ?_⟩) (by assumption) ?_
                    rotate_left 1
                    · first | (intro w hSw; go_simp; done) | (intro w hSw; go_simp; with_reducible rfl)
                    try simp only [Act.put, List.getElem_toArray, List.getElem_cons_zero, List.getElem_cons_succ, List.setIfInBounds_toArray, List.set_cons_zero, List.set_cons_succ]
                    refine wpAnyH_take (i := 2) (v := ?_) rfl (by kernel_rfl) (by kernel_rfl) (by kernel_rfl) (fun _ _ _ h => h) (Or.inl ⟨by rfl, ?_⟩) (by assumption) ?_
                    rotate_left 1
                    · first | (intro w hSw; go_simp; done) | (intro w hSw; go_simp; with_reducible rfl)
                    try simp only [Act.put, List.getElem_toArray, List.getElem_cons_zero, List.getElem_cons_succ, List.setIfInBounds_toArray, List.set_cons_zero, List.set_cons_succ]
                    refine wpAnyH_take (i := 3) (v := ?_) rfl (by kernel_rfl) (by kernel_rfl) (by kernel_rfl) (fun _ _ _ h => h) (Or.inl ⟨by rfl, ?_⟩) (by assumption) ?_
                    rotate_left 1
                    · first | (intro w hSw; have c0 := Below.keeps hSw X0.out XL0.out; have c1 := Below.keeps hSw X1.out XL1.out; have c2 := Below.keeps hSw X2.out XL2.out; go_simp; done) | (intro w hSw; have c0 := Below.keeps hSw X0.out XL0.out; have c1 := Below.keeps hSw X1.out XL1.out; have c2 := Below.keeps hSw X2.out XL2.out; go_simp; with_reducible rfl)
                    try simp only [Act.put, List.getElem_toArray, List.getElem_cons_zero, List.getElem_cons_succ, List.setIfInBounds_toArray, List.set_cons_zero, List.set_cons_succ]
                    refine wpAnyH_take (i := 4) (v := ?_) rfl (by kernel_rfl) (by kernel_rfl) (by kernel_rfl) (fun _ _ _ h => h) (Or.inl ⟨by rfl, ?_⟩) (by assumption) ?_
                    rotate_left 1
                    · first | (intro w hSw; go_simp; done) | (intro w hSw; go_simp; with_reducible rfl)
                    try simp only [Act.put, List.getElem_toArray, List.getElem_cons_zero, List.getElem_cons_succ, List.setIfInBounds_toArray, List.set_cons_zero, List.set_cons_succ]
                    refine wpAnyH_take (i := 5) (v := ?_) rfl (by kernel_rfl) (by kernel_rfl) (by kernel_rfl) (fun _ _ _ h => h) (Or.inl ⟨by rfl, ?_⟩) (by assumption) ?_
                    rotate_left 1
                    · first | (intro w hSw; go_simp; done) | (intro w hSw; go_simp; with_reducible rfl)
                    try simp only [Act.put, List.getElem_toArray, List.getElem_cons_zero, List.getElem_cons_succ, List.setIfInBounds_toArray, List.set_cons_zero, List.set_cons_succ]
                    refine wpAnyH_take (i := 6) (v := ?_) rfl (by kernel_rfl) (by kernel_rfl) (by kernel_rfl) (fun _ _ _ h => h) (Or.inl ⟨by rfl, ?_⟩) (by assumption) ?_
                    rotate_left 1
                    · first | (intro w hSw; go_simp; done) | (intro w hSw; go_simp; with_reducible rfl)
                    try simp only [Act.put, List.getElem_toArray, List.getElem_cons_zero, List.getElem_cons_succ, List.setIfInBounds_toArray, List.set_cons_zero, List.set_cons_succ]
                    refine wpAnyH_take (i := 7) (v := ?_) rfl (by kernel_rfl) (by kernel_rfl) (by kernel_rfl) (fun _ _ _ h => h) (Or.inl ⟨by rfl, ?_⟩) (by assumption) ?_
                    rotate_left 1
                    · first | (intro w hSw; have d0 := Below.keeps hSw Y0.out YL0.out; have d1 := Below.keeps hSw Y1.out YL1.out; have d2 := Below.keeps hSw Y2.out YL2.out; go_simp; done) | (intro w hSw; have d0 := Below.keeps hSw Y0.out YL0.out; have d1 := Below.keeps hSw Y1.out YL1.out; have d2 := Below.keeps hSw Y2.out YL2.out; go_simp; with_reducible rfl)
                    try simp only [Act.put, List.getElem_toArray, List.getElem_cons_zero, List.getElem_cons_succ, List.setIfInBounds_toArray, List.set_cons_zero, List.set_cons_succ]
                    refine wpAnyH_take (i := 8) (v := ?_) rfl (by kernel_rfl) (by kernel_rfl) (by kernel_rfl) (fun _ _ _ h => h) (Or.inl ⟨by rfl, ?_⟩) (by assumption) ?_
                    rotate_left 1
                    · first | (intro w hSw; go_simp; done) | (intro w hSw; go_simp; with_reducible rfl)
                    try simp only [Act.put, List.getElem_toArray, List.getElem_cons_zero, List.getElem_cons_succ, List.setIfInBounds_toArray, List.set_cons_zero, List.set_cons_succ]
                    refine wpAnyH_done (by kernel_rfl) ?_ _
                    refine NoPanic.normal ?_
                    clear hne
                    go_wp2
                    go_roundw
                    case rel => exact ⟨z + 1, by rw [HCNT.out], by go_num, by have := HLZ.out; omega, HDZ.step 1⟩
                    case measure => have := HLZ.out; simp [intOf]; omega
                  -- R26END
                · have z1 : ¬ (z : Int) < lk.length := by omega
                  have hone : (if i < z then (1 : Int) else 0) = 1 := if_pos (by have := HIL.out; omega)
                  rw [hone]
                  clear hlt hone
                  go_wp2
                  go_roundw
                  case rel => exact ⟨k + 1, mk, by go_num, by have := HLT.out; omega, HML.out.trans HLK.out, ⟨Kd.R_below HK9.out (below_step BX6.out HDZ.below)⟩, ⟨below_step H6.out HDZ.below⟩, HGM⟩
                  case measure => have := HLT.out; simp [intOf]; omega
      · have k1 : ¬ (k : Int) < 400 := by omega
        clear hlt
        go_wp2
        go_ret
        exact ⟨rfl, HB.out⟩
  · have HBAD := Lib.hid (Er.bad_true g3)
    clear g1 g2 g3
    go_enter Try.func3, Try.ntmps3
    go_wp2_with (first
      | (go_at_call 5; refine (awake_calls _).mono ?_; rintro e w0 ⟨rfl, hb⟩; have H0 := Aside0.mk hb; clear hb)
      | (go_at_call 6; refine (checkRef_calls _ _ _ _ _ nodes l (Kd.C_below HR.out H0.out) (kLd.C_below HL.out H0.out) HCAP.out).mono ?_; rintro e w1 ⟨v, rfl, hv, hb⟩; obtain ⟨AA, an, ac, acd, rfl⟩ := hv.open_; rw [HBAD.out]; have H1 := Aside0.mk (below_step H0.out hb); clear hv hb))
    go_ret
    exact ⟨rfl, H1.out⟩
end Go.Proofs.Ythgfodfkjlpegaa
