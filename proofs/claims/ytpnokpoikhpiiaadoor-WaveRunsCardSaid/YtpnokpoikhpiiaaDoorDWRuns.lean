/- WaveRuns. -/
import Derived.Test.YtpnokpoikhpiiaaDoorDWRunW
import Derived.Test.YtpnokpoikhpiiaaDoorWvAwake
import Derived.Deep.CutBlock
namespace Go.Proofs.YtpnokpoikhpiiaaDoor
open Go.RowKit Go.Maps Go.Proofs.YtpnokpoikhpiiaaDoorW.PrintWords Go.Proofs.YtpnokpoikhpiiaaDoorW.PrintLast Go.Proofs.YtpnokpoikhpiiaaDoorW.PrintMore WvSim
set_option linter.unusedVariables false
set_option linter.unusedSimpArgs false
def kOp : Kd (Int × Int) := Kd.pair (Kd.int .i64) (Kd.int .i64)
theorem Op_cell {w : World} {A : Option Addr} {l : List (Int × Int)} (h : kOp.C w A l.length l) {k : Nat} (hk : k < l.length) :
    ∃ ad x y, A = some ad ∧ w.cell? (ad.add (k * 2)) = some (.int .i64 x) ∧ w.cell? ⟨(ad.add (k * 2)).block, (ad.add (k * 2)).off + 1, none⟩ = some (.int .i64 y) := by
  obtain ⟨ad, cs, e1, hM, hK, hc⟩ := Kd.C_get h ((0 : Int), (0 : Int)) (k : Int) (by omega) (by omega)
  obtain ⟨x, y, rfl, hx, hy⟩ := hK
  cases hx
  cases hy
  have e2 : kOp.sz = 2 := rfl
  rw [e2, Int.toNat_natCast] at hc
  have h1 := hc 1 _ rfl
  have e3 : ad.add (k * 2 + 1) = ⟨(ad.add (k * 2)).block, (ad.add (k * 2)).off + 1, none⟩ := by
    unfold Addr.add
    by_cases hk0 : k * 2 = 0
    · simp [hk0]
    · simp [hk0]; omega
  rw [e3] at h1
  exact ⟨ad, _, _, e1, hc 0 _ rfl, h1⟩
set_option maxRecDepth 100000 in
set_option maxHeartbeats 800000 in
theorem waveRuns_calls (w : World) (hg : Laid w) (A0 A1 : Option Addr) (c0 c1 : Nat) (xs : List Int) (ops : List (Int × Int)) (hr : (Kd.int .i64).C w A0 xs.length xs) (hc : xs.length ≤ c0) (ho : kOp.C w A1 ops.length ops) :
    Calls Tryd.prog 3 #[.slice A0 xs.length c0, .slice A1 ops.length c1] w fun e w' => e = .returned (.bool true) ∧ Below w.heap.size w w' := by
  have hm : (xs.length : Int) ≤ 9223372036854775807 := by have := hr.2.1; omega
  have hm2 : (ops.length : Int) ≤ 9223372036854775807 := by have := ho.2.1; omega
  have HR := Lib.hid hr
  have HO := Lib.hid ho
  have HG := Lib.hid hg
  clear hr hg ho
  by_cases hbig : 50 < xs.length
  · have hb : (50 : Int) < xs.length := by omega
    go_enter Tryd.func3, Tryd.ntmps3
    go_wp2_with (go_at_call 5; refine (awake_calls _).mono ?_; rintro e w1 ⟨rfl, hb1⟩; have HB1 := Aside0.mk hb1; clear hb1)
    go_ret
    exact ⟨rfl, HB1.out⟩
  have hb : ¬ (50 : Int) < xs.length := by omega
  by_cases hbig2 : 100 < ops.length
  · have hb2 : (100 : Int) < ops.length := by omega
    clear hbig
    go_enter Tryd.func3, Tryd.ntmps3
    go_wp2_with (go_at_call 5; refine (awake_calls _).mono ?_; rintro e w1 ⟨rfl, hb1⟩; have HB1 := Aside0.mk hb1; clear hb1)
    go_ret
    exact ⟨rfl, HB1.out⟩
  have hb2 : ¬ (100 : Int) < ops.length := by omega
  have HS := Aside0.mk (show (0 + xs.length) * 8 ≤ 140737488355328 by omega)
  have HL8 := Aside0.mk (show xs.length * 8 ≤ 140737488351232 by omega)
  clear hbig hbig2
  by_cases hrise : Rises xs
  · have HX := Lib.hid hrise
    clear hrise
    go_enter Tryd.func3, Tryd.ntmps3
    go_upto_region 6 with (first
      | (go_at_call 6; refine (new_calls _ A2 c2 xs HC2.out HL8.out).mono ?_; intro e w3 hp; obtain ⟨p, rfl, hW, hB⟩ := hp.1 HX.out; obtain ⟨lo, hlo⟩ : ∃ lo, lo = w2.heap.size := ⟨_, rfl⟩; obtain ⟨hi, hhi⟩ : ∃ hi, hi = w3.heap.size := ⟨_, rfl⟩; rw [← hlo, ← hhi] at hW; have HLO := Lib.hid (show w.heap.size ≤ lo by rw [hlo]; exact HB2.out.size); have HLH := Lib.hid (show lo ≤ hi by rw [hlo, hhi]; exact hB.size); have HHI := Lib.hid hhi; have HW3 := Aside0.mk hW; have H3 := Aside0.mk (below_step HB2.out hB); clear hp hW hB hlo hhi)
      | (at_builtin; refine app_rows w1.heap.size rfl _ _ rfl (.slice (some ⟨w1.heap.size, 0, none⟩) 0 0) [] xs A0 xs.length c0 rfl rfl (empty_row w1 _ _ (Nat.le_refl _) trivial _) (Kd.C_alloc (Kd.C_below HR.out HB1.out) _) (by simp) HS.out ?_; intro v2 w2 hr2 hb2; have HB2 := Aside0.mk (below_then HB1.out HB1.out.size ((below_alloc (Below.refl _ _) _).trans hb2)); obtain ⟨A2, c2, rfl, _, hc2⟩ := Kd.R_reads hr2; have HC2 := Aside0.mk (show (Kd.int .i64).C w2 A2 xs.length xs from hc2); clear hr2 hb2 hc2)
      | (go_at_call 5; refine (awake_calls _).mono ?_; rintro e w1 ⟨rfl, hb1⟩; have HB1 := Aside0.mk hb1; clear hb1))
    go_cut [7, 8] (fun s7 s8 wx => ∃ gm, s7 = .pointer (some ⟨gm, 0, none⟩) ∧ s8 = .pointer (some ⟨gm + 1, 0, none⟩) ∧ Aside0 (RunW w lo hi p gm A0 c0 xs ⟨xs, [], [], false⟩ ⟨xs, [], [], false⟩ none none 0 0 .ok wx))
    case first =>
      go_wp2_with (go_at_call 7; refine (refNew_calls _ _ _ xs (Kd.C_below HR.out H3.out)).mono ?_; rintro e w4 ⟨h1, _, hb⟩; obtain rfl := h1 HX.out; have HB4 := Aside0.mk hb; clear h1 hb)
      go_meet
      have hs := HB4.out.size
      have hh := HHI.out
      exact ⟨_, rfl, rfl, ⟨(HW3.out.below HB4.out).alloc _ |>.alloc _, (heap_alloc_old _ _ _ (by simp only [alloc_size]; omega)).trans (heap_alloc_new _ _), Kd.R_nil _ _ _ _ _, Kd.R_nil _ _ _ _ _, heap_alloc_here _ _ _ (by simp only [alloc_size]), below_alloc (below_alloc (below_step H3.out HB4.out) _) _, by omega, by simp only [alloc_size]; omega, HLO.out, by have := HLH.out; omega⟩⟩
    case rest =>
      obtain ⟨gm, rfl, rfl, hh⟩ := hcut
      have HQ := hh
      have he0 : wc.heap[gm + 1]? = some (.cells #[.bool false, .slice none 0 0, .int .i64 0] 35) := hh.out.e
      obtain ⟨⟨q0, q1, q2⟩, _⟩ := E_cells (x := (0, 0)) he0
      clear he0
      go_wp2_with (go_at_call 8; refine (fails_calls _ 0 .ok _ _ (HG.out.below HQ.out.below) rfl rfl).mono ?_; rintro e w5 ⟨rfl, hb⟩; have HW5 := Aside0.mk (HQ.out.step hb); have e5 : w5.heap[gm + 1]? = some (.cells #[.bool false, .slice none 0 0, .int .i64 0] 35) := (HQ.out.step hb).e; obtain ⟨⟨y0, y1, y2⟩, _⟩ := E_cells (x := (0, 0)) e5; clear hb e5)
      clear q0 q1 q2 y0 y1 y2
      go_loopw [6, 52] (fun v6 v52 wr => ∃ (k : Nat) (nd : Nd) (B C : Option Addr) (b c : Nat) (er : Er), v52 = .int .i64 k ∧ k ≤ ops.length ∧ Hid (nd.near = xs ∧ Fine nd ∧ ErV er v6) ∧ Aside0 (RunW w lo hi p gm A0 c0 xs nd nd B C b c er wr)) (fun _ v _ => ops.length - (intOf v).toNat)
      case atStart => exact ⟨0, ⟨xs, [], [], false⟩, none, none, 0, 0, .ok, rfl, Nat.zero_le _, ⟨rfl, HX.out.fine, rfl⟩, HW5⟩
      case round =>
        obtain ⟨k, nd, B, C, b, c, er, rfl, hk, hf, HRW⟩ := hrel
        clear HQ hh HW5
        by_cases hlt : k < ops.length
        · obtain ⟨ad, kind, from_, rfl, hcell0, hcell1⟩ := Op_cell (Kd.C_below HO.out HRW.out.below) hlt
          have k0 : (0 : Int) ≤ k := by omega
          have k1 : (k : Int) < ops.length := by omega
          have HLT := Lib.hid hlt
          clear hlt
          go_upto_block 2 with fail
          obtain ⟨near, heard, told, bg⟩ := nd
          obtain ⟨hnx, hF, hEv⟩ := hf.out
          have hnx' : near = xs := hnx
          subst hnx'
          have HF := Lib.hid hF
          have HEV := Lib.hid hEv
          obtain ⟨V, hV⟩ : ∃ V : World, V = wr.alloc (.cells #[.int .i64 kind, .int .i64 from_] 40) := ⟨_, rfl⟩
          rw [← hV]
          have HV := Aside0.mk (HRW.out.step (show Below wr.heap.size wr V by rw [hV]; exact below_alloc (Below.refl _ _) _))
          have hop0 : V.heap[wr.heap.size]? = some (.cells #[.int .i64 kind, .int .i64 from_] 40) := by rw [hV]; exact heap_alloc_new _ _
          have HOP := Aside0.mk hop0
          have HWR := Lib.hid (show hi ≤ wr.heap.size by have := HRW.out.h1; have := HRW.out.h2; omega)
          have hm0 : V.heap[gm]? = some (.cells #[.slice A0 near.length c0, .slice B heard.length b, .slice C told.length c, .bool bg] 31) := HV.out.m
          obtain ⟨⟨m0, m1, m2, m3⟩, _⟩ := M_cells hm0
          have o0 : V.cell? ⟨wr.heap.size, 0, none⟩ = some (.int .i64 kind) := by unfold World.cell?; rw [hop0]; rfl
          have o1 : V.cell? ⟨wr.heap.size, 1, none⟩ = some (.int .i64 from_) := by unfold World.cell?; rw [hop0]; rfl
          clear hV hop0 hm0 hnx hF hEv hf HRW hcell0 hcell1 HLT
          go_cut [6, 11, 12] (fun s6 s11 s12 wx => Aside0 (RunQ w lo hi p gm A0 c0 near s6 s11 s12 wx))
          case first =>
            by_cases e0 : kind = 0
            · have b0 : (kind == 0) = true := beq_iff_eq.2 e0
              clear e0
              cases bg with
              | true =>
                go_wp2_with (first
                  | (go_at_call 10; refine (refBegin_again _ A0 B C near.length heard.length told.length c0 b c).mono ?_; rintro e w2 ⟨rfl, hb⟩; have HW2 := Aside0.mk (HV.out.step hb); have hm2' : w2.heap[gm]? = some (.cells #[.slice A0 near.length c0, .slice B heard.length b, .slice C told.length c, .bool true] 31) := HW2.out.m; obtain ⟨⟨n0, n1, n2, n3⟩, n4, n5, n6, n7⟩ := M_cells hm2'; obtain ⟨⟨z0, z1, z2⟩, z3, z4, z5⟩ := E_cells (x := (0, 0)) (put_both hm2' HW2.out.e (by omega) (.slice A0 near.length c0) (.slice B heard.length b) (.slice C told.length c) (.bool true)); clear hb hm2')
                  | (go_at_call 9; refine (begin_again _ lo hi p ⟨near, heard, told, true⟩ HV.out.wave rfl).mono ?_; rintro e w1 ⟨rfl, rfl⟩))
                go_meet
                exact ⟨⟨near, heard, told, true⟩, B, C, b, c, .num 21, [], none, none, 0, 0, rfl, HF.out, HW2.out.put (nd2' := ⟨near, heard, told, true⟩) (er' := .num 21) HW2.out.rb HW2.out.rc, rfl, rfl, rfl, C_none _, C_none _⟩
              | false =>
                obtain ⟨T, hT⟩ : ∃ T, T = tells near heard told true := ⟨_, rfl⟩
                obtain ⟨L, hL⟩ : ∃ L, L = told ++ tells near heard told true := ⟨_, rfl⟩
                have HT := Lib.hid hT
                have HL := Lib.hid hL
                clear hT hL
                go_wp2_with (first
                  | (go_at_call 10; refine (refBegin_calls _ ⟨near, heard, told, false⟩ HF.out A0 B C c0 b c (Kd.C_below HR.out HW1.out.below) (Kd.R_reads' HW1.out.rb).2.2 (Kd.R_reads' HW1.out.rc).2.2).mono ?_; intro e w2 hh; try simp only [] at hh; rw [← HL.out, ← HT.out] at hh; obtain ⟨A3, k3, A4, k4, rfl, r1, r2, hb⟩ := hh; have HW2 := Aside0.mk (HW1.out.step hb); have R1 := Aside0.mk (Kd.R_lower (base' := gm + 2) r1 HW1.out.h2); have HCb := Aside0.mk (Kd.R_reads' (R_put7 (Kd.R_lower (base' := gm + 2) r2 HW1.out.h2) (show gm < gm + 2 by omega) (show gm + 1 < gm + 2 by omega) (.slice A0 near.length c0) (.slice B heard.length b) (.slice A3 L.length k3) (.bool true) (.bool false) (.slice none 0 0) (.int .i64 0))).2.2; have HCa2 := Aside0.mk (Kd.R_reads' (R_put7 (Kd.R_below HRa.out hb) (show gm < gm + 2 by omega) (show gm + 1 < gm + 2 by omega) (.slice A0 near.length c0) (.slice B heard.length b) (.slice A3 L.length k3) (.bool true) (.bool false) (.slice none 0 0) (.int .i64 0))).2.2; have hm2' : w2.heap[gm]? = some (.cells #[.slice A0 near.length c0, .slice B heard.length b, .slice C told.length c, .bool false] 31) := HW2.out.m; obtain ⟨⟨n0, n1, n2, n3⟩, n4, n5, n6, n7⟩ := M_cells hm2'; obtain ⟨⟨z0, z1, z2⟩, z3, z4, z5⟩ := E_cells (x := (0, 0)) (put_both hm2' HW2.out.e (by omega) (.slice A0 near.length c0) (.slice B heard.length b) (.slice A3 L.length k3) (.bool true)); clear hb hm2' r1 r2)
                  | (go_at_call 9; refine (begin_calls _ lo hi p ⟨near, heard, told, false⟩ HF.out HV.out.wave rfl).mono ?_; rintro e w1 ⟨v1, rfl, hv, hw, hb, hk⟩; have hv' : (Kd.int .i64).R 3 w1 V.heap.size (fun _ => True) v1 T := (by rw [HT.out]; exact hv); have hw' : IsWave w1 lo hi ⟨near, heard, L, true⟩ p := (by rw [HL.out]; exact hw); obtain ⟨Aa, ca, rfl, _, _⟩ := Kd.R_reads hv'; have HRa := Aside0.mk (Kd.R_lower (base' := gm + 2) hv' HV.out.h2); have HW1 := Aside0.mk (HV.out.kept hw' hb hk); clear hv' hw'; have hm1' : w1.heap[gm]? = some (.cells #[.slice A0 near.length c0, .slice B heard.length b, .slice C told.length c, .bool false] 31) := HW1.out.m; obtain ⟨⟨m0, m1, m2, m3⟩, _⟩ := M_cells hm1'; clear hv hw hb hk hm1'))
                go_meet
                exact ⟨⟨near, heard, L, true⟩, B, A3, b, k3, .ok, T, Aa, A4, ca, k4, rfl, by rw [HL.out]; exact HF.out.begun.tell, HW2.out.put (nd2' := ⟨near, heard, L, true⟩) (er' := .ok) HW2.out.rb R1.out, rfl, rfl, rfl, HCa2.out, HCb.out⟩
            · have b0 : (kind == 0) = false := beq_eq_false_iff_ne.2 e0
              by_cases e1 : kind = 1
              · have b1 : (kind == 1) = true := beq_iff_eq.2 e1
                clear e0 e1
                by_cases hn : from_ ∈ near
                · have d1 : decide (from_ ∈ near) = true := decide_eq_true hn
                  by_cases hh0 : from_ ∈ heard
                  · have d2 : decide (from_ ∈ heard) = true := decide_eq_true hh0
                    have HNm := Lib.hid hh0
                    clear hn hh0
                    go_wp2_with (first
                      | (go_at_call 12; refine (refHear_again _ ⟨near, heard, told, bg⟩ from_ d1 d2 A0 B C c0 b c bg (Kd.C_below HR.out HV.out.below) (Kd.R_reads' HV.out.rb).2.2).mono ?_; rintro e w2 ⟨rfl, hb⟩; have HW2 := Aside0.mk (HV.out.step hb); have hm2' : w2.heap[gm]? = some (.cells #[.slice A0 near.length c0, .slice B heard.length b, .slice C told.length c, .bool bg] 31) := HW2.out.m; obtain ⟨⟨n0, n1, n2, n3⟩, n4, n5, n6, n7⟩ := M_cells hm2'; obtain ⟨⟨z0, z1, z2⟩, z3, z4, z5⟩ := E_cells (x := (0, 0)) (put_both hm2' HW2.out.e (by omega) (.slice A0 near.length c0) (.slice B heard.length b) (.slice C told.length c) (.bool bg)); clear hb hm2')
                      | (go_at_call 11; refine (hear_again _ lo hi p ⟨near, heard, told, bg⟩ from_ HF.out HV.out.wave HNm.out).mono ?_; rintro e w1 ⟨rfl, rfl⟩))
                    go_meet
                    exact ⟨⟨near, heard, told, bg⟩, B, C, b, c, .num 9, [], none, none, 0, 0, rfl, HF.out, HW2.out.put (nd2' := ⟨near, heard, told, bg⟩) (er' := .num 9) HW2.out.rb HW2.out.rc, rfl, rfl, rfl, C_none _, C_none _⟩
                  · have HN1 := Lib.hid hn
                    have HN2 := Lib.hid hh0
                    obtain ⟨LH, hLH⟩ : ∃ LH, LH = heard ++ [from_] := ⟨_, rfl⟩
                    obtain ⟨T, hT⟩ : ∃ T, T = tells near (heard ++ [from_]) told bg := ⟨_, rfl⟩
                    obtain ⟨L, hL⟩ : ∃ L, L = told ++ tells near (heard ++ [from_]) told bg := ⟨_, rfl⟩
                    have HT := Lib.hid hT
                    have HL := Lib.hid hL
                    have HLH := Lib.hid hLH
                    clear hn hh0 hT hL hLH d1
                    go_wp2_with (first
                      | (go_at_call 12; refine (refHear_calls _ ⟨near, heard, told, bg⟩ from_ HF.out HN1.out HN2.out A0 B C c0 b c (Kd.C_below HR.out HW1.out.below) (Kd.R_reads' HW1.out.rb).2.2 (Kd.R_reads' HW1.out.rc).2.2).mono ?_; intro e w2 hh; try simp only [] at hh; rw [← HL.out, ← HT.out, ← HLH.out] at hh; obtain ⟨A3, k3, A4, k4, A5, k5, rfl, r3, r1, r2, hb⟩ := hh; have HW2 := Aside0.mk (HW1.out.step hb); have R3 := Aside0.mk (Kd.R_lower (base' := gm + 2) r3 HW1.out.h2); have R1 := Aside0.mk (Kd.R_lower (base' := gm + 2) r1 HW1.out.h2); have HCb := Aside0.mk (Kd.R_reads' (R_put7 (Kd.R_lower (base' := gm + 2) r2 HW1.out.h2) (show gm < gm + 2 by omega) (show gm + 1 < gm + 2 by omega) (.slice A0 near.length c0) (.slice A3 LH.length k3) (.slice A4 L.length k4) (.bool bg) (.bool false) (.slice none 0 0) (.int .i64 0))).2.2; have HCa2 := Aside0.mk (Kd.R_reads' (R_put7 (Kd.R_below HRa.out hb) (show gm < gm + 2 by omega) (show gm + 1 < gm + 2 by omega) (.slice A0 near.length c0) (.slice A3 LH.length k3) (.slice A4 L.length k4) (.bool bg) (.bool false) (.slice none 0 0) (.int .i64 0))).2.2; have hm2' : w2.heap[gm]? = some (.cells #[.slice A0 near.length c0, .slice B heard.length b, .slice C told.length c, .bool bg] 31) := HW2.out.m; obtain ⟨⟨n0, n1, n2, n3⟩, n4, n5, n6, n7⟩ := M_cells hm2'; obtain ⟨⟨z0, z1, z2⟩, z3, z4, z5⟩ := E_cells (x := (0, 0)) (put_both hm2' HW2.out.e (by omega) (.slice A0 near.length c0) (.slice A3 LH.length k3) (.slice A4 L.length k4) (.bool bg)); clear hb hm2' r1 r2 r3)
                      | (go_at_call 11; refine (hear_calls _ lo hi p ⟨near, heard, told, bg⟩ from_ HF.out HV.out.wave HN1.out HN2.out).mono ?_; rintro e w1 ⟨v1, rfl, hv, hw, hb, hk⟩; have hv' : (Kd.int .i64).R 3 w1 V.heap.size (fun _ => True) v1 T := (by rw [HT.out]; exact hv); have hw' : IsWave w1 lo hi ⟨near, LH, L, bg⟩ p := (by rw [HL.out, HLH.out]; exact hw); obtain ⟨Aa, ca, rfl, _, _⟩ := Kd.R_reads hv'; have HRa := Aside0.mk (Kd.R_lower (base' := gm + 2) hv' HV.out.h2); have HW1 := Aside0.mk (HV.out.kept hw' hb hk); have hm1' : w1.heap[gm]? = some (.cells #[.slice A0 near.length c0, .slice B heard.length b, .slice C told.length c, .bool bg] 31) := HW1.out.m; obtain ⟨⟨m0, m1, m2, m3⟩, _⟩ := M_cells hm1'; have hop1 := (hk.2 _ (blk_lt HOP.out) (fun hin => by have := hin.2; have := HWR.out; omega)).trans HOP.out; have p1 : w1.cell? ⟨wr.heap.size, 1, none⟩ = some (.int .i64 from_) := (by unfold World.cell?; rw [hop1]; rfl); clear hv hw hb hk hm1' hv' hw' hop1))
                    go_meet
                    exact ⟨⟨near, LH, L, bg⟩, A3, A4, k3, k4, .ok, T, Aa, A5, ca, k5, rfl, by rw [HL.out, HLH.out]; exact (HF.out.hear HN1.out HN2.out).tell, HW2.out.put (nd2' := ⟨near, LH, L, bg⟩) (er' := .ok) R3.out R1.out, rfl, rfl, rfl, HCa2.out, HCb.out⟩
                · have d1 : decide (from_ ∈ near) = false := decide_eq_false hn
                  have HNm := Lib.hid hn
                  clear hn
                  go_wp2_with (first
                    | (go_at_call 12; refine (refHear_none _ ⟨near, heard, told, bg⟩ from_ d1 A0 B C c0 b c bg (Kd.C_below HR.out HV.out.below) (Kd.R_reads' HV.out.rb).2.2).mono ?_; rintro e w2 ⟨rfl, hb⟩; have HW2 := Aside0.mk (HV.out.step hb); have hm2' : w2.heap[gm]? = some (.cells #[.slice A0 near.length c0, .slice B heard.length b, .slice C told.length c, .bool bg] 31) := HW2.out.m; obtain ⟨⟨n0, n1, n2, n3⟩, n4, n5, n6, n7⟩ := M_cells hm2'; obtain ⟨⟨z0, z1, z2⟩, z3, z4, z5⟩ := E_cells (x := (0, 0)) (put_both hm2' HW2.out.e (by omega) (.slice A0 near.length c0) (.slice B heard.length b) (.slice C told.length c) (.bool bg)); clear hb hm2')
                    | (go_at_call 11; refine (hear_none _ lo hi p ⟨near, heard, told, bg⟩ from_ HV.out.wave HNm.out).mono ?_; rintro e w1 ⟨rfl, rfl⟩))
                  go_meet
                  exact ⟨⟨near, heard, told, bg⟩, B, C, b, c, .num 12, [], none, none, 0, 0, rfl, HF.out, HW2.out.put (nd2' := ⟨near, heard, told, bg⟩) (er' := .num 12) HW2.out.rb HW2.out.rc, rfl, rfl, rfl, C_none _, C_none _⟩
              · have b1 : (kind == 1) = false := beq_eq_false_iff_ne.2 e1
                clear e0 e1
                go_wp2
                go_meet
                exact ⟨⟨near, heard, told, bg⟩, B, C, b, c, er, [], none, none, 0, 0, rfl, HF.out, HV.out, HEV.out, rfl, rfl, C_none _, C_none _⟩
          case rest =>
            obtain ⟨⟨nr, heard2, told2, bg2⟩, B2, C2, b2, c2', er, T, Aa, Ab, ca, cb, hnx, hF, hRW, hEv, rfl, rfl, hCa, hCb⟩ := hcut.out
            have hnx' : nr = near := hnx
            subst hnx'
            have HF2 := Lib.hid hF
            have HEV := Lib.hid hEv
            have HRQ := Aside0.mk hRW
            have HCa := Aside0.mk hCa
            have HCb := Aside0.mk hCb
            have HM := Aside0.mk (show wc.heap[gm]? = some (.cells #[.slice A0 nr.length c0, .slice B2 heard2.length b2, .slice C2 told2.length c2', .bool bg2] 31) from hRW.m)
            obtain ⟨D, hD⟩ : ∃ D : Bool, D = (bg2 && heard2.length == nr.length) := ⟨_, rfl⟩
            have HD := Lib.hid hD
            clear hcut hnx hF hRW hEv hCa hCb hD m0 m1 m2 m3 o0 o1 HV HOP
            go_wp2
            refine wp_region_noPanic ?_
            refine wp_region_held_drew (S := fun W => Below wc.heap.size wc W) (by kernel_rfl) ((Below.refl _ _).drew) (fun hHeld => ?_)
            refine wpAnyH_take (i := 0) (v := ?_) rfl (by kernel_rfl) (by kernel_rfl) (by kernel_rfl) (fun _ _ _ h => h) (Or.inl ⟨by rfl, ?_⟩) (by assumption) ?_
            rotate_left 1
            · first | (intro w hSw; go_simp; done) | (intro w hSw; go_simp; with_reducible rfl)
            try simp only [Act.put, List.getElem_toArray, List.getElem_cons_zero, List.getElem_cons_succ, List.setIfInBounds_toArray, List.set_cons_zero, List.set_cons_succ]
            refine wpAnyH_take (i := 1) (v := ?_) rfl (by kernel_rfl) (by kernel_rfl) (by kernel_rfl) (fun _ _ _ h => h) (Or.inl ⟨by rfl, ?_⟩) (by assumption) ?_
            rotate_left 1
            · first | (intro w hSw; go_simp; done) | (intro w hSw; go_simp; with_reducible rfl)
            try simp only [Act.put, List.getElem_toArray, List.getElem_cons_zero, List.getElem_cons_succ, List.setIfInBounds_toArray, List.set_cons_zero, List.set_cons_succ]
            refine wpAnyH_ready (rs := [2]) (by kernel_rfl) (by simp) ?_
            refine AllReadyH.cons rfl (fun K hK => ?_) AllReadyH.nil
            go_simp
            refine (ints_calls _ Aa ca T Ab cb T (Kd.C_below HCa.out hHeld) (Kd.C_below HCb.out hHeld)).mono ?_; rintro e w1 ⟨rfl, ⟨⟨m1, rfl⟩⟩⟩; rw [show decide (T = T) = true by simp]
            go_simp
            refine hK.out _ _ (pw_below_drewN (Below.refl _ _) _) (fun hHeld => ?_)
            clear hK K
            try simp only [Act.put, List.getElem_toArray, List.getElem_cons_zero, List.getElem_cons_succ, List.setIfInBounds_toArray, List.set_cons_zero, List.set_cons_succ]
            refine wpAnyH_take (i := 3) (v := ?_) rfl (by kernel_rfl) (by kernel_rfl) (by kernel_rfl) (fun _ _ _ h => h) (Or.inl ⟨by rfl, ?_⟩) (by assumption) ?_
            rotate_left 1
            · first | (intro w hSw; go_simp; done) | (intro w hSw; go_simp; with_reducible rfl)
            try simp only [Act.put, List.getElem_toArray, List.getElem_cons_zero, List.getElem_cons_succ, List.setIfInBounds_toArray, List.set_cons_zero, List.set_cons_succ]
            refine wpAnyH_take (i := 4) (v := ?_) rfl (by kernel_rfl) (by kernel_rfl) (by kernel_rfl) (fun _ _ _ h => h) (Or.inl ⟨by rfl, ?_⟩) (by assumption) ?_
            rotate_left 1
            · first | (intro w hSw; go_simp; done) | (intro w hSw; go_simp; with_reducible rfl)
            try simp only [Act.put, List.getElem_toArray, List.getElem_cons_zero, List.getElem_cons_succ, List.setIfInBounds_toArray, List.set_cons_zero, List.set_cons_succ]
            refine wpAnyH_take (i := 5) (v := ?_) rfl (by kernel_rfl) (by kernel_rfl) (by kernel_rfl) (fun _ _ _ h => h) (Or.inl ⟨by rfl, ?_⟩) (by assumption) ?_
            rotate_left 1
            · first | (intro w hSw; go_simp; done) | (intro w hSw; go_simp; with_reducible rfl)
            try simp only [Act.put, List.getElem_toArray, List.getElem_cons_zero, List.getElem_cons_succ, List.setIfInBounds_toArray, List.set_cons_zero, List.set_cons_succ]
            refine wpAnyH_take (i := 6) (v := ?_) rfl (by kernel_rfl) (by kernel_rfl) (by kernel_rfl) (fun _ _ _ h => h) (Or.inl ⟨by rfl, ?_⟩) (by assumption) ?_
            rotate_left 1
            · first | (intro w hSw; obtain ⟨⟨q0, q1, q2⟩, _⟩ := E_cells (x := (0, 0)) ((hSw.block _ (blk_lt HRQ.out.e)).trans HRQ.out.e); go_simp; done) | (intro w hSw; obtain ⟨⟨q0, q1, q2⟩, _⟩ := E_cells (x := (0, 0)) ((hSw.block _ (blk_lt HRQ.out.e)).trans HRQ.out.e); go_simp; with_reducible rfl)
            try simp only [Act.put, List.getElem_toArray, List.getElem_cons_zero, List.getElem_cons_succ, List.setIfInBounds_toArray, List.set_cons_zero, List.set_cons_succ]
            refine wpAnyH_ready (rs := [7]) (by kernel_rfl) (by simp) ?_
            refine AllReadyH.cons rfl (fun K hK => ?_) AllReadyH.nil
            go_simp
            refine (fails_calls _ 0 er _ _ (HG.out.below (below_step HRQ.out.below hHeld)) (HEV.out.isEr _ _) (HEV.out.isE _)).mono ?_; rintro e w2 ⟨rfl, hb⟩; have hH2 := below_step hHeld hb; clear hb
            go_simp
            refine hK.out _ _ hH2 (fun hHeld => ?_)
            clear hK K
            try simp only [Act.put, List.getElem_toArray, List.getElem_cons_zero, List.getElem_cons_succ, List.setIfInBounds_toArray, List.set_cons_zero, List.set_cons_succ]
            refine wpAnyH_take (i := 8) (v := ?_) rfl (by kernel_rfl) (by kernel_rfl) (by kernel_rfl) (fun _ _ _ h => h) (Or.inl ⟨by rfl, ?_⟩) (by assumption) ?_
            rotate_left 1
            · first | (intro w hSw; go_simp; done) | (intro w hSw; go_simp; with_reducible rfl)
            try simp only [Act.put, List.getElem_toArray, List.getElem_cons_zero, List.getElem_cons_succ, List.setIfInBounds_toArray, List.set_cons_zero, List.set_cons_succ]
            refine wpAnyH_take (i := 9) (v := ?_) rfl (by kernel_rfl) (by kernel_rfl) (by kernel_rfl) (fun _ _ _ h => h) (Or.inl ⟨by rfl, ?_⟩) (by assumption) ?_
            rotate_left 1
            · first | (intro w hSw; go_simp; done) | (intro w hSw; go_simp; with_reducible rfl)
            try simp only [Act.put, List.getElem_toArray, List.getElem_cons_zero, List.getElem_cons_succ, List.setIfInBounds_toArray, List.set_cons_zero, List.set_cons_succ]
            refine wpAnyH_take (i := 10) (v := ?_) rfl (by kernel_rfl) (by kernel_rfl) (by kernel_rfl) (fun _ _ _ h => h) (Or.inl ⟨by rfl, ?_⟩) (by assumption) ?_
            rotate_left 1
            · first | (intro w hSw; go_simp; done) | (intro w hSw; go_simp; with_reducible rfl)
            try simp only [Act.put, List.getElem_toArray, List.getElem_cons_zero, List.getElem_cons_succ, List.setIfInBounds_toArray, List.set_cons_zero, List.set_cons_succ]
            refine wpAnyH_take (i := 11) (v := ?_) rfl (by kernel_rfl) (by kernel_rfl) (by kernel_rfl) (fun _ _ _ h => h) (Or.inl ⟨by rfl, ?_⟩) (by assumption) ?_
            rotate_left 1
            · first | (intro w hSw; go_simp; done) | (intro w hSw; go_simp; with_reducible rfl)
            try simp only [Act.put, List.getElem_toArray, List.getElem_cons_zero, List.getElem_cons_succ, List.setIfInBounds_toArray, List.set_cons_zero, List.set_cons_succ]
            refine wpAnyH_take (i := 13) (v := ?_) rfl (by kernel_rfl) (by kernel_rfl) (by kernel_rfl) (fun _ _ _ h => h) (Or.inl ⟨by rfl, ?_⟩) (by assumption) ?_
            rotate_left 1
            · first | (intro w hSw; obtain ⟨⟨q0, q1, q2, q3⟩, _⟩ := M_cells ((hSw.block _ (blk_lt HM.out)).trans HM.out); go_simp; done) | (intro w hSw; obtain ⟨⟨q0, q1, q2, q3⟩, _⟩ := M_cells ((hSw.block _ (blk_lt HM.out)).trans HM.out); go_simp; with_reducible rfl)
            try simp only [Act.put, List.getElem_toArray, List.getElem_cons_zero, List.getElem_cons_succ, List.setIfInBounds_toArray, List.set_cons_zero, List.set_cons_succ]
            refine wpAnyH_ready (rs := [12]) (by kernel_rfl) (by simp) ?_
            refine AllReadyH.cons rfl (fun K hK => ?_) AllReadyH.nil
            go_simp
            refine (done_calls _ lo hi p ⟨nr, heard2, told2, bg2⟩ HF2.out (HRQ.out.wave.below hHeld)).mono ?_; rintro e w3 ⟨rfl, ⟨⟨m3, rfl⟩⟩⟩; rw [show ((⟨nr, heard2, told2, bg2⟩ : Nd).bg && (⟨nr, heard2, told2, bg2⟩ : Nd).heard.length == (⟨nr, heard2, told2, bg2⟩ : Nd).near.length) = D from HD.out.symm]; have hH3 := pw_below_drewN hHeld m3
            go_simp
            refine hK.out _ _ hH3 (fun hHeld => ?_)
            clear hK K
            try simp only [Act.put, List.getElem_toArray, List.getElem_cons_zero, List.getElem_cons_succ, List.setIfInBounds_toArray, List.set_cons_zero, List.set_cons_succ]
            refine wpAnyH_ready (rs := [14]) (by kernel_rfl) (by simp) ?_
            refine AllReadyH.cons rfl (fun K hK => ?_) AllReadyH.nil
            go_simp
            refine (refDone_calls _ ⟨nr, heard2, told2, bg2⟩ HF2.out _ ⟨A0, c0, B2, b2, C2, c2', rfl, Kd.C_below (Kd.C_below HR.out HRQ.out.below) hHeld, Kd.C_below (Kd.R_reads' HRQ.out.rb).2.2 hHeld, Kd.C_below (Kd.R_reads' HRQ.out.rc).2.2 hHeld⟩).mono ?_; rintro e w4 ⟨rfl, hb⟩; rw [show ((⟨nr, heard2, told2, bg2⟩ : Nd).bg && (⟨nr, heard2, told2, bg2⟩ : Nd).heard.length == (⟨nr, heard2, told2, bg2⟩ : Nd).near.length) = D from HD.out.symm]; have hH4 := below_step hHeld hb; clear hb
            go_simp
            refine hK.out _ _ hH4 (fun hHeld => ?_)
            clear hK K
            try simp only [Act.put, List.getElem_toArray, List.getElem_cons_zero, List.getElem_cons_succ, List.setIfInBounds_toArray, List.set_cons_zero, List.set_cons_succ]
            refine wpAnyH_take (i := 15) (v := ?_) rfl (by kernel_rfl) (by kernel_rfl) (by kernel_rfl) (fun _ _ _ h => h) (Or.inl ⟨by rfl, ?_⟩) (by assumption) ?_
            rotate_left 1
            · first | (intro w hSw; go_simp; done) | (intro w hSw; go_simp; with_reducible rfl)
            try simp only [Act.put, List.getElem_toArray, List.getElem_cons_zero, List.getElem_cons_succ, List.setIfInBounds_toArray, List.set_cons_zero, List.set_cons_succ]
            refine wpAnyH_take (i := 16) (v := ?_) rfl (by kernel_rfl) (by kernel_rfl) (by kernel_rfl) (fun _ _ _ h => h) (Or.inl ⟨by rfl, ?_⟩) (by assumption) ?_
            rotate_left 1
            · first | (intro w hSw; go_simp; done) | (intro w hSw; go_simp; with_reducible rfl)
            try simp only [Act.put, List.getElem_toArray, List.getElem_cons_zero, List.getElem_cons_succ, List.setIfInBounds_toArray, List.set_cons_zero, List.set_cons_succ]
            refine wpAnyH_done (by kernel_rfl) ?_ _
            refine NoPanic.normal ?_
            go_wp2
            go_roundw
            case rel => exact ⟨k + 1, ⟨nr, heard2, told2, bg2⟩, B2, C2, b2, c2', er, by go_num, by omega, ⟨rfl, HF2.out, HEV.out⟩, ⟨HRQ.out.step hHeld⟩⟩
            case measure => simp [intOf]; omega
        · have k1 : ¬ (k : Int) < ops.length := by omega
          clear hlt
          go_wp2
          go_ret
          exact ⟨rfl, HRW.out.below⟩
  · have HX := Lib.hid hrise
    clear hrise
    go_enter Tryd.func3, Tryd.ntmps3
    go_wp2_with (first
      | (go_at_call 8; refine (fails_calls _ 0 (.num 1) _ _ (HG.out.below H5.out) rfl rfl).mono ?_; rintro e w6 ⟨rfl, hb⟩; have H6 := Aside0.mk (below_step H5.out hb); clear hb)
      | (go_at_call 8; refine (fails_calls _ 0 (.num 1) _ _ (HG.out.below (below_alloc (below_alloc H4.out _) _)) rfl rfl).mono ?_; rintro e w5 ⟨rfl, hb⟩; have H5 := Aside0.mk (below_step (below_alloc (below_alloc H4.out _) _) hb); have hz := (hb.block (w4.heap.size + 1) (by simp)).trans (heap_alloc_here _ _ _ (by simp)); obtain ⟨⟨q0, q1, q2⟩, _, _, _⟩ := E_cells (x := (0, 0)) hz; clear hb hz)
      | (go_at_call 7; refine (refNew_calls _ _ _ xs (Kd.C_below HR.out HB2.out)).mono ?_; rintro e w4 ⟨_, h1, hb⟩; obtain rfl := h1 HX.out; have H4 := Aside0.mk (below_step HB2.out hb); clear h1 hb)
      | (go_at_call 6; refine (new_calls _ A2 c2 xs HC2.out HL8.out).mono ?_; intro e w3 hp; obtain ⟨rfl, rfl⟩ := hp.2 HX.out; clear hp)
      | (at_builtin; refine app_rows w1.heap.size rfl _ _ rfl (.slice (some ⟨w1.heap.size, 0, none⟩) 0 0) [] xs A0 xs.length c0 rfl rfl (empty_row w1 _ _ (Nat.le_refl _) trivial _) (Kd.C_alloc (Kd.C_below HR.out HB1.out) _) (by simp) HS.out ?_; intro v2 w2 hr2 hb2; have HB2 := Aside0.mk (below_then HB1.out HB1.out.size ((below_alloc (Below.refl _ _) _).trans hb2)); obtain ⟨A2, c2, rfl, _, hc2⟩ := Kd.R_reads hr2; have HC2 := Aside0.mk (show (Kd.int .i64).C w2 A2 xs.length xs from hc2); clear hr2 hb2 hc2)
      | (go_at_call 5; refine (awake_calls _).mono ?_; rintro e w1 ⟨rfl, hb1⟩; have HB1 := Aside0.mk hb1; clear hb1))
    go_ret
    exact ⟨rfl, H6.out⟩
end Go.Proofs.YtpnokpoikhpiiaaDoor
