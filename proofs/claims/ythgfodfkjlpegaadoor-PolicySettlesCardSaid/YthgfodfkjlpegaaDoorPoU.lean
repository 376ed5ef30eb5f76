/- The reference's Pick. -/
import Derived.Test.YthgfodfkjlpegaaDoorPoT
namespace Go.Proofs.YthgfodfkjlpegaaDoor
open Go.RowKit Go.Proofs.YthgfodfkjlpegaaDoorW.PrintWords Go.Proofs.YthgfodfkjlpegaaDoorW.PrintLast Go.Proofs.YthgfodfkjlpegaaDoorW.PrintMore
set_option linter.unusedVariables false
set_option linter.unusedSimpArgs false
def FMax (S : List Int) (k h : Nat) : Prop := h < S.length ∧ (∀ i, i < k → rd S i ≤ rd S h) ∧ (∀ i, i < h → rd S i < rd S h)
def FMin (S : List Int) (k h : Nat) : Prop := h < S.length ∧ (∀ i, i < k → rd S h ≤ rd S i) ∧ (∀ i, i < h → rd S h < rd S i)
theorem FMax.up {S : List Int} {k h : Nat} (H : FMax S k h) (hk : k < S.length) (hg : rd S h < rd S k) : FMax S (k + 1) k := by
  refine ⟨hk, fun i hi => ?_, fun i hi => ?_⟩
  · by_cases e : i = k
    · subst e; omega
    · have := H.2.1 i (by omega); omega
  · have := H.2.1 i hi; omega
theorem FMax.stay {S : List Int} {k h : Nat} (H : FMax S k h) (hg : ¬ rd S h < rd S k) : FMax S (k + 1) h := by
  refine ⟨H.1, fun i hi => ?_, H.2.2⟩
  by_cases e : i = k
  · subst e; omega
  · exact H.2.1 i (by omega)
theorem FMin.up {S : List Int} {k h : Nat} (H : FMin S k h) (hk : k < S.length) (hg : rd S k < rd S h) : FMin S (k + 1) k := by
  refine ⟨hk, fun i hi => ?_, fun i hi => ?_⟩
  · by_cases e : i = k
    · subst e; omega
    · have := H.2.1 i (by omega); omega
  · have := H.2.1 i hi; omega
theorem FMin.stay {S : List Int} {k h : Nat} (H : FMin S k h) (hg : ¬ rd S k < rd S h) : FMin S (k + 1) h := by
  refine ⟨H.1, fun i hi => ?_, H.2.2⟩
  by_cases e : i = k
  · subst e; omega
  · exact H.2.1 i (by omega)
theorem idx_first {S : List Int} {h : Nat} (hh : h < S.length) (hf : ∀ i, i < h → rd S i ≠ rd S h) : S.idxOf (rd S h) = h := by
  have hm := rd_mem S h hh
  have hl := List.idxOf_lt_length_of_mem hm
  have e : rd S (S.idxOf (rd S h)) = rd S h := by
    rw [rd_get _ _ hl]
    exact List.getElem_idxOf hl
  have h1 : ¬ S.idxOf (rd S h) < h := fun hx => hf _ hx e
  have h2 : S.idxOf (rd S h) ≤ h := by
    rw [rd_get S h hh]
    by_cases hx : h < S.idxOf S[h]
    · have := List.not_of_lt_findIdx (p := (· == S[h])) (xs := S) (i := h) hx
      simp at this
    · omega
  omega
theorem FMax.done {S : List Int} {h : Nat} (H : FMax S S.length h) : hiOf S = rd S h ∧ S.idxOf (hiOf S) = h := by
  have hne : S ≠ [] := by intro e; have := H.1; rw [e] at this; simp at this
  have hm : IsMax S (rd S h) := ⟨rd_mem _ _ H.1, fun y hy => by
    obtain ⟨i, hi, rfl⟩ := List.getElem_of_mem hy
    rw [← rd_get S i hi]
    exact H.2.1 i hi⟩
  have e := max_one (hiOf_is hne) hm
  refine ⟨e, ?_⟩
  rw [e]
  exact idx_first H.1 (fun i hi => by have := H.2.2 i hi; omega)
theorem FMin.done {S : List Int} {h : Nat} (H : FMin S S.length h) : loOf S = rd S h ∧ S.idxOf (loOf S) = h := by
  have hne : S ≠ [] := by intro e; have := H.1; rw [e] at this; simp at this
  have hm : IsMin S (rd S h) := ⟨rd_mem _ _ H.1, fun y hy => by
    obtain ⟨i, hi, rfl⟩ := List.getElem_of_mem hy
    rw [← rd_get S i hi]
    exact H.2.1 i hi⟩
  have e := min_one (loOf_is hne) hm
  refine ⟨e, ?_⟩
  rw [e]
  exact idx_first H.1 (fun i hi => by have := H.2.2 i hi; omega)
set_option maxRecDepth 100000 in
set_option maxHeartbeats 1000000 in
theorem rpick_calls (w : World) (A B : Option Addr) (c d : Nat) (nodes : List Int) (l : List Ld) (hr : (Kd.int .i64).C w A nodes.length nodes) (hl : kLd.C w B l.length l) (hN : nodes.length ≤ 1000) (hG : Good nodes l) :
    Calls Tryd.prog 19 #[.slice A nodes.length c, .slice B l.length d] w fun e w' => e = .returned (.tuple #[.int .i64 (pickI nodes l), .int .i64 (loN nodes l)]) ∧ Below w.heap.size w w' := by
  have HR := Lib.hid hr
  have HL := Lib.hid hl
  have HN := Lib.hid hN
  have HF := Lib.hid hG.fine
  have HG := Lib.hid hG
  have n1 : (nodes.length : Int) ≤ 1000 := by omega
  have l1 : (l.length : Int) ≤ 512 := by have := hG.fine.len; omega
  obtain ⟨S, hS⟩ : ∃ S, S = sumsOf nodes l := ⟨_, rfl⟩
  have HS := Lib.hid hS
  have hsl : S.length = nodes.length := by rw [hS, sumsOf_len]
  have HSL := Lib.hid hsl
  have hnp : 0 < nodes.length := List.length_pos_iff.2 hG.ne
  have HSP := Lib.hid (show 0 < S.length by omega)
  have s1 : (S.length : Int) ≤ 1000 := by omega
  have HSB := Lib.hid (S_bound hS hG.fine)
  clear hr hl hG hN hS hsl hnp
  go_enter Tryd.func19, Tryd.ntmps19
  go_wp2_with (go_at_call 13; refine (rsums_calls w _ _ _ _ nodes l HR.out HL.out HN.out HF.out).mono ?_; rintro e w1 ⟨v, rfl, hv, hb⟩; rw [← HS.out] at hv; obtain ⟨A6, c6, rfl⟩ := Kd.R_slice hv; have HC6 := Lib.hid (Kd.R_reads' hv).2.2; have H1 := Aside0.mk hb; clear hv hb)
  go_loop [7, 8, 20] (fun v7 v8 v20 => ∃ k h g : Nat, k ≤ S.length ∧ v7 = .int .i64 h ∧ v8 = .int .i64 g ∧ v20 = .int .i64 k ∧ Hid (FMax S k h) ∧ Hid (FMin S k g)) (fun _ _ v => S.length - (intOf v).toNat)
  case atStart => exact ⟨0, 0, 0, Nat.zero_le _, rfl, rfl, rfl, ⟨HSP.out, fun i hi => by omega, fun i hi => by omega⟩, ⟨HSP.out, fun i hi => by omega, fun i hi => by omega⟩⟩
  case round =>
    obtain ⟨k, h, g, hk, rfl, rfl, rfl, HX, HM⟩ := hrel
    by_cases hlt : k < S.length
    · obtain ⟨ad6, rfl, hck⟩ := C_cell HC6.out hlt
      obtain ⟨_, e, hch⟩ := C_cell HC6.out HX.out.1
      cases e
      obtain ⟨_, e, hcg⟩ := C_cell HC6.out HM.out.1
      cases e
      have k0 : (0 : Int) ≤ k := by omega
      have k1 : (k : Int) < S.length := by omega
      have h0 : (0 : Int) ≤ h := by omega
      have h1 : (h : Int) < S.length := by have := HX.out.1; omega
      have g0 : (0 : Int) ≤ g := by omega
      have g1 : (g : Int) < S.length := by have := HM.out.1; omega
      have HLT := Lib.hid hlt
      obtain ⟨x, hx⟩ : ∃ x, x = rd S k := ⟨_, rfl⟩
      obtain ⟨y, hy⟩ : ∃ y, y = rd S h := ⟨_, rfl⟩
      obtain ⟨z, hz⟩ : ∃ z, z = rd S g := ⟨_, rfl⟩
      rw [← hx] at hck
      rw [← hy] at hch
      rw [← hz] at hcg
      have HXV := Lib.hid hx
      have HYV := Lib.hid hy
      have HZV := Lib.hid hz
      clear hlt hx hy hz
      by_cases e1 : x > y
      · have e1b : decide (x > y) = true := by simpa using e1
        have HX2 := Lib.hid (HX.out.up HLT.out (by rw [← HXV.out, ← HYV.out]; omega))
        clear e1
        by_cases e2 : x < z
        · have e2b : decide (x < z) = true := by simpa using e2
          have HM2 := Lib.hid (HM.out.up HLT.out (by rw [← HXV.out, ← HZV.out]; omega))
          clear e2
          go_wp2
          go_round
          case rel => exact ⟨k + 1, k, k, by have := HLT.out; omega, rfl, rfl, by go_num, HX2, HM2⟩
          case measure => have := HLT.out; simp [intOf]; omega
        · have e2b : decide (x < z) = false := by simpa using e2
          have HM2 := Lib.hid (HM.out.stay (by rw [← HXV.out, ← HZV.out]; omega))
          clear e2
          go_wp2
          go_round
          case rel => exact ⟨k + 1, k, g, by have := HLT.out; omega, rfl, rfl, by go_num, HX2, HM2⟩
          case measure => have := HLT.out; simp [intOf]; omega
      · have e1b : decide (x > y) = false := by simpa using e1
        have HX2 := Lib.hid (HX.out.stay (by rw [← HXV.out, ← HYV.out]; omega))
        clear e1
        by_cases e2 : x < z
        · have e2b : decide (x < z) = true := by simpa using e2
          have HM2 := Lib.hid (HM.out.up HLT.out (by rw [← HXV.out, ← HZV.out]; omega))
          clear e2
          go_wp2
          go_round
          case rel => exact ⟨k + 1, h, k, by have := HLT.out; omega, rfl, rfl, by go_num, HX2, HM2⟩
          case measure => have := HLT.out; simp [intOf]; omega
        · have e2b : decide (x < z) = false := by simpa using e2
          have HM2 := Lib.hid (HM.out.stay (by rw [← HXV.out, ← HZV.out]; omega))
          clear e2
          go_wp2
          go_round
          case rel => exact ⟨k + 1, h, g, by have := HLT.out; omega, rfl, rfl, by go_num, HX2, HM2⟩
          case measure => have := HLT.out; simp [intOf]; omega
    · have k1 : ¬ (k : Int) < S.length := by omega
      obtain rfl : k = S.length := by omega
      have HXD := Lib.hid HX.out.done
      have HMD := Lib.hid HM.out.done
      obtain ⟨ad6, rfl, hch⟩ := C_cell HC6.out HX.out.1
      obtain ⟨_, e, hcg⟩ := C_cell HC6.out HM.out.1
      cases e
      have h0 : (0 : Int) ≤ h := by omega
      have h1 : (h : Int) < S.length := by have := HX.out.1; omega
      have g0 : (0 : Int) ≤ g := by omega
      have g1 : (g : Int) < S.length := by have := HM.out.1; omega
      have hy := HSB.out _ (rd_mem S h HX.out.1)
      have hz := HSB.out _ (rd_mem S g HM.out.1)
      have hyz := HX.out.2.1 g HM.out.1
      obtain ⟨dd, hdd⟩ : ∃ dd, dd = rd S h - rd S g := ⟨_, rfl⟩
      have HGAP := Lib.hid (show gap nodes l = dd by unfold gap; rw [← HS.out, HXD.out.1, HMD.out.1, hdd])
      have HHN := Lib.hid (show hiN nodes l = rd nodes h by unfold hiN; rw [← HS.out, HXD.out.2])
      have HLN := Lib.hid (show loN nodes l = rd nodes g by unfold loN; rw [← HS.out, HMD.out.2])
      have hd1 : 0 ≤ dd := by omega
      have hd2 : dd ≤ 1000000000 := by omega
      have HDD := Lib.hid hdd.symm
      obtain ⟨y, hyv⟩ : ∃ y, y = rd S h := ⟨_, rfl⟩
      obtain ⟨z, hzv⟩ : ∃ z, z = rd S g := ⟨_, rfl⟩
      rw [← hyv] at hch hy hyz hdd
      rw [← hzv] at hcg hz hyz hdd
      obtain ⟨hy0, hy1⟩ := hy
      obtain ⟨hz0, hz1⟩ := hz
      have hnl : h < nodes.length := by have := HX.out.1; have := HSL.out; omega
      have hng : g < nodes.length := by have := HM.out.1; have := HSL.out; omega
      have HNH := Lib.hid hnl
      have HNG := Lib.hid hng
      have hn1 : (h : Int) < nodes.length := by omega
      have hn2 : (g : Int) < nodes.length := by omega
      have HRC := Lib.hid (Kd.C_below HR.out H1.out)
      have HLC := Lib.hid (kLd.C_below HL.out H1.out)
      obtain ⟨nh, hnh⟩ : ∃ nh, nh = rd nodes h := ⟨_, rfl⟩
      rw [← hnh] at HHN
      have hpk : pickI nodes l = bestTo nh dd l l.length := by unfold pickI; rw [HHN.out, HGAP.out]
      have HPK := Lib.hid hpk
      have HNHV := Lib.hid hnh
      clear hlt hyv hzv hnl hng hnh hpk k1
      have k1 : ¬ (S.length : Int) < S.length := by omega
      have hwr : IntKind.i64.wrap (y - z) = dd := by rw [IntKind.wrap_i64]; omega
      have hyd : y - z = dd := hdd.symm
      clear hdd
      go_upto_region 11 with (fail)
      clear k1
      go_quiet (fail)
      go_wp2
      clear hch hcg hwr hyd
      obtain ⟨wc, hwc⟩ : ∃ wc, wc = w1.drewN nq := ⟨_, rfl⟩
      have HBC := Aside0.mk (show Below w1.heap.size w1 wc by rw [hwc]; exact pw_below_drewN (Below.refl _ _) _)
      have HBW := Aside0.mk (show Below w.heap.size w wc by rw [hwc]; exact pw_below_drewN H1.out _)
      rw [← hwc]
      clear hwc
      obtain ⟨adN, rfl, hcn⟩ := C_cell HRC.out HNH.out
      rw [← HNHV.out] at hcn
      have HCN := Lib.hid hcn
      have HADN := Lib.hid (cell_in hcn)
      clear hcn
      go_loopw [12, 51] (fun v12 v51 wr => ∃ k : Nat, v12 = .int .i64 (bestTo nh dd l k) ∧ v51 = .int .i64 k ∧ k ≤ l.length ∧ Aside0 (Below wc.heap.size wc wr)) (fun _ v _ => l.length - (intOf v).toNat)
      case atStart => exact ⟨0, rfl, rfl, Nat.zero_le _, ⟨Below.refl _ _⟩⟩
      case round =>
        obtain ⟨k, rfl, rfl, hk, HB⟩ := hrel
        by_cases hlt : k < l.length
        · obtain ⟨ad, rfl, hc0, hc1, hc2⟩ := Ld_cell (kLd.C_below HLC.out (below_step HBC.out HB.out)) hlt
          obtain ⟨x, hx0⟩ : ∃ x, x = ldAt l k := ⟨_, rfl⟩
          rw [← hx0] at hc0 hc1 hc2
          have k0 : (0 : Int) ≤ k := by omega
          have k1 : (k : Int) < l.length := by omega
          have HLT := Lib.hid hlt
          have HX9 := Lib.hid hx0
          have hw0 := HF.out.w0 _ (ldAt_mem l k hlt)
          have hw1 := HF.out.w1 _ (ldAt_mem l k hlt)
          rw [← hx0] at hw0 hw1
          obtain ⟨xs, xn, xw⟩ := x
          simp only [] at hc0 hc1 hc2 hw0 hw1
          obtain ⟨q, hq⟩ : ∃ q, q = bestTo nh dd l k := ⟨_, rfl⟩
          have hqb := bestTo_bound nh dd l k
          rw [← hq] at hqb ⊢
          obtain ⟨hqb0, hqb1⟩ := hqb
          have HQ := Lib.hid hq
          clear hlt hx0 hq
          go_upto_region 16 with (fail)
          obtain ⟨w0, hw0'⟩ : ∃ w0, w0 = wr.alloc (.cells #[.int .i64 xs, .int .i64 xn, .int .i64 xw] 51) := ⟨_, rfl⟩
          rw [← hw0']
          have HBX := Aside0.mk (show w0.heap[wr.heap.size]? = some (.cells #[.int .i64 xs, .int .i64 xn, .int .i64 xw] 51 (0, 0)) by rw [hw0']; exact heap_alloc_new _ _)
          have HBW0 := Aside0.mk (show Below wc.heap.size wc w0 by rw [hw0']; exact below_alloc HB.out _)
          clear hw0' hc0 hc1 hc2
          have HSZ0 := Lib.hid (show wr.heap.size < w0.heap.size from blk_lt HBX.out)
          have b0 : w0.cell? ⟨wr.heap.size, 0, none⟩ = some (.int .i64 xs) := by unfold World.cell?; rw [HBX.out]; rfl
          have b1 : w0.cell? ⟨wr.heap.size, 1, none⟩ = some (.int .i64 xn) := by unfold World.cell?; rw [HBX.out]; rfl
          have b2 : w0.cell? ⟨wr.heap.size, 2, none⟩ = some (.int .i64 xw) := by unfold World.cell?; rw [HBX.out]; rfl
          have b3 : w0.cell? (adN.add h) = some (.int .i64 nh) := (HBW0.out.cell (p := adN.add h) (Nat.lt_of_lt_of_le HADN.out HBC.out.size)).trans ((HBC.out.cell (p := adN.add h) HADN.out).trans HCN.out)
          have B0 := Lib.hid b0
          have B2 := Lib.hid b2
          by_cases e1 : xn = nh
          · have e1b : (xn != nh) = false := by simp [e1]
            have HE1 := Lib.hid e1
            clear e1
            by_cases e2 : xw ≤ 0
            · have e2b : decide (xw ≤ 0) = true := by simpa using e2
              have HSK := Lib.hid (best_skip nh dd l k (by rw [← HX9.out]; simp [elig]; omega))
              clear e2
              go_quiet (fail)
              go_wp2
              go_roundw
              case rel => exact ⟨k + 1, by rw [HSK.out, HQ.out], by go_num, by have := HLT.out; omega, ⟨pw_below_drewN HBW0.out _⟩⟩
              case measure => have := HLT.out; simp [intOf]; omega
            · have e2b : decide (xw ≤ 0) = false := by simpa using e2
              have HE2 := Lib.hid e2
              clear e2
              by_cases e3 : xw ≥ dd
              · have e3b : decide (xw ≥ dd) = true := by simpa using e3
                have HSK := Lib.hid (best_skip nh dd l k (by rw [← HX9.out]; simp [elig]; omega))
                clear e3
                go_quiet (fail)
                go_wp2
                go_roundw
                case rel => exact ⟨k + 1, by rw [HSK.out, HQ.out], by go_num, by have := HLT.out; omega, ⟨pw_below_drewN HBW0.out _⟩⟩
                case measure => have := HLT.out; simp [intOf]; omega
              · have e3b : decide (xw ≥ dd) = false := by simpa using e3
                have HEL := Lib.hid (show elig nh dd (ldAt l k) = true by rw [← HX9.out]; have h1 := HE1.out; have h2 := HE2.out; simp [elig, h1]; omega)
                clear e3
                go_quiet (fail)
                clear b0 b1 b2 b3 e1b e2b e3b
                go_upto_region 17 with (fail)
                obtain ⟨w2, hw2⟩ : ∃ w2, w2 = w0.drewN nq := ⟨_, rfl⟩
                rw [← hw2]
                have HB2 := Aside0.mk (show Below w0.heap.size w0 w2 by rw [hw2]; exact pw_below_drewN (Below.refl _ _) _)
                have HBW2 := Aside0.mk (below_step HBW0.out HB2.out)
                clear hw2
                have b0 : w2.cell? ⟨wr.heap.size, 0, none⟩ = some (.int .i64 xs) := (HB2.out.cell (p := ⟨wr.heap.size, 0, none⟩) HSZ0.out).trans B0.out
                have b2 : w2.cell? ⟨wr.heap.size, 2, none⟩ = some (.int .i64 xw) := (HB2.out.cell (p := ⟨wr.heap.size, 2, none⟩) HSZ0.out).trans B2.out
                clear HBX
                by_cases hq0 : q < 0
                · have hq0b : decide (q < 0) = true := by simpa using hq0
                  have HSK := Lib.hid (best_first nh dd l k HEL.out (by rw [← HQ.out]; exact hq0))
                  clear hq0
                  go_quiet (fail)
                  go_wp2
                  go_roundw
                  case rel => exact ⟨k + 1, by rw [HSK.out], by go_num, by have := HLT.out; omega, ⟨pw_below_drewN HBW2.out _⟩⟩
                  case measure => have := HLT.out; simp [intOf]; omega
                · have hq0b : decide (q < 0) = false := by simpa using hq0
                  obtain ⟨j, rfl⟩ : ∃ j : Nat, q = j := ⟨q.toNat, by omega⟩
                  have HJK := Lib.hid (show j < k by omega)
                  have hj : j < l.length := by have := HLT.out; have := HJK.out; omega
                  have j0 : (0 : Int) ≤ j := by omega
                  have j1 : (j : Int) < l.length := by omega
                  obtain ⟨_, e, c0, c1, c2⟩ := Ld_cell (kLd.C_below HLC.out (below_step HBC.out HBW2.out)) hj
                  cases e
                  obtain ⟨y, hy0⟩ : ∃ y, y = ldAt l j := ⟨_, rfl⟩
                  rw [← hy0] at c0 c2
                  have hv0 := HF.out.w0 _ (ldAt_mem l j hj)
                  have hv1 := HF.out.w1 _ (ldAt_mem l j hj)
                  rw [← hy0] at hv0 hv1
                  have HBM := Lib.hid (best_more nh dd l k j HEL.out HQ.out.symm)
                  have HY0 := Lib.hid hy0
                  obtain ⟨ys, yn, yw⟩ := y
                  simp only [] at c0 c2 hv0 hv1
                  have HAH := Lib.hid (show ahead dd (ldAt l k) (ldAt l j) = (decide (szI (dd - 2 * xw) < szI (dd - 2 * yw)) || (decide (szI (dd - 2 * xw) = szI (dd - 2 * yw)) && decide (xs < ys))) by rw [← HX9.out, ← HY0.out]; simp only [ahead, szI_off])
                  clear hq0 hj hy0 c1
                  by_cases z1 : szI (dd - 2 * xw) < szI (dd - 2 * yw)
                  · have z1b : decide (szI (dd - 2 * xw) < szI (dd - 2 * yw)) = true := by simpa using z1
                    have HSK := Lib.hid (show bestTo nh dd l (k + 1) = k by rw [HBM.out, HAH.out, z1b]; rfl)
                    clear z1
                    go_quiet ((go_at_call 36; exact Calls.quiet_of_same ((rsize_calls _ _ (by omega) (by omega)).mono fun _ _ ⟨h, k⟩ => ⟨h, k.symm⟩)))
                    go_wp2
                    go_roundw
                    case rel => exact ⟨k + 1, by rw [HSK.out], by go_num, by have := HLT.out; omega, ⟨pw_below_drewN HBW2.out _⟩⟩
                    case measure => have := HLT.out; simp [intOf]; omega
                  · have z1b : decide (szI (dd - 2 * xw) < szI (dd - 2 * yw)) = false := by simpa using z1
                    by_cases z2 : szI (dd - 2 * xw) = szI (dd - 2 * yw)
                    · have z2b : (szI (dd - 2 * xw) == szI (dd - 2 * yw)) = true := by simpa using z2
                      have z2c : decide (szI (dd - 2 * xw) = szI (dd - 2 * yw)) = true := by simpa using z2
                      by_cases z3 : xs < ys
                      · have z3b : decide (xs < ys) = true := by simpa using z3
                        have HSK := Lib.hid (show bestTo nh dd l (k + 1) = k by rw [HBM.out, HAH.out, z1b, z2c, z3b]; rfl)
                        clear z1 z2 z3 z2c
                        go_quiet ((go_at_call 36; exact Calls.quiet_of_same ((rsize_calls _ _ (by omega) (by omega)).mono fun _ _ ⟨h, k⟩ => ⟨h, k.symm⟩)))
                        go_wp2
                        go_roundw
                        case rel => exact ⟨k + 1, by rw [HSK.out], by go_num, by have := HLT.out; omega, ⟨pw_below_drewN HBW2.out _⟩⟩
                        case measure => have := HLT.out; simp [intOf]; omega
                      · have z3b : decide (xs < ys) = false := by simpa using z3
                        have HSK := Lib.hid (show bestTo nh dd l (k + 1) = j by rw [HBM.out, HAH.out, z1b, z2c, z3b]; rfl)
                        clear z1 z2 z3 z2c
                        go_quiet ((go_at_call 36; exact Calls.quiet_of_same ((rsize_calls _ _ (by omega) (by omega)).mono fun _ _ ⟨h, k⟩ => ⟨h, k.symm⟩)))
                        go_wp2
                        go_roundw
                        case rel => exact ⟨k + 1, by rw [HSK.out], by go_num, by have := HLT.out; omega, ⟨pw_below_drewN HBW2.out _⟩⟩
                        case measure => have := HLT.out; simp [intOf]; omega
                    · have z2b : (szI (dd - 2 * xw) == szI (dd - 2 * yw)) = false := by simpa using z2
                      have z2c : decide (szI (dd - 2 * xw) = szI (dd - 2 * yw)) = false := by simpa using z2
                      have HSK := Lib.hid (show bestTo nh dd l (k + 1) = j by rw [HBM.out, HAH.out, z1b, z2c]; rfl)
                      clear z1 z2 z2c
                      go_quiet ((go_at_call 36; exact Calls.quiet_of_same ((rsize_calls _ _ (by omega) (by omega)).mono fun _ _ ⟨h, k⟩ => ⟨h, k.symm⟩)))
                      go_wp2
                      go_roundw
                      case rel => exact ⟨k + 1, by rw [HSK.out], by go_num, by have := HLT.out; omega, ⟨pw_below_drewN HBW2.out _⟩⟩
                      case measure => have := HLT.out; simp [intOf]; omega
          · have e1b : (xn != nh) = true := by simpa using e1
            have HSK := Lib.hid (best_skip nh dd l k (by rw [← HX9.out]; simp [elig, e1]))
            clear e1
            go_quiet (fail)
            go_wp2
            go_roundw
            case rel => exact ⟨k + 1, by rw [HSK.out, HQ.out], by go_num, by have := HLT.out; omega, ⟨pw_below_drewN HBW0.out _⟩⟩
            case measure => have := HLT.out; simp [intOf]; omega
        · have k1 : ¬ (k : Int) < l.length := by omega
          have HH := Lib.hid (show k = l.length by omega)
          clear hlt
          have HRW := Lib.hid (Kd.C_below HRC.out (below_step HBC.out HB.out))
          obtain ⟨_, e, b3⟩ := C_cell HRW.out HNG.out
          cases e
          go_wp2
          go_quiet (fail)
          go_wp2
          go_ret2
          refine ⟨?_, below_step HBW.out (pw_below_drewN HB.out _)⟩
          rw [HPK.out, HLN.out, HH.out]
          rfl
end Go.Proofs.YthgfodfkjlpegaaDoor
