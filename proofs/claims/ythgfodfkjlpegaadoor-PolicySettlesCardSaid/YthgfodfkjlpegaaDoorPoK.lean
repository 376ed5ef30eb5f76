/- pick. -/
import Derived.Test.YthgfodfkjlpegaaDoorPoP
namespace Go.Proofs.YthgfodfkjlpegaaDoor
open Go.RowKit Go.Proofs.YthgfodfkjlpegaaDoorW.PrintWords Go.Proofs.YthgfodfkjlpegaaDoorW.PrintLast Go.Proofs.YthgfodfkjlpegaaDoorW.PrintMore
attribute [local go_sem] max2_int min2_int max_two min_two
set_option linter.unusedVariables false
set_option linter.unusedSimpArgs false
theorem idx_mem {xs : List Int} {m : Int} (h : m ∈ xs) : ∃ i : Nat, i < xs.length ∧ i = xs.idxOf m ∧ idx xs m = (i : Int) ∧ rd xs i = m := by
  have hl := List.idxOf_lt_length_of_mem h
  refine ⟨xs.idxOf m, hl, rfl, by unfold idx; rw [if_pos h], ?_⟩
  rw [rd_get _ _ hl]
  exact List.getElem_idxOf hl
theorem add_zero (b i : Nat) : (⟨b, 0, none⟩ : Addr).add i = ⟨b, i, none⟩ := by
  unfold Addr.add
  by_cases h : i = 0
  · simp [h]
  · simp [h]
theorem cell_in {w : World} {a : Addr} {v : Value} (h : w.cell? a = some v) : a.block < w.heap.size := by
  by_cases hb : a.block < w.heap.size
  · exact hb
  · unfold World.cell? at h
    rw [Array.getElem?_eq_none (by omega)] at h
    simp at h
theorem best_step (n d : Int) (l : List Ld) (k : Nat) : bestTo n d l (k + 1) = if elig n d (ldAt l k) && (decide (bestTo n d l k < 0) || ahead d (ldAt l k) (ldAt l (bestTo n d l k).toNat)) then (k : Int) else bestTo n d l k := rfl
theorem best_skip (n d : Int) (l : List Ld) (k : Nat) (h : elig n d (ldAt l k) = false) : bestTo n d l (k + 1) = bestTo n d l k := by rw [best_step, h]; simp
theorem best_first (n d : Int) (l : List Ld) (k : Nat) (h : elig n d (ldAt l k) = true) (h2 : bestTo n d l k < 0) : bestTo n d l (k + 1) = k := by rw [best_step, h]; simp [h2]
theorem best_more (n d : Int) (l : List Ld) (k j : Nat) (h : elig n d (ldAt l k) = true) (h2 : bestTo n d l k = j) : bestTo n d l (k + 1) = if ahead d (ldAt l k) (ldAt l j) then (k : Int) else j := by
  rw [best_step, h, h2]
  have : ¬ ((j : Int) < 0) := by omega
  simp [this]
theorem C_cell2 {w : World} {ad : Addr} {xs : List Int} (h : (Kd.int .i64).C w (some ad) xs.length xs) {k : Nat} (hk : k < xs.length) : w.cell? (ad.add k) = some (.int .i64 (rd xs k)) := by
  obtain ⟨_, e, h2⟩ := C_cell h hk
  cases e
  exact h2
theorem S_bound {nodes S : List Int} {l : List Ld} (h : S = sumsOf nodes l) (hF : LFine nodes l) : ∀ x ∈ S, 0 ≤ x ∧ x ≤ 512000000 := by
  subst h
  intro x hx
  obtain ⟨n, _, rfl⟩ := List.mem_map.1 hx
  have := wsum_bound n hF.w0 hF.w1
  have := hF.len
  omega
theorem ne_of {nodes S : List Int} {l : List Ld} (h : S = sumsOf nodes l) (h0 : nodes ≠ []) : S ≠ [] := by subst h; intro e; apply h0; simpa [sumsOf] using e
set_option maxRecDepth 100000 in
set_option maxHeartbeats 1000000 in
theorem pick_calls (w : World) (A B : Option Addr) (c d : Nat) (nodes : List Int) (l : List Ld) (hr : (Kd.int .i64).C w A nodes.length nodes) (hl : kLd.C w B l.length l) (hn : nodes.Nodup) (hN : nodes.length ≤ 1000) (h0 : nodes ≠ []) (hF : LFine nodes l) :
    Calls Tryd.prog 18 #[.slice A nodes.length c, .slice B l.length d] w fun e w' => ∃ hi lo, IsMax (sumsOf nodes l) hi ∧ IsMin (sumsOf nodes l) lo ∧
      e = .returned (.tuple #[.int .i64 (bestTo (rd nodes ((sumsOf nodes l).idxOf hi)) (hi - lo) l l.length), .int .i64 (rd nodes ((sumsOf nodes l).idxOf lo))]) ∧ Below w.heap.size w w' := by
  have HR := Lib.hid hr
  have HL := Lib.hid hl
  have HN := Lib.hid hn
  have HF := Lib.hid hF
  have n1 : (nodes.length : Int) ≤ 1000 := by omega
  have l1 : (l.length : Int) ≤ 512 := by have := hF.len; omega
  have HM := Lib.hid (show nodes.length ≤ 1000 from hN)
  have H0 := Lib.hid h0
  clear hr hl hn hF hN h0
  go_enter Tryd.func18, Tryd.ntmps18
  go_upto_region 1 with (fail)
  obtain ⟨wb, hwb⟩ : ∃ wb, wb = w.alloc (.cells #[.slice B l.length d] 29) := ⟨_, rfl⟩
  rw [← hwb]
  have HBB := Aside0.mk (show Below w.heap.size w wb by rw [hwb]; exact below_alloc (Below.refl _ _) _)
  have hcb : wb.cell? ⟨w.heap.size, 0, none⟩ = some (.slice B l.length d) := by rw [hwb]; unfold World.cell?; rw [heap_alloc_new]; rfl
  have HCB := Lib.hid hcb
  have HSZ := Lib.hid (show wb.heap.size = w.heap.size + 1 by rw [hwb]; exact Array.size_push _)
  clear hwb
  go_upto_region 3 with (first
    | (go_at_call 23; refine (sums_calls _ _ _ _ _ nodes l (Kd.C_below HR.out HBB.out) (kLd.C_below HL.out HBB.out) HN.out HM.out HF.out).mono ?_; rintro e ws ⟨S, HSS0, rfl, HS0, HWS0⟩; have HSS := Lib.hid HSS0; have HS := Aside0.mk HS0; have HWS := Aside0.mk HWS0; have HCS := Lib.hid (Kd.R_reads' HS0).2.2; clear HSS0 HS0 HWS0)
    | (go_at_call 31; refine (max_calls _ _ _ S HCS.out (ne_of HSS.out H0.out)).mono ?_; rintro e w' ⟨hi, rfl, HHI0, rfl⟩; have HHI := Lib.hid HHI0; clear HHI0; obtain ⟨hx, hhx, HHX0, HHE0, HHV0⟩ := idx_mem HHI.out.1; have HHX := Lib.hid HHX0; have HHE := Lib.hid HHE0; have HHV := Lib.hid HHV0; clear HHX0 HHE0 HHV0)
    | (go_at_call 32; refine (min_calls _ _ _ S HCS.out (ne_of HSS.out H0.out)).mono ?_; rintro e w' ⟨lo, rfl, HLO0, rfl⟩; have HLO := Lib.hid HLO0; clear HLO0; obtain ⟨lx, hlx, HLX0, HLE0, HLV0⟩ := idx_mem HLO.out.1; have HLX := Lib.hid HLX0; have HLE := Lib.hid HLE0; have HLV := Lib.hid HLV0; clear HLX0 HLE0 HLV0)
    | (go_at_call 30; refine (index_calls _ _ _ S lo HCS.out).mono ?_; rintro e w' ⟨rfl, rfl⟩; rw [HLE.out])
    | (go_at_call 30; refine (index_calls _ _ _ S hi HCS.out).mono ?_; rintro e w' ⟨rfl, rfl⟩; rw [HHE.out]))
  obtain ⟨hb1, hb3⟩ := S_bound HSS.out HF.out hi HHI.out.1
  obtain ⟨hb2, hb4⟩ := S_bound HSS.out HF.out lo HLO.out.1
  have HHL := Lib.hid hhx
  have HLL := Lib.hid hlx
  have hd0 : lo ≤ hi := HHI.out.2 _ HLO.out.1
  have hSl : (S.length : Int) ≤ 1000 := by have := HM.out; have e := sumsOf_len nodes l; rw [HSS.out, e]; omega
  have hch : ws.cell? ⟨wb.heap.size, hx, none⟩ = some (.int .i64 hi) := by
    obtain ⟨_, e, h⟩ := C_cell HCS.out hhx
    cases e
    rw [HHV.out, add_zero] at h
    exact h
  have hcl : ws.cell? ⟨wb.heap.size, lx, none⟩ = some (.int .i64 lo) := by
    obtain ⟨_, e, h⟩ := C_cell HCS.out hlx
    cases e
    rw [HLV.out, add_zero] at h
    exact h
  have HWL := Lib.hid (show wb.heap.size < ws.heap.size by have := Kd.R_lt HS.out wb.heap.size (by simp [Value.ownBlock]); exact this)
  go_cut [9] from 25 to 33 (fun v9 wc => ∃ bd, v9 = .pointer (some ⟨bd, 0, none⟩) ∧ Hid (wc.cell? ⟨bd, 0, none⟩ = some (.int .i64 (hi - lo)) ∧ ws.heap.size ≤ bd ∧ bd < wc.heap.size) ∧ Aside0 (Below ws.heap.size ws wc))
  case first =>
    refine wp_region_noPanic ?_
    refine wp_region_held_drew (S := fun W => W.heap[wb.heap.size]? = ws.heap[wb.heap.size]?) (by kernel_rfl) rfl (fun hHeld => ?_)
    obtain ⟨wd, hwd⟩ : ∃ wd, wd = ws.drew := ⟨_, rfl⟩
    have HWD := Lib.hid (show wd.heap.size = ws.heap.size by rw [hwd]; rfl)
    have HBD := Aside0.mk (show Below ws.heap.size ws wd by rw [hwd]; exact (Below.refl _ _).drew)
    rw [← hwd] at hHeld ⊢
    have HWW := Lib.hid hHeld
    clear hwd
    refine wpAnyH_take (i := 0) (v := ?_) rfl (by kernel_rfl) (by kernel_rfl) (by kernel_rfl) (fun _ _ _ h => h) (Or.inl ⟨by rfl, ?_⟩) (by assumption) ?_
    rotate_left 1
    · first | (intro w hSw; go_simp; done) | (intro w hSw; go_simp; with_reducible rfl)
    try simp only [Act.put, List.getElem_toArray, List.getElem_cons_zero, List.getElem_cons_succ, List.setIfInBounds_toArray, List.set_cons_zero, List.set_cons_succ]
    refine wpAnyH_take (i := 1) (v := ?_) rfl (by kernel_rfl) (by kernel_rfl) (by kernel_rfl) (fun _ _ _ h => h) (Or.inl ⟨by rfl, ?_⟩) (by assumption) ?_
    rotate_left 1
    · first | (intro w hSw; go_simp; done) | (intro w hSw; go_simp; with_reducible rfl)
    try simp only [Act.put, List.getElem_toArray, List.getElem_cons_zero, List.getElem_cons_succ, List.setIfInBounds_toArray, List.set_cons_zero, List.set_cons_succ]
    refine wpAnyH_take (i := 2) (v := ?_) rfl (by kernel_rfl) (by kernel_rfl) (by kernel_rfl) (fun _ _ _ h => h) (Or.inl ⟨by rfl, ?_⟩) (by assumption) ?_
    rotate_left 1
    · first | (intro w hSw; go_simp; done) | (intro w hSw; go_simp; with_reducible rfl)
    try simp only [Act.put, List.getElem_toArray, List.getElem_cons_zero, List.getElem_cons_succ, List.setIfInBounds_toArray, List.set_cons_zero, List.set_cons_succ]
    refine wpAnyH_take (i := 3) (v := ?_) rfl (by kernel_rfl) (by kernel_rfl) (by kernel_rfl) (fun _ _ _ h => h) (Or.inl ⟨by rfl, ?_⟩) (by assumption) ?_
    rotate_left 1
    · first | (intro w hSw; have b1 : w.cell? ⟨wb.heap.size, hx, none⟩ = some (.int .i64 hi) := (by unfold World.cell?; rw [hSw]; exact hch); go_simp; done) | (intro w hSw; have b1 : w.cell? ⟨wb.heap.size, hx, none⟩ = some (.int .i64 hi) := (by unfold World.cell?; rw [hSw]; exact hch); go_simp; with_reducible rfl)
    try simp only [Act.put, List.getElem_toArray, List.getElem_cons_zero, List.getElem_cons_succ, List.setIfInBounds_toArray, List.set_cons_zero, List.set_cons_succ]
    refine wpAnyH_take (i := 4) (v := ?_) rfl (by kernel_rfl) (by kernel_rfl) (by kernel_rfl) (fun _ _ _ h => h) (Or.inl ⟨by rfl, ?_⟩) (by assumption) ?_
    rotate_left 1
    · first | (intro w hSw; go_simp; done) | (intro w hSw; go_simp; with_reducible rfl)
    try simp only [Act.put, List.getElem_toArray, List.getElem_cons_zero, List.getElem_cons_succ, List.setIfInBounds_toArray, List.set_cons_zero, List.set_cons_succ]
    refine wpAnyH_take (i := 5) (v := ?_) rfl (by kernel_rfl) (by kernel_rfl) (by kernel_rfl) (fun _ _ _ h => h) (Or.inl ⟨by rfl, ?_⟩) (by assumption) ?_
    rotate_left 1
    · first | (intro w hSw; go_simp; done) | (intro w hSw; go_simp; with_reducible rfl)
    try simp only [Act.put, List.getElem_toArray, List.getElem_cons_zero, List.getElem_cons_succ, List.setIfInBounds_toArray, List.set_cons_zero, List.set_cons_succ]
    refine wpAnyH_take (i := 6) (v := ?_) rfl (by kernel_rfl) (by kernel_rfl) (by kernel_rfl) (fun _ _ _ h => h) (Or.inl ⟨by rfl, ?_⟩) (by assumption) ?_
    rotate_left 1
    · first | (intro w hSw; go_simp; done) | (intro w hSw; go_simp; with_reducible rfl)
    try simp only [Act.put, List.getElem_toArray, List.getElem_cons_zero, List.getElem_cons_succ, List.setIfInBounds_toArray, List.set_cons_zero, List.set_cons_succ]
    refine wpAnyH_take (i := 7) (v := ?_) rfl (by kernel_rfl) (by kernel_rfl) (by kernel_rfl) (fun _ _ _ h => h) (Or.inl ⟨by rfl, ?_⟩) (by assumption) ?_
    rotate_left 1
    · first | (intro w hSw; have b2 : w.cell? ⟨wb.heap.size, lx, none⟩ = some (.int .i64 lo) := (by unfold World.cell?; rw [hSw]; exact hcl); go_simp; done) | (intro w hSw; have b2 : w.cell? ⟨wb.heap.size, lx, none⟩ = some (.int .i64 lo) := (by unfold World.cell?; rw [hSw]; exact hcl); go_simp; with_reducible rfl)
    try simp only [Act.put, List.getElem_toArray, List.getElem_cons_zero, List.getElem_cons_succ, List.setIfInBounds_toArray, List.set_cons_zero, List.set_cons_succ]
    refine wpAnyH_take (i := 8) (v := ?_) rfl (by kernel_rfl) (by kernel_rfl) (by kernel_rfl) (fun _ _ _ h => h) (Or.inl ⟨by rfl, ?_⟩) (by assumption) ?_
    rotate_left 1
    · first | (intro w hSw; go_simp; done) | (intro w hSw; go_simp; with_reducible rfl)
    try simp only [Act.put, List.getElem_toArray, List.getElem_cons_zero, List.getElem_cons_succ, List.setIfInBounds_toArray, List.set_cons_zero, List.set_cons_succ]
    refine wpAnyH_ready (rs := [9]) (by kernel_rfl) (by simp) ?_
    refine AllReadyH.cons rfl (fun K hK => ?_) AllReadyH.nil
    go_simp
    skip
    go_simp
    refine hK.out _ _ ((Below.heap_alloc _ _ _ (show wb.heap.size < wd.heap.size by rw [HWD.out]; exact HWL.out)).trans hHeld) (fun hHeld => ?_)
    clear hK K
    try simp only [Act.put, List.getElem_toArray, List.getElem_cons_zero, List.getElem_cons_succ, List.setIfInBounds_toArray, List.set_cons_zero, List.set_cons_succ]
    refine wpAnyH_ready (rs := [10]) (by kernel_rfl) (by simp) ?_
    refine AllReadyH.cons rfl (fun K hK => ?_) AllReadyH.nil
    go_simp
    skip
    go_simp
    refine hK.out _ _ ((Below.heap_alloc _ _ _ (show wb.heap.size < wd.heap.size by rw [HWD.out]; exact HWL.out)).trans (HWW.out)) (fun hHeld => ?_)
    clear hK K
    try simp only [Act.put, List.getElem_toArray, List.getElem_cons_zero, List.getElem_cons_succ, List.setIfInBounds_toArray, List.set_cons_zero, List.set_cons_succ]
    refine wpAnyH_done (by kernel_rfl) ?_ _
    refine NoPanic.normal ?_
    go_wp2
    go_meet
    case rel => exact ⟨wd.heap.size, rfl, ⟨by unfold World.cell?; rw [heap_alloc_new]; rw [show IntKind.i64.wrap (hi - lo) = hi - lo by rw [IntKind.wrap_i64]; omega]; rfl, by rw [HWD.out]; exact Nat.le_refl _, by rw [show ∀ o, (wd.alloc o).heap.size = wd.heap.size + 1 from fun o => Array.size_push _]; omega⟩, ⟨below_alloc HBD.out _⟩⟩
  obtain ⟨bd, rfl, HD, HBD⟩ := hcut
  go_upto_region 6 with (fail)
  obtain ⟨dd, hdd⟩ : ∃ dd, dd = hi - lo := ⟨_, rfl⟩
  have HDD := Lib.hid hdd
  have hd1 : 0 ≤ dd := by omega
  have hd2 : dd ≤ 1000000000 := by omega
  rw [← hdd] at HD
  have HNH := Lib.hid (show hx < nodes.length by have e := sumsOf_len nodes l; rw [← e, ← HSS.out]; exact HHL.out)
  have HNL := Lib.hid (show lx < nodes.length by have e := sumsOf_len nodes l; rw [← e, ← HSS.out]; exact HLL.out)
  have HW0 := Aside0.mk (below_step (below_step HBB.out HWS.out) HBD.out)
  have HRC := Lib.hid (Kd.C_below HR.out HW0.out)
  have HLC := Lib.hid (kLd.C_below HL.out HW0.out)
  have HGB := Lib.hid (show w.heap.size < wb.heap.size by rw [HSZ.out]; omega)
  have hcb3 : wc.cell? ⟨w.heap.size, 0, none⟩ = some (.slice B l.length d) := (HBD.out.cell (p := ⟨w.heap.size, 0, none⟩) (by have := HWL.out; have := HGB.out; show w.heap.size < ws.heap.size; omega)).trans ((HWS.out.cell (p := ⟨w.heap.size, 0, none⟩) HGB.out).trans HCB.out)
  have HCB3 := Lib.hid hcb3
  have HGC := Lib.hid (show w.heap.size < wc.heap.size by have := HW0.out.size; have := HWL.out; have := HBD.out.size; have := HGB.out; omega)
  clear hcb hch hcl
  obtain ⟨nh, hnh⟩ : ∃ nh, nh = rd nodes hx := ⟨_, rfl⟩
  have HNHV := Lib.hid hnh
  obtain ⟨adN, rfl, hcn⟩ := C_cell HRC.out HNH.out
  rw [← hnh] at hcn
  have HCN := Lib.hid hcn
  have HADN := Lib.hid (show (adN.add hx).block < wc.heap.size from cell_in hcn)
  have hxb : (hx : Int) < nodes.length := by have := HNH.out; omega
  have hxb0 : (0 : Int) ≤ hx := by omega
  have lxb : (lx : Int) < nodes.length := by have := HNL.out; omega
  have lxb0 : (0 : Int) ≤ lx := by omega
  clear hnh hdd hcn
  go_wp2
  go_loopw [10, 37] (fun v10 v37 wr => ∃ k : Nat, v10 = .int .i64 (bestTo nh dd l k) ∧ v37 = .int .i64 k ∧ k ≤ l.length ∧ Aside0 (Below wc.heap.size wc wr)) (fun _ v _ => l.length - (intOf v).toNat)
  case atStart => exact ⟨0, rfl, rfl, Nat.zero_le _, ⟨Below.refl _ _⟩⟩
  case round =>
    obtain ⟨k, rfl, rfl, hk, HB⟩ := hrel
    by_cases hlt : k < l.length
    · obtain ⟨ad, rfl, hc0, hc1, hc2⟩ := Ld_cell (kLd.C_below HLC.out HB.out) hlt
      have HAD := Lib.hid (show (ad.add (k * 3)).block < wr.heap.size from cell_in hc0)
      obtain ⟨x, hx0⟩ : ∃ x, x = ldAt l k := ⟨_, rfl⟩
      rw [← hx0] at hc0 hc1 hc2
      have k0 : (0 : Int) ≤ k := by omega
      have k1 : (k : Int) < l.length := by omega
      have HLT := Lib.hid hlt
      have HX := Lib.hid hx0
      have hw0 := HF.out.w0 _ (ldAt_mem l k hlt)
      have hw1 := HF.out.w1 _ (ldAt_mem l k hlt)
      rw [← hx0] at hw0 hw1
      obtain ⟨xs, xn, xw⟩ := x
      simp only [] at hc0 hc1 hc2 hw0 hw1
      obtain ⟨q, hq⟩ : ∃ q, q = bestTo nh dd l k := ⟨_, rfl⟩
      have hqb := bestTo_bound nh dd l k
      rw [← hq] at hqb ⊢
      obtain ⟨hqb0, hqb1⟩ := hqb
      have HQ := Lib.hid hq
      have HBST := Lib.hid (best_step nh dd l k)
      clear hlt hx0 hq
      go_upto_region 9 with (fail)
      obtain ⟨w0, hw0⟩ : ∃ w0, w0 = wr.alloc (.cells #[.int .i64 xs, .int .i64 xn, .int .i64 xw] 55) := ⟨_, rfl⟩
      rw [← hw0]
      have HBX := Aside0.mk (show w0.heap[wr.heap.size]? = some (.cells #[.int .i64 xs, .int .i64 xn, .int .i64 xw] 55 (0, 0)) by rw [hw0]; exact heap_alloc_new _ _)
      have HB0 := Aside0.mk (show Below wr.heap.size wr w0 by rw [hw0]; exact below_alloc (Below.refl _ _) _)
      have HBW := Aside0.mk (below_step HB.out HB0.out)
      have HSZ0 := Lib.hid (show w0.heap.size = wr.heap.size + 1 by rw [hw0]; exact Array.size_push _)
      clear hw0 hc0 hc1 hc2
      have b0 : w0.cell? ⟨wr.heap.size, 0, none⟩ = some (.int .i64 xs) := by unfold World.cell?; rw [HBX.out]; rfl
      have b1 : w0.cell? ⟨wr.heap.size, 1, none⟩ = some (.int .i64 xn) := by unfold World.cell?; rw [HBX.out]; rfl
      have b2 : w0.cell? ⟨wr.heap.size, 2, none⟩ = some (.int .i64 xw) := by unfold World.cell?; rw [HBX.out]; rfl
      have b3 : w0.cell? (adN.add hx) = some (.int .i64 nh) := (HBW.out.cell (p := adN.add hx) HADN.out).trans HCN.out
      have b4 : w0.cell? ⟨bd, 0, none⟩ = some (.int .i64 dd) := (HBW.out.cell (p := ⟨bd, 0, none⟩) HD.out.2.2).trans HD.out.1
      have B0 := Lib.hid b0
      have B4 := Lib.hid b4
      by_cases e1 : xn = nh
      · have e1b : (xn != nh) = false := by simp [e1]
        have HE1 := Lib.hid e1
        clear e1
        by_cases e2 : xw < 1
        · have e2b : decide (xw < 1) = true := by simpa using e2
          have HSK := Lib.hid (best_skip nh dd l k (by rw [← HX.out]; simp [elig]; omega))
          clear e2
          go_quiet (fail)
          go_wp2
          go_roundw
          case rel => exact ⟨k + 1, by rw [HSK.out, HQ.out], by go_num, by have := HLT.out; omega, ⟨pw_below_drewN HBW.out _⟩⟩
          case measure => have := HLT.out; simp [intOf]; omega
        · have e2b : decide (xw < 1) = false := by simpa using e2
          have HE2 := Lib.hid e2
          clear e2
          by_cases e3 : xw ≥ dd
          · have e3b : decide (xw ≥ dd) = true := by simpa using e3
            have HSK := Lib.hid (best_skip nh dd l k (by rw [← HX.out]; simp [elig]; omega))
            clear e3
            go_quiet (fail)
            go_wp2
            go_roundw
            case rel => exact ⟨k + 1, by rw [HSK.out, HQ.out], by go_num, by have := HLT.out; omega, ⟨pw_below_drewN HBW.out _⟩⟩
            case measure => have := HLT.out; simp [intOf]; omega
          · have e3b : decide (xw ≥ dd) = false := by simpa using e3
            have HEL := Lib.hid (show elig nh dd (ldAt l k) = true by rw [← HX.out]; have h1 := HE1.out; have h2 := HE2.out; simp [elig, h1]; omega)
            clear e3
            go_quiet (fail)
            clear b0 b1 b2 b3 b4 e1b e2b e3b
            go_upto_region 10 with (fail)
            obtain ⟨w2, hw2⟩ : ∃ w2, w2 = w0.drewN nq := ⟨_, rfl⟩
            rw [← hw2]
            have HB2 := Aside0.mk (show Below w0.heap.size w0 w2 by rw [hw2]; exact pw_below_drewN (Below.refl _ _) _)
            have HBW2 := Aside0.mk (below_step HBW.out HB2.out)
            clear hw2
            have HLW := Lib.hid (kLd.C_below HLC.out HBW2.out)
            have HCXL := Lib.hid (show (⟨w.heap.size, 0, none⟩ : Addr).block < w2.heap.size from Nat.lt_of_lt_of_le HGC.out HBW2.out.size)
            have HCX := Lib.hid ((HBW2.out.cell (p := ⟨w.heap.size, 0, none⟩) HGC.out).trans HCB3.out)
            have HX0L := Lib.hid (show (⟨wr.heap.size, 0, none⟩ : Addr).block < w2.heap.size by have := HB2.out.size; rw [HSZ0.out] at this; exact this)
            have HX0 := Lib.hid ((HB2.out.cell (p := ⟨wr.heap.size, 0, none⟩) (by rw [HSZ0.out]; exact Nat.lt_succ_self _)).trans B0.out)
            have HD2L := Lib.hid (show (⟨bd, 0, none⟩ : Addr).block < w2.heap.size from Nat.lt_of_lt_of_le HD.out.2.2 HBW2.out.size)
            have HD2 := Lib.hid ((HBW2.out.cell (p := ⟨bd, 0, none⟩) HD.out.2.2).trans HD.out.1)
            clear HBX B0 B4
            by_cases hq0 : q < 0
            · have hq0b : decide (q < 0) = true := by simpa using hq0
              have HSK := Lib.hid (best_first nh dd l k HEL.out (by rw [← HQ.out]; exact hq0))
              clear hq0
              go_quiet (fail)
              go_wp2
              go_roundw
              case rel => exact ⟨k + 1, by rw [HSK.out], by go_num, by have := HLT.out; omega, ⟨pw_below_drewN HBW2.out _⟩⟩
              case measure => have := HLT.out; simp [intOf]; omega
            · have hq0b : decide (q < 0) = false := by simpa using hq0
              obtain ⟨j, rfl⟩ : ∃ j : Nat, q = j := ⟨q.toNat, by omega⟩
              have HJK := Lib.hid (show j < k by omega)
              have hj : j < l.length := by have := HLT.out; have := HJK.out; omega
              have HJ := Lib.hid hj
              have j0 : (0 : Int) ≤ j := by omega
              have j1 : (j : Int) < l.length := by omega
              obtain ⟨_, e, hy, _⟩ := Ld_cell HLW.out hj
              cases e
              have HYL := Lib.hid (show (ad.add (j * 3)).block < w2.heap.size from cell_in hy)
              obtain ⟨y, hy0⟩ : ∃ y, y = ldAt l j := ⟨_, rfl⟩
              rw [← hy0] at hy
              have HYV := Lib.hid hy0
              obtain ⟨ys, yn, yw⟩ := y
              have HY := Lib.hid hy
              have HWK := Lib.hid (show 0 ≤ (ldAt l k).weight ∧ (ldAt l k).weight ≤ 1000000 from ⟨HF.out.w0 _ (ldAt_mem l k HLT.out), HF.out.w1 _ (ldAt_mem l k HLT.out)⟩)
              have HWJ := Lib.hid (show 0 ≤ (ldAt l j).weight ∧ (ldAt l j).weight ≤ 1000000 from ⟨HF.out.w0 _ (ldAt_mem l j hj), HF.out.w1 _ (ldAt_mem l j hj)⟩)
              obtain ⟨ok, hok⟩ : ∃ ok, ok = offI dd (ldAt l k).weight := ⟨_, rfl⟩
              obtain ⟨oj, hoj⟩ : ∃ oj, oj = offI dd (ldAt l j).weight := ⟨_, rfl⟩
              obtain ⟨ca, hca⟩ : ∃ ca, ca = cmpI ok oj := ⟨_, rfl⟩
              obtain ⟨cb, hcb⟩ : ∃ cb, cb = cmpI xs ys := ⟨_, rfl⟩
              obtain ⟨co, hco⟩ : ∃ co, co = if ca = 0 then cb else ca := ⟨_, rfl⟩
              have HOK := Lib.hid hok
              have HOJ := Lib.hid hoj
              have HCA := Lib.hid hca
              have HCBB := Lib.hid hcb
              have HCO := Lib.hid hco
              have HAH := Lib.hid (show decide (co < 0) = ahead dd (ldAt l k) (ldAt l j) by rw [hco, hca, hcb, hok, hoj, ← or_neg, ← HX.out, ← HYV.out])
              clear hq0 hy0 hy hok hoj hca hcb hco hj
              refine wp_region_noPanic ?_
              refine wp_region_held_drew (S := fun W => Below w2.heap.size w2 W) (by kernel_rfl) (by first | exact Below.refl _ _ | exact (Below.refl _ _).drew) (fun hHeld => ?_)
              obtain ⟨wd, hwd⟩ : ∃ wd, wd = w2.drew := ⟨_, rfl⟩
              rw [← hwd] at hHeld ⊢
              clear hwd
              refine wpAnyH_take (i := 0) (v := ?_) rfl (by kernel_rfl) (by kernel_rfl) (by kernel_rfl) (fun _ _ _ h => h) (Or.inl ⟨by rfl, ?_⟩) (by assumption) ?_
              rotate_left 1
              · first | (intro w hSw; go_simp; done) | (intro w hSw; go_simp; with_reducible rfl)
              try simp only [Act.put, List.getElem_toArray, List.getElem_cons_zero, List.getElem_cons_succ, List.setIfInBounds_toArray, List.set_cons_zero, List.set_cons_succ]
              refine wpAnyH_take (i := 1) (v := ?_) rfl (by kernel_rfl) (by kernel_rfl) (by kernel_rfl) (fun _ _ _ h => h) (Or.inl ⟨by rfl, ?_⟩) (by assumption) ?_
              rotate_left 1
              · first | (intro w hSw; go_simp; done) | (intro w hSw; go_simp; with_reducible rfl)
              try simp only [Act.put, List.getElem_toArray, List.getElem_cons_zero, List.getElem_cons_succ, List.setIfInBounds_toArray, List.set_cons_zero, List.set_cons_succ]
              refine wpAnyH_take (i := 2) (v := ?_) rfl (by kernel_rfl) (by kernel_rfl) (by kernel_rfl) (fun _ _ _ h => h) (Or.inl ⟨by rfl, ?_⟩) (by assumption) ?_
              rotate_left 1
              · first | (intro w hSw; go_simp; done) | (intro w hSw; go_simp; with_reducible rfl)
              try simp only [Act.put, List.getElem_toArray, List.getElem_cons_zero, List.getElem_cons_succ, List.setIfInBounds_toArray, List.set_cons_zero, List.set_cons_succ]
              refine wpAnyH_take (i := 3) (v := ?_) rfl (by kernel_rfl) (by kernel_rfl) (by kernel_rfl) (fun _ _ _ h => h) (Or.inl ⟨by rfl, ?_⟩) (by assumption) ?_
              rotate_left 1
              · first | (intro w hSw; go_simp; done) | (intro w hSw; go_simp; with_reducible rfl)
              try simp only [Act.put, List.getElem_toArray, List.getElem_cons_zero, List.getElem_cons_succ, List.setIfInBounds_toArray, List.set_cons_zero, List.set_cons_succ]
              refine wpAnyH_take (i := 4) (v := ?_) rfl (by kernel_rfl) (by kernel_rfl) (by kernel_rfl) (fun _ _ _ h => h) (Or.inl ⟨by rfl, ?_⟩) (by assumption) ?_
              rotate_left 1
              · first | (intro w hSw; go_simp; done) | (intro w hSw; go_simp; with_reducible rfl)
              try simp only [Act.put, List.getElem_toArray, List.getElem_cons_zero, List.getElem_cons_succ, List.setIfInBounds_toArray, List.set_cons_zero, List.set_cons_succ]
              refine wpAnyH_take (i := 6) (v := ?_) rfl (by kernel_rfl) (by kernel_rfl) (by kernel_rfl) (fun _ _ _ h => h) (Or.inl ⟨by rfl, ?_⟩) (by assumption) ?_
              rotate_left 1
              · first | (intro w hSw; go_simp; done) | (intro w hSw; go_simp; with_reducible rfl)
              try simp only [Act.put, List.getElem_toArray, List.getElem_cons_zero, List.getElem_cons_succ, List.setIfInBounds_toArray, List.set_cons_zero, List.set_cons_succ]
              refine wpAnyH_take (i := 7) (v := ?_) rfl (by kernel_rfl) (by kernel_rfl) (by kernel_rfl) (fun _ _ _ h => h) (Or.inl ⟨by rfl, ?_⟩) (by assumption) ?_
              rotate_left 1
              · first | (intro w hSw; go_simp; done) | (intro w hSw; go_simp; with_reducible rfl)
              try simp only [Act.put, List.getElem_toArray, List.getElem_cons_zero, List.getElem_cons_succ, List.setIfInBounds_toArray, List.set_cons_zero, List.set_cons_succ]
              refine wpAnyH_take (i := 10) (v := ?_) rfl (by kernel_rfl) (by kernel_rfl) (by kernel_rfl) (fun _ _ _ h => h) (Or.inl ⟨by rfl, ?_⟩) (by assumption) ?_
              rotate_left 1
              · first | (intro w hSw; go_simp; done) | (intro w hSw; go_simp; with_reducible rfl)
              try simp only [Act.put, List.getElem_toArray, List.getElem_cons_zero, List.getElem_cons_succ, List.setIfInBounds_toArray, List.set_cons_zero, List.set_cons_succ]
              refine wpAnyH_take (i := 11) (v := ?_) rfl (by kernel_rfl) (by kernel_rfl) (by kernel_rfl) (fun _ _ _ h => h) (Or.inl ⟨by rfl, ?_⟩) (by assumption) ?_
              rotate_left 1
              · first | (intro w hSw; have b1 := (hSw.cell HX0L.out).trans HX0.out; go_simp; done) | (intro w hSw; have b1 := (hSw.cell HX0L.out).trans HX0.out; go_simp; with_reducible rfl)
              try simp only [Act.put, List.getElem_toArray, List.getElem_cons_zero, List.getElem_cons_succ, List.setIfInBounds_toArray, List.set_cons_zero, List.set_cons_succ]
              refine wpAnyH_take (i := 12) (v := ?_) rfl (by kernel_rfl) (by kernel_rfl) (by kernel_rfl) (fun _ _ _ h => h) (Or.inl ⟨by rfl, ?_⟩) (by assumption) ?_
              rotate_left 1
              · first | (intro w hSw; have b1 := (hSw.cell HCXL.out).trans HCX.out; go_simp; done) | (intro w hSw; have b1 := (hSw.cell HCXL.out).trans HCX.out; go_simp; with_reducible rfl)
              try simp only [Act.put, List.getElem_toArray, List.getElem_cons_zero, List.getElem_cons_succ, List.setIfInBounds_toArray, List.set_cons_zero, List.set_cons_succ]
              refine wpAnyH_take (i := 13) (v := ?_) rfl (by kernel_rfl) (by kernel_rfl) (by kernel_rfl) (fun _ _ _ h => h) (Or.inl ⟨by rfl, ?_⟩) (by assumption) ?_
              rotate_left 1
              · first | (intro w hSw; go_simp; done) | (intro w hSw; go_simp; with_reducible rfl)
              try simp only [Act.put, List.getElem_toArray, List.getElem_cons_zero, List.getElem_cons_succ, List.setIfInBounds_toArray, List.set_cons_zero, List.set_cons_succ]
              refine wpAnyH_take (i := 14) (v := ?_) rfl (by kernel_rfl) (by kernel_rfl) (by kernel_rfl) (fun _ _ _ h => h) (Or.inl ⟨by rfl, ?_⟩) (by assumption) ?_
              rotate_left 1
              · first | (intro w hSw; go_simp; done) | (intro w hSw; go_simp; with_reducible rfl)
              try simp only [Act.put, List.getElem_toArray, List.getElem_cons_zero, List.getElem_cons_succ, List.setIfInBounds_toArray, List.set_cons_zero, List.set_cons_succ]
              refine wpAnyH_take (i := 15) (v := ?_) rfl (by kernel_rfl) (by kernel_rfl) (by kernel_rfl) (fun _ _ _ h => h) (Or.inl ⟨by rfl, ?_⟩) (by assumption) ?_
              rotate_left 1
              · first | (intro w hSw; go_simp; done) | (intro w hSw; go_simp; with_reducible rfl)
              try simp only [Act.put, List.getElem_toArray, List.getElem_cons_zero, List.getElem_cons_succ, List.setIfInBounds_toArray, List.set_cons_zero, List.set_cons_succ]
              refine wpAnyH_take (i := 16) (v := ?_) rfl (by kernel_rfl) (by kernel_rfl) (by kernel_rfl) (fun _ _ _ h => h) (Or.inl ⟨by rfl, ?_⟩) (by assumption) ?_
              rotate_left 1
              · first | (intro w hSw; have b1 := (hSw.cell HYL.out).trans HY.out; go_simp; done) | (intro w hSw; have b1 := (hSw.cell HYL.out).trans HY.out; go_simp; with_reducible rfl)
              try simp only [Act.put, List.getElem_toArray, List.getElem_cons_zero, List.getElem_cons_succ, List.setIfInBounds_toArray, List.set_cons_zero, List.set_cons_succ]
              refine wpAnyH_ready (rs := [5]) (by kernel_rfl) (by simp) ?_
              refine AllReadyH.cons rfl (fun K hK => ?_) AllReadyH.nil
              go_simp
              refine (off_calls _ bd w.heap.size dd (some ad) d l k ((hHeld.cell HD2L.out).trans HD2.out) ((hHeld.cell HCXL.out).trans HCX.out) (kLd.C_below HLW.out hHeld) HLT.out hd1 hd2 HWK.out.1 HWK.out.2).mono ?_; rintro e w5 ⟨rfl, ⟨⟨n5, rfl⟩⟩⟩; rw [← HOK.out]
              go_simp
              refine hK.out _ _ (pw_below_drewN hHeld _) (fun hHeld => ?_)
              clear hK K
              try simp only [Act.put, List.getElem_toArray, List.getElem_cons_zero, List.getElem_cons_succ, List.setIfInBounds_toArray, List.set_cons_zero, List.set_cons_succ]
              refine wpAnyH_ready (rs := [8]) (by kernel_rfl) (by simp) ?_
              refine AllReadyH.cons rfl (fun K hK => ?_) AllReadyH.nil
              go_simp
              refine (off_calls _ bd w.heap.size dd (some ad) d l j ((hHeld.cell HD2L.out).trans HD2.out) ((hHeld.cell HCXL.out).trans HCX.out) (kLd.C_below HLW.out hHeld) HJ.out hd1 hd2 HWJ.out.1 HWJ.out.2).mono ?_; rintro e w8 ⟨rfl, ⟨⟨n8, rfl⟩⟩⟩; rw [← HOJ.out]
              go_simp
              refine hK.out _ _ (by have h := pw_below_drewN hHeld n8; rw [World.drewN_drewN] at h; exact h) (fun hHeld => ?_)
              clear hK K
              try simp only [Act.put, List.getElem_toArray, List.getElem_cons_zero, List.getElem_cons_succ, List.setIfInBounds_toArray, List.set_cons_zero, List.set_cons_succ]
              refine wpAnyH_ready (rs := [9]) (by kernel_rfl) (by simp) ?_
              refine AllReadyH.cons rfl (fun K hK => ?_) AllReadyH.nil
              go_simp
              refine (compare_calls _ ok oj).mono ?_; rintro e w9 ⟨rfl, rfl⟩; rw [← HCA.out]
              go_simp
              refine hK.out _ _ hHeld (fun hHeld => ?_)
              clear hK K
              try simp only [Act.put, List.getElem_toArray, List.getElem_cons_zero, List.getElem_cons_succ, List.setIfInBounds_toArray, List.set_cons_zero, List.set_cons_succ]
              refine wpAnyH_ready (rs := [17]) (by kernel_rfl) (by simp) ?_
              refine AllReadyH.cons rfl (fun K hK => ?_) AllReadyH.nil
              go_simp
              refine (compare_calls _ xs ys).mono ?_; rintro e w9 ⟨rfl, rfl⟩; rw [← HCBB.out]
              go_simp
              refine hK.out _ _ hHeld (fun hHeld => ?_)
              clear hK K
              try simp only [Act.put, List.getElem_toArray, List.getElem_cons_zero, List.getElem_cons_succ, List.setIfInBounds_toArray, List.set_cons_zero, List.set_cons_succ]
              refine wpAnyH_ready (rs := [18]) (by kernel_rfl) (by simp) ?_
              refine AllReadyH.cons rfl (fun K hK => ?_) AllReadyH.nil
              go_simp
              skip
              go_simp
              refine hK.out _ _ (hHeld.alloc hHeld.size _) (fun hHeld => ?_)
              clear hK K
              try simp only [Act.put, List.getElem_toArray, List.getElem_cons_zero, List.getElem_cons_succ, List.setIfInBounds_toArray, List.set_cons_zero, List.set_cons_succ]
              refine wpAnyH_ready (rs := [19]) (by kernel_rfl) (by simp) ?_
              refine AllReadyH.cons rfl (fun K hK => ?_) AllReadyH.nil
              go_simp
              refine (or_calls _ _ _ ca cb (lit_at _ _ [ca, cb] (by simp) (by simp) rfl rfl)).mono ?_; rintro e w9 ⟨rfl, rfl⟩; rw [← HCO.out]
              go_simp
              refine hK.out _ _ hHeld (fun hHeld => ?_)
              clear hK K
              try simp only [Act.put, List.getElem_toArray, List.getElem_cons_zero, List.getElem_cons_succ, List.setIfInBounds_toArray, List.set_cons_zero, List.set_cons_succ]
              refine wpAnyH_take (i := 20) (v := ?_) rfl (by kernel_rfl) (by kernel_rfl) (by kernel_rfl) (fun _ _ _ h => h) (Or.inl ⟨by rfl, ?_⟩) (by assumption) ?_
              rotate_left 1
              · first | (intro w hSw; go_simp; done) | (intro w hSw; go_simp; with_reducible rfl)
              try simp only [Act.put, List.getElem_toArray, List.getElem_cons_zero, List.getElem_cons_succ, List.setIfInBounds_toArray, List.set_cons_zero, List.set_cons_succ]
              refine wpAnyH_take (i := 21) (v := ?_) rfl (by kernel_rfl) (by kernel_rfl) (by kernel_rfl) (fun _ _ _ h => h) (Or.inl ⟨by rfl, ?_⟩) (by assumption) ?_
              rotate_left 1
              · first | (intro w hSw; go_simp; done) | (intro w hSw; go_simp; with_reducible rfl)
              try simp only [Act.put, List.getElem_toArray, List.getElem_cons_zero, List.getElem_cons_succ, List.setIfInBounds_toArray, List.set_cons_zero, List.set_cons_succ]
              have HFIN := Aside0.mk (below_step HBW2.out hHeld)
              refine wpAnyH_done (by kernel_rfl) ?_ _
              refine NoPanic.normal ?_
              by_cases hah : co < 0
              · have hahb : decide (co < 0) = true := by simpa using hah
                have HSK := Lib.hid (best_more nh dd l k j HEL.out HQ.out.symm)
                have HAH2 := Lib.hid (HAH.out.symm.trans hahb)
                clear hahb
                go_wp2
                go_roundw
                case rel => exact ⟨k + 1, by rw [HSK.out, HAH2.out]; rfl, by go_num, by have := HLT.out; omega, ⟨HFIN.out⟩⟩
                case measure => have := HLT.out; simp [intOf]; omega
              · have hahb : decide (co < 0) = false := by simpa using hah
                have HSK := Lib.hid (best_more nh dd l k j HEL.out HQ.out.symm)
                have HAH2 := Lib.hid (HAH.out.symm.trans hahb)
                clear hahb
                go_wp2
                go_roundw
                case rel => exact ⟨k + 1, by rw [HSK.out, HAH2.out]; rfl, by go_num, by have := HLT.out; omega, ⟨HFIN.out⟩⟩
                case measure => have := HLT.out; simp [intOf]; omega
      · have e1b : (xn != nh) = true := by simpa using e1
        have HSK := Lib.hid (best_skip nh dd l k (by rw [← HX.out]; simp [elig, e1]))
        clear e1
        go_quiet (fail)
        go_wp2
        go_roundw
        case rel => exact ⟨k + 1, by rw [HSK.out, HQ.out], by go_num, by have := HLT.out; omega, ⟨pw_below_drewN HBW.out _⟩⟩
        case measure => have := HLT.out; simp [intOf]; omega
    · have k1 : ¬ (k : Int) < l.length := by omega
      have hh : k = l.length := by omega
      have HH := Lib.hid hh
      clear hlt hh
      have b3 := (HB.out.cell (p := adN.add lx) (cell_in (C_cell2 HRC.out HNL.out))).trans (C_cell2 HRC.out HNL.out)
      go_wp2
      go_quiet (fail)
      go_wp2
      go_ret2
      refine ⟨hi, lo, by rw [← HSS.out]; exact HHI.out, by rw [← HSS.out]; exact HLO.out, ?_, below_step HW0.out (pw_below_drewN HB.out _)⟩
      rw [← HSS.out, ← HHX.out, ← HLX.out, ← HNHV.out, ← HDD.out, HH.out]
      rfl
end Go.Proofs.YthgfodfkjlpegaaDoor
