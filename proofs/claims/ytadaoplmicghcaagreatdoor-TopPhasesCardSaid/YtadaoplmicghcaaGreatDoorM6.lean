/- What an end of a session does. -/
import Derived.Test.YtadaoplmicghcaaGreatDoorM5
namespace Go.Proofs.YtadaoplmicghcaaGreatDoor.Lk
open Go.RowKit Go.Proofs.YtadaoplmicghcaaGreatDoorW.PrintWords Go.Proofs.YtadaoplmicghcaaGreatDoorW.PrintLast Go.Proofs.YtadaoplmicghcaaGreatDoorW.PrintMore
attribute [local go_sem] max2_int min2_int max_two min_two
set_option linter.unusedVariables false
set_option linter.unusedSimpArgs false
set_option maxRecDepth 100000 in
set_option maxHeartbeats 2000000 in
theorem linkPacket_calls (w : World) (lo : Nat) (K : Nat → Prop) (N : En) (p : Nat) (hF : EnFine N) (hE : IsEnd w lo K N p) (hs : ∀ m ∈ N.out, m.length ≤ 1000) (hgo : N.tld < N.so ∨ N.rcv = true) :
    Calls Tryz.prog 26 #[.pointer (some ⟨p, 0, none⟩)] w fun e w' => ∃ A c, e = .returned (.tuple #[.slice A (pkt N).length c, .bool true]) ∧ kB.R 5 w' w.heap.size (fun _ => True) (.slice A (pkt N).length c) (pkt N) ∧ IsEnd w' lo K { N with rcv := false } p ∧ Moved w w' lo K K := by
  obtain ⟨A, c, z⟩ := hE
  have HZ := Aside0.mk z
  have HF := Lib.hid hF
  have HS := Lib.hid hs
  obtain ⟨c0, c1, c2, c3, c4, c5, c6⟩ := z.cells
  have h1 := hF.ol
  have h2 := hF.so1
  have h3 := hF.to1
  have h4 := hF.sg1
  have h5 := hF.gl
  have h6 := hF.w2
  have b1 : (N.out.length : Int) ≤ 100000 := by omega
  have b2 : (N.so : Int) ≤ 100000 := by omega
  have b3 : (N.tld : Int) ≤ N.so := by omega
  have b4 : (N.sg : Int) ≤ 100000 := by omega
  have b5 : (N.win : Int) ≤ 64 := by omega
  have b6 : (0 : Int) ≤ N.tld := by omega
  have b7 : (0 : Int) ≤ N.sg := by omega
  have u1 : IntKind.u64.wrap (N.sg : Int) = (N.sg : Int) := by rw [IntKind.wrap_u64]; omega
  have u2 : IntKind.u64.wrap (N.tld : Int) = (N.tld : Int) := by rw [IntKind.wrap_u64]; omega
  have HUL := Lib.hid (show (uintsF N.sg).length ≤ 10 from (uintsF_len _ (by omega)).2)
  clear z hF hs h1 h2 h3 h4 h5 h6
  by_cases g1 : N.tld < N.so
  · have g1b : decide ((N.tld : Int) ≥ N.so) = false := decide_eq_false (by omega)
    have g1c : decide (N.so ≤ N.tld) = false := decide_eq_false (by omega)
    have g1d : ¬ N.so ≤ N.tld := by omega
    clear g1 hgo
    go_enter Tryz.func26, Tryz.ntmps26
    go_wp2
    go_quiet (fail)
    go_upto_region 3 with (fail)
    obtain ⟨wq, hwq⟩ : ∃ wq, wq = w.drewN nq := ⟨_, rfl⟩
    rw [← hwq]
    have HZQ := Aside0.mk (show EndAt wq lo K N p A c by rw [hwq]; exact HZ.out.stay (pw_below_drewN (Below.refl _ _) _))
    have HMQ := Aside0.mk (show Moved w wq lo K K by rw [hwq]; exact Moved.drewN _ _ _ _)
    clear hwq c0 c1 c2 c3 c4 c5 c6
    have c6 := (HZQ.out.cells).2.2.2.2.2.2
    have f6 := blk_frozen HZQ.out.blk 6
    go_upto_region 4 with (fail)
    obtain ⟨w1, hw1⟩ : ∃ w1, w1 = wq.setCell ⟨p, 6, none⟩ (.bool false) := ⟨_, rfl⟩
    rw [← hw1]
    have HZ1 := Aside0.mk (show EndAt w1 lo K { N with rcv := false } p A c by rw [hw1]; exact HZQ.out.set 6 (.bool false) rfl HZQ.out.ro)
    have HM1 := Aside0.mk (show Moved w w1 lo K K by rw [hw1]; exact HMQ.out.trans (moved_set HZQ.out 6 _))
    clear hw1 c6 f6
    obtain ⟨c0, c1, c2, c3, c4, c5, c6⟩ := HZ1.out.cells
    have C0 := Lib.hid c0
    have C1 := Lib.hid c1
    have C2 := Lib.hid c2
    have C3 := Lib.hid c3
    have C5 := Lib.hid c5
    have CL := Lib.hid (HZ1.out.kb p HZ1.out.kp).2
    clear c0 c1 c2 c3 c4 c5 c6
    simp only [] at C0 C1 C2 C3 C5
    go_wp2
    refine wp_region_noPanic ?_
    refine wp_region_held_drew (S := fun W => Below w1.heap.size w1 W) (by kernel_rfl) (by first | exact Below.refl _ _ | exact (Below.refl _ _).drew) (fun hHeld => ?_)
    refine wpAnyH_take (i := 0) (v := ?_) rfl (by kernel_rfl) (by kernel_rfl) (by kernel_rfl) (fun _ _ _ h => h) (Or.inl ⟨by rfl, ?_⟩) (by assumption) ?_
    rotate_left 1
    · first | (intro w hSw; go_simp; done) | (intro w hSw; go_simp; with_reducible rfl)
    try simp only [Act.put, List.getElem_toArray, List.getElem_cons_zero, List.getElem_cons_succ, List.setIfInBounds_toArray, List.set_cons_zero, List.set_cons_succ]
    refine wpAnyH_take (i := 1) (v := ?_) rfl (by kernel_rfl) (by kernel_rfl) (by kernel_rfl) (fun _ _ _ h => h) (Or.inl ⟨by rfl, ?_⟩) (by assumption) ?_
    rotate_left 1
    · first | (intro w hSw; go_simp; done) | (intro w hSw; go_simp; with_reducible rfl)
    try simp only [Act.put, List.getElem_toArray, List.getElem_cons_zero, List.getElem_cons_succ, List.setIfInBounds_toArray, List.set_cons_zero, List.set_cons_succ]
    refine wpAnyH_take (i := 2) (v := ?_) rfl (by kernel_rfl) (by kernel_rfl) (by kernel_rfl) (fun _ _ _ h => h) (Or.inl ⟨by rfl, ?_⟩) (by assumption) ?_
    rotate_left 1
    · first | (intro w hSw; go_simp; done) | (intro w hSw; go_simp; with_reducible rfl)
    try simp only [Act.put, List.getElem_toArray, List.getElem_cons_zero, List.getElem_cons_succ, List.setIfInBounds_toArray, List.set_cons_zero, List.set_cons_succ]
    refine wpAnyH_take (i := 3) (v := ?_) rfl (by kernel_rfl) (by kernel_rfl) (by kernel_rfl) (fun _ _ _ h => h) (Or.inl ⟨by rfl, ?_⟩) (by assumption) ?_
    rotate_left 1
    · first | (intro w hSw; have c0 := Below.keeps hSw C0.out CL.out; have c1 := Below.keeps hSw C1.out CL.out; have c2 := Below.keeps hSw C2.out CL.out; have c3 := Below.keeps hSw C3.out CL.out; have c5 := Below.keeps hSw C5.out CL.out; go_simp; done) | (intro w hSw; have c0 := Below.keeps hSw C0.out CL.out; have c1 := Below.keeps hSw C1.out CL.out; have c2 := Below.keeps hSw C2.out CL.out; have c3 := Below.keeps hSw C3.out CL.out; have c5 := Below.keeps hSw C5.out CL.out; go_simp; with_reducible rfl)
    try simp only [Act.put, List.getElem_toArray, List.getElem_cons_zero, List.getElem_cons_succ, List.setIfInBounds_toArray, List.set_cons_zero, List.set_cons_succ]
    refine wpAnyH_take (i := 4) (v := ?_) rfl (by kernel_rfl) (by kernel_rfl) (by kernel_rfl) (fun _ _ _ h => h) (Or.inl ⟨by rfl, ?_⟩) (by assumption) ?_
    rotate_left 1
    · first | (intro w hSw; go_simp; done) | (intro w hSw; go_simp; with_reducible rfl)
    try simp only [Act.put, List.getElem_toArray, List.getElem_cons_zero, List.getElem_cons_succ, List.setIfInBounds_toArray, List.set_cons_zero, List.set_cons_succ]
    refine wpAnyH_take (i := 6) (v := ?_) rfl (by kernel_rfl) (by kernel_rfl) (by kernel_rfl) (fun _ _ _ h => h) (Or.inl ⟨by rfl, ?_⟩) (by assumption) ?_
    rotate_left 1
    · first | (intro w hSw; go_simp; done) | (intro w hSw; go_simp; with_reducible rfl)
    try simp only [Act.put, List.getElem_toArray, List.getElem_cons_zero, List.getElem_cons_succ, List.setIfInBounds_toArray, List.set_cons_zero, List.set_cons_succ]
    refine wpAnyH_take (i := 7) (v := ?_) rfl (by kernel_rfl) (by kernel_rfl) (by kernel_rfl) (fun _ _ _ h => h) (Or.inl ⟨by rfl, ?_⟩) (by assumption) ?_
    rotate_left 1
    · first | (intro w hSw; go_simp; done) | (intro w hSw; go_simp; with_reducible rfl)
    try simp only [Act.put, List.getElem_toArray, List.getElem_cons_zero, List.getElem_cons_succ, List.setIfInBounds_toArray, List.set_cons_zero, List.set_cons_succ]
    refine wpAnyH_take (i := 8) (v := ?_) rfl (by kernel_rfl) (by kernel_rfl) (by kernel_rfl) (fun _ _ _ h => h) (Or.inl ⟨by rfl, ?_⟩) (by assumption) ?_
    rotate_left 1
    · first | (intro w hSw; go_simp; done) | (intro w hSw; go_simp; with_reducible rfl)
    try simp only [Act.put, List.getElem_toArray, List.getElem_cons_zero, List.getElem_cons_succ, List.setIfInBounds_toArray, List.set_cons_zero, List.set_cons_succ]
    refine wpAnyH_take (i := 9) (v := ?_) rfl (by kernel_rfl) (by kernel_rfl) (by kernel_rfl) (fun _ _ _ h => h) (Or.inl ⟨by rfl, ?_⟩) (by assumption) ?_
    rotate_left 1
    · first | (intro w hSw; have c0 := Below.keeps hSw C0.out CL.out; have c1 := Below.keeps hSw C1.out CL.out; have c2 := Below.keeps hSw C2.out CL.out; have c3 := Below.keeps hSw C3.out CL.out; have c5 := Below.keeps hSw C5.out CL.out; go_simp; done) | (intro w hSw; have c0 := Below.keeps hSw C0.out CL.out; have c1 := Below.keeps hSw C1.out CL.out; have c2 := Below.keeps hSw C2.out CL.out; have c3 := Below.keeps hSw C3.out CL.out; have c5 := Below.keeps hSw C5.out CL.out; go_simp; with_reducible rfl)
    try simp only [Act.put, List.getElem_toArray, List.getElem_cons_zero, List.getElem_cons_succ, List.setIfInBounds_toArray, List.set_cons_zero, List.set_cons_succ]
    refine wpAnyH_take (i := 10) (v := ?_) rfl (by kernel_rfl) (by kernel_rfl) (by kernel_rfl) (fun _ _ _ h => h) (Or.inl ⟨by rfl, ?_⟩) (by assumption) ?_
    rotate_left 1
    · first | (intro w hSw; go_simp; done) | (intro w hSw; go_simp; with_reducible rfl)
    try simp only [Act.put, List.getElem_toArray, List.getElem_cons_zero, List.getElem_cons_succ, List.setIfInBounds_toArray, List.set_cons_zero, List.set_cons_succ]
    refine wpAnyH_ready (rs := [5]) (by kernel_rfl) (by simp) ?_
    refine AllReadyH.cons rfl (fun K hK => ?_) AllReadyH.nil
    go_simp
    (go_at_call 53; refine (putUint_calls _ _ _ [] N.sg (Kd.C_nil _ _) (by omega) (by simp)).mono ?_; intro e wa hn; obtain ⟨Bwa, kwa, rfl, hcl, hR, hC, hb⟩ := hn.open_; have HRwa := Aside0.mk hR; have HCwa := Aside0.mk hC; have hHa := below_step hHeld hb; clear hn hcl hR hC hb)
    go_simp
    refine hK.out _ _ hHa (fun hHeld => ?_)
    clear hK K
    try simp only [Act.put, List.getElem_toArray, List.getElem_cons_zero, List.getElem_cons_succ, List.setIfInBounds_toArray, List.set_cons_zero, List.set_cons_succ]
    refine wpAnyH_ready (rs := [11]) (by kernel_rfl) (by simp) ?_
    refine AllReadyH.cons rfl (fun K hK => ?_) AllReadyH.nil
    go_simp
    (go_at_call 53; refine (putUint_calls _ _ _ (uintsF N.sg) N.tld (by simpa using HCwa.out) (by omega) (by have := HUL.out; simp; omega)).mono ?_; intro e wb hn; obtain ⟨Bwb, kwb, rfl, hcl, hR, hC, hb⟩ := hn.open_; have HRwb := Aside0.mk hR; have HCwb := Aside0.mk hC; have hHb := below_step hHeld hb; clear hn hcl hR hC hb)
    go_simp
    refine hK.out _ _ hHb (fun hHeld => ?_)
    clear hK K
    try simp only [Act.put, List.getElem_toArray, List.getElem_cons_zero, List.getElem_cons_succ, List.setIfInBounds_toArray, List.set_cons_zero, List.set_cons_succ]
    refine wpAnyH_take (i := 12) (v := ?_) rfl (by kernel_rfl) (by kernel_rfl) (by kernel_rfl) (fun _ _ _ h => h) (Or.inl ⟨by rfl, ?_⟩) (by assumption) ?_
    rotate_left 1
    · first | (intro w hSw; go_simp; done) | (intro w hSw; go_simp; with_reducible rfl)
    try simp only [Act.put, List.getElem_toArray, List.getElem_cons_zero, List.getElem_cons_succ, List.setIfInBounds_toArray, List.set_cons_zero, List.set_cons_succ]
    refine wpAnyH_done (by kernel_rfl) ?_ _
    refine NoPanic.normal ?_
    have HW1 := Aside0.mk (show Below w1.heap.size w1 wb from hHeld)
    go_upto_region 5 with (fail)
    obtain ⟨hd, hhd⟩ : ∃ hd, hd = uintsF N.sg ++ uintsF N.tld := ⟨_, rfl⟩
    have HHDE := Lib.hid hhd
    have HRB := Aside0.mk (show kB.R 5 wb w1.heap.size (fun _ => True) (.slice Bwb hd.length kwb) hd by rw [hhd]; exact Kd.R_lower HRwb.out hHa.size)
    have hhl : hd.length = (uintsF N.sg).length + (uintsF N.tld).length := by rw [hhd, List.length_append]
    have HHL := Lib.hid (show hd.length ≤ 20 by have h1 := HUL.out; have h2 := (uintsF_len N.tld (by omega)).2; omega)
    rw [← hhl]
    obtain ⟨x, hx⟩ : ∃ x, x = (N.so : Int) := ⟨_, rfl⟩
    obtain ⟨y, hy⟩ : ∃ y, y = (N.tld : Int) := ⟨_, rfl⟩
    obtain ⟨z, hz⟩ : ∃ z, z = (N.win : Int) := ⟨_, rfl⟩
    obtain ⟨mn, hmn⟩ : ∃ mn, mn = min N.so (N.tld + N.win) := ⟨_, rfl⟩
    have hmin : (if y + z < x then y + z else x) = (mn : Int) := by
      rw [hx, hy, hz, hmn]
      by_cases h : N.tld + N.win < N.so
      · rw [if_pos (by omega), Nat.min_eq_right (by omega)]; omega
      · rw [if_neg (by omega), Nat.min_eq_left (by omega)]
    obtain ⟨mi, hmi⟩ : ∃ mi, mi = (mn : Int) := ⟨_, rfl⟩
    rw [← hmi] at hmin
    have hrow := HZ1.out.ro.reads'
    obtain ⟨AW, hwl, hCW⟩ := L_win (lo := N.tld) (hi := mn) hrow.2 (by omega) (by have := HF.out.so1; show mn ≤ N.out.length; omega) hrow.1
    rw [← hy, ← hmi] at hwl
    have HWLE := Lib.hid (show (N.out.take mn).drop N.tld = wl N by rw [hmn]; rfl)
    obtain ⟨WL, hWL⟩ : ∃ WL, WL = (N.out.take mn).drop N.tld := ⟨_, rfl⟩
    have HWL := Lib.hid hWL
    have HWLL := Lib.hid (show WL.length ≤ 64 by rw [hWL, List.length_drop, List.length_take]; have := HF.out.w2; omega)
    have HWLM := Lib.hid (show ∀ m ∈ WL, m.length ≤ 1000 from fun m hm => HS.out m (by rw [hWL] at hm; exact List.mem_of_mem_take (List.mem_of_mem_drop hm)))
    have hcw2 : kBs.C w1 AW WL.length WL := by rw [hWL]; exact hCW
    have HCW := Aside0.mk hcw2
    have hwl2 : ∀ W : World, (Instr.slice 79 (.slice A N.out.length c) (some (.int .i64 y)) (some (.int .i64 mi)) none).run Tryz.prog W = .ok (.slice AW WL.length (c - N.tld)) W := fun W => by rw [hWL]; exact hwl W
    have D0 := Lib.hid (show wb.cell? ⟨p, 0, none⟩ = some (.int .i64 z) by rw [hz]; exact Below.keeps HW1.out C0.out CL.out)
    have D1 := Lib.hid (show wb.cell? ⟨p, 1, none⟩ = some (.slice A N.out.length c) from Below.keeps HW1.out C1.out CL.out)
    have D2 := Lib.hid (show wb.cell? ⟨p, 2, none⟩ = some (.int .i64 x) by rw [hx]; exact Below.keeps HW1.out C2.out CL.out)
    have D3 := Lib.hid (show wb.cell? ⟨p, 3, none⟩ = some (.int .i64 y) by rw [hy]; exact Below.keeps HW1.out C3.out CL.out)
    have DL := Lib.hid (Nat.lt_of_lt_of_le CL.out HW1.out.size)
    have y0 : 0 ≤ y := by omega
    have x1 : x ≤ 100000 := by omega
    have y1 : y ≤ 100000 := by omega
    have z1 : z ≤ 64 := by omega
    have z0 : 0 ≤ z := by omega
    have hyz : IntKind.i64.wrap (y + z) = y + z := by rw [IntKind.wrap_i64]; omega
    have w64 : (WL.length : Int) ≤ 64 := by have := HWLL.out; omega
    clear hhd hx hy hz hmn hmi hrow hwl hCW hWL hcw2 hHa hHb hhl
    go_wp2
    refine wp_region_noPanic ?_
    refine wp_region_held_drew (S := fun W => Below wb.heap.size wb W) (by kernel_rfl) (by first | exact Below.refl _ _ | exact (Below.refl _ _).drew) (fun hHeld => ?_)
    refine wpAnyH_take (i := 0) (v := ?_) rfl (by kernel_rfl) (by kernel_rfl) (by kernel_rfl) (fun _ _ _ h => h) (Or.inl ⟨by rfl, ?_⟩) (by assumption) ?_
    rotate_left 1
    · first | (intro w hSw; go_simp; done) | (intro w hSw; go_simp; with_reducible rfl)
    try simp only [Act.put, List.getElem_toArray, List.getElem_cons_zero, List.getElem_cons_succ, List.setIfInBounds_toArray, List.set_cons_zero, List.set_cons_succ]
    refine wpAnyH_take (i := 1) (v := ?_) rfl (by kernel_rfl) (by kernel_rfl) (by kernel_rfl) (fun _ _ _ h => h) (Or.inl ⟨by rfl, ?_⟩) (by assumption) ?_
    rotate_left 1
    · first | (intro w hSw; go_simp; done) | (intro w hSw; go_simp; with_reducible rfl)
    try simp only [Act.put, List.getElem_toArray, List.getElem_cons_zero, List.getElem_cons_succ, List.setIfInBounds_toArray, List.set_cons_zero, List.set_cons_succ]
    refine wpAnyH_take (i := 2) (v := ?_) rfl (by kernel_rfl) (by kernel_rfl) (by kernel_rfl) (fun _ _ _ h => h) (Or.inl ⟨by rfl, ?_⟩) (by assumption) ?_
    rotate_left 1
    · first | (intro w hSw; go_simp; done) | (intro w hSw; go_simp; with_reducible rfl)
    try simp only [Act.put, List.getElem_toArray, List.getElem_cons_zero, List.getElem_cons_succ, List.setIfInBounds_toArray, List.set_cons_zero, List.set_cons_succ]
    refine wpAnyH_take (i := 3) (v := ?_) rfl (by kernel_rfl) (by kernel_rfl) (by kernel_rfl) (fun _ _ _ h => h) (Or.inl ⟨by rfl, ?_⟩) (by assumption) ?_
    rotate_left 1
    · first | (intro w hSw; have c0 := Below.keeps hSw D0.out DL.out; have c1 := Below.keeps hSw D1.out DL.out; have c2 := Below.keeps hSw D2.out DL.out; have c3 := Below.keeps hSw D3.out DL.out; go_simp; done) | (intro w hSw; have c0 := Below.keeps hSw D0.out DL.out; have c1 := Below.keeps hSw D1.out DL.out; have c2 := Below.keeps hSw D2.out DL.out; have c3 := Below.keeps hSw D3.out DL.out; go_simp; with_reducible rfl)
    try simp only [Act.put, List.getElem_toArray, List.getElem_cons_zero, List.getElem_cons_succ, List.setIfInBounds_toArray, List.set_cons_zero, List.set_cons_succ]
    refine wpAnyH_take (i := 4) (v := ?_) rfl (by kernel_rfl) (by kernel_rfl) (by kernel_rfl) (fun _ _ _ h => h) (Or.inl ⟨by rfl, ?_⟩) (by assumption) ?_
    rotate_left 1
    · first | (intro w hSw; go_simp; done) | (intro w hSw; go_simp; with_reducible rfl)
    try simp only [Act.put, List.getElem_toArray, List.getElem_cons_zero, List.getElem_cons_succ, List.setIfInBounds_toArray, List.set_cons_zero, List.set_cons_succ]
    refine wpAnyH_take (i := 5) (v := ?_) rfl (by kernel_rfl) (by kernel_rfl) (by kernel_rfl) (fun _ _ _ h => h) (Or.inl ⟨by rfl, ?_⟩) (by assumption) ?_
    rotate_left 1
    · first | (intro w hSw; go_simp; done) | (intro w hSw; go_simp; with_reducible rfl)
    try simp only [Act.put, List.getElem_toArray, List.getElem_cons_zero, List.getElem_cons_succ, List.setIfInBounds_toArray, List.set_cons_zero, List.set_cons_succ]
    refine wpAnyH_take (i := 6) (v := ?_) rfl (by kernel_rfl) (by kernel_rfl) (by kernel_rfl) (fun _ _ _ h => h) (Or.inl ⟨by rfl, ?_⟩) (by assumption) ?_
    rotate_left 1
    · first | (intro w hSw; go_simp; done) | (intro w hSw; go_simp; with_reducible rfl)
    try simp only [Act.put, List.getElem_toArray, List.getElem_cons_zero, List.getElem_cons_succ, List.setIfInBounds_toArray, List.set_cons_zero, List.set_cons_succ]
    refine wpAnyH_take (i := 7) (v := ?_) rfl (by kernel_rfl) (by kernel_rfl) (by kernel_rfl) (fun _ _ _ h => h) (Or.inl ⟨by rfl, ?_⟩) (by assumption) ?_
    rotate_left 1
    · first | (intro w hSw; have c0 := Below.keeps hSw D0.out DL.out; have c1 := Below.keeps hSw D1.out DL.out; have c2 := Below.keeps hSw D2.out DL.out; have c3 := Below.keeps hSw D3.out DL.out; go_simp; done) | (intro w hSw; have c0 := Below.keeps hSw D0.out DL.out; have c1 := Below.keeps hSw D1.out DL.out; have c2 := Below.keeps hSw D2.out DL.out; have c3 := Below.keeps hSw D3.out DL.out; go_simp; with_reducible rfl)
    try simp only [Act.put, List.getElem_toArray, List.getElem_cons_zero, List.getElem_cons_succ, List.setIfInBounds_toArray, List.set_cons_zero, List.set_cons_succ]
    refine wpAnyH_take (i := 8) (v := ?_) rfl (by kernel_rfl) (by kernel_rfl) (by kernel_rfl) (fun _ _ _ h => h) (Or.inl ⟨by rfl, ?_⟩) (by assumption) ?_
    rotate_left 1
    · first | (intro w hSw; go_simp; done) | (intro w hSw; go_simp; with_reducible rfl)
    try simp only [Act.put, List.getElem_toArray, List.getElem_cons_zero, List.getElem_cons_succ, List.setIfInBounds_toArray, List.set_cons_zero, List.set_cons_succ]
    refine wpAnyH_take (i := 9) (v := ?_) rfl (by kernel_rfl) (by kernel_rfl) (by kernel_rfl) (fun _ _ _ h => h) (Or.inl ⟨by rfl, ?_⟩) (by assumption) ?_
    rotate_left 1
    · first | (intro w hSw; go_simp; done) | (intro w hSw; go_simp; with_reducible rfl)
    try simp only [Act.put, List.getElem_toArray, List.getElem_cons_zero, List.getElem_cons_succ, List.setIfInBounds_toArray, List.set_cons_zero, List.set_cons_succ]
    refine wpAnyH_take (i := 10) (v := ?_) rfl (by kernel_rfl) (by kernel_rfl) (by kernel_rfl) (fun _ _ _ h => h) (Or.inl ⟨by rfl, ?_⟩) (by assumption) ?_
    rotate_left 1
    · first | (intro w hSw; go_simp; done) | (intro w hSw; go_simp; with_reducible rfl)
    try simp only [Act.put, List.getElem_toArray, List.getElem_cons_zero, List.getElem_cons_succ, List.setIfInBounds_toArray, List.set_cons_zero, List.set_cons_succ]
    refine wpAnyH_take (i := 11) (v := ?_) rfl (by kernel_rfl) (by kernel_rfl) (by kernel_rfl) (fun _ _ _ h => h) (Or.inl ⟨by rfl, ?_⟩) (by assumption) ?_
    rotate_left 1
    · first | (intro w hSw; have c0 := Below.keeps hSw D0.out DL.out; have c1 := Below.keeps hSw D1.out DL.out; have c2 := Below.keeps hSw D2.out DL.out; have c3 := Below.keeps hSw D3.out DL.out; go_simp; done) | (intro w hSw; have c0 := Below.keeps hSw D0.out DL.out; have c1 := Below.keeps hSw D1.out DL.out; have c2 := Below.keeps hSw D2.out DL.out; have c3 := Below.keeps hSw D3.out DL.out; go_simp; with_reducible rfl)
    try simp only [Act.put, List.getElem_toArray, List.getElem_cons_zero, List.getElem_cons_succ, List.setIfInBounds_toArray, List.set_cons_zero, List.set_cons_succ]
    refine wpAnyH_take (i := 12) (v := ?_) rfl (by kernel_rfl) (by kernel_rfl) (by kernel_rfl) (fun _ _ _ h => h) (Or.inl ⟨by rfl, ?_⟩) (by assumption) ?_
    rotate_left 1
    · first | (intro w hSw; go_simp; done) | (intro w hSw; go_simp; with_reducible rfl)
    try simp only [Act.put, List.getElem_toArray, List.getElem_cons_zero, List.getElem_cons_succ, List.setIfInBounds_toArray, List.set_cons_zero, List.set_cons_succ]
    refine wpAnyH_take (i := 13) (v := ?_) rfl (by kernel_rfl) (by kernel_rfl) (by kernel_rfl) (fun _ _ _ h => h) (Or.inl ⟨by rfl, ?_⟩) (by assumption) ?_
    rotate_left 1
    · first | (intro w hSw; go_simp; done) | (intro w hSw; go_simp; with_reducible rfl)
    try simp only [Act.put, List.getElem_toArray, List.getElem_cons_zero, List.getElem_cons_succ, List.setIfInBounds_toArray, List.set_cons_zero, List.set_cons_succ]
    refine wpAnyH_take (i := 14) (v := ?_) rfl (by kernel_rfl) (by kernel_rfl) (by kernel_rfl) (fun _ _ _ h => h) (Or.inl ⟨by rfl, ?_⟩) (by assumption) ?_
    rotate_left 1
    · first | (intro w hSw; go_simp; done) | (intro w hSw; go_simp; with_reducible rfl)
    try simp only [Act.put, List.getElem_toArray, List.getElem_cons_zero, List.getElem_cons_succ, List.setIfInBounds_toArray, List.set_cons_zero, List.set_cons_succ]
    refine wpAnyH_take (i := 15) (v := ?_) rfl (by kernel_rfl) (by kernel_rfl) (by kernel_rfl) (fun _ _ _ h => h) (Or.inl ⟨by rfl, ?_⟩) (by assumption) ?_
    rotate_left 1
    · first | (intro w hSw; have c0 := Below.keeps hSw D0.out DL.out; have c1 := Below.keeps hSw D1.out DL.out; have c2 := Below.keeps hSw D2.out DL.out; have c3 := Below.keeps hSw D3.out DL.out; go_simp; done) | (intro w hSw; have c0 := Below.keeps hSw D0.out DL.out; have c1 := Below.keeps hSw D1.out DL.out; have c2 := Below.keeps hSw D2.out DL.out; have c3 := Below.keeps hSw D3.out DL.out; go_simp; with_reducible rfl)
    try simp only [Act.put, List.getElem_toArray, List.getElem_cons_zero, List.getElem_cons_succ, List.setIfInBounds_toArray, List.set_cons_zero, List.set_cons_succ]
    refine wpAnyH_take (i := 16) (v := ?_) rfl (by kernel_rfl) (by kernel_rfl) (by kernel_rfl) (fun _ _ _ h => h) (Or.inl ⟨by rfl, ?_⟩) (by assumption) ?_
    rotate_left 1
    · first | (intro w hSw; go_simp; done) | (intro w hSw; go_simp; with_reducible rfl)
    try simp only [Act.put, List.getElem_toArray, List.getElem_cons_zero, List.getElem_cons_succ, List.setIfInBounds_toArray, List.set_cons_zero, List.set_cons_succ]
    refine wpAnyH_take (i := 17) (v := ?_) rfl (by kernel_rfl) (by kernel_rfl) (by kernel_rfl) (fun _ _ _ h => h) (Or.inl ⟨by rfl, ?_⟩) (by assumption) ?_
    rotate_left 1
    · first | (intro w hSw; go_simp; done) | (intro w hSw; go_simp; with_reducible rfl)
    try simp only [Act.put, List.getElem_toArray, List.getElem_cons_zero, List.getElem_cons_succ, List.setIfInBounds_toArray, List.set_cons_zero, List.set_cons_succ]
    refine wpAnyH_take (i := 18) (v := ?_) rfl (by kernel_rfl) (by kernel_rfl) (by kernel_rfl) (fun _ _ _ h => h) (Or.inl ⟨by rfl, ?_⟩) (by assumption) ?_
    rotate_left 1
    · first | (intro w hSw; go_simp; done) | (intro w hSw; go_simp; with_reducible rfl)
    try simp only [Act.put, List.getElem_toArray, List.getElem_cons_zero, List.getElem_cons_succ, List.setIfInBounds_toArray, List.set_cons_zero, List.set_cons_succ]
    refine wpAnyH_take (i := 19) (v := ?_) rfl (by kernel_rfl) (by kernel_rfl) (by kernel_rfl) (fun _ _ _ h => h) (Or.inl ⟨by rfl, ?_⟩) (by assumption) ?_
    rotate_left 1
    · first | (intro w hSw; have c0 := Below.keeps hSw D0.out DL.out; have c1 := Below.keeps hSw D1.out DL.out; have c2 := Below.keeps hSw D2.out DL.out; have c3 := Below.keeps hSw D3.out DL.out; go_simp; done) | (intro w hSw; have c0 := Below.keeps hSw D0.out DL.out; have c1 := Below.keeps hSw D1.out DL.out; have c2 := Below.keeps hSw D2.out DL.out; have c3 := Below.keeps hSw D3.out DL.out; go_simp; with_reducible rfl)
    try simp only [Act.put, List.getElem_toArray, List.getElem_cons_zero, List.getElem_cons_succ, List.setIfInBounds_toArray, List.set_cons_zero, List.set_cons_succ]
    refine wpAnyH_take (i := 20) (v := ?_) rfl (by kernel_rfl) (by kernel_rfl) (by kernel_rfl) (fun _ _ _ h => h) (Or.inl ⟨by rfl, ?_⟩) (by assumption) ?_
    rotate_left 1
    · first | (intro w hSw; go_simp; done) | (intro w hSw; go_simp; with_reducible rfl)
    try simp only [Act.put, List.getElem_toArray, List.getElem_cons_zero, List.getElem_cons_succ, List.setIfInBounds_toArray, List.set_cons_zero, List.set_cons_succ]
    refine wpAnyH_take (i := 21) (v := ?_) rfl (by kernel_rfl) (by kernel_rfl) (by kernel_rfl) (fun _ _ _ h => h) (Or.inl ⟨by rfl, ?_⟩) (by assumption) ?_
    rotate_left 1
    · first | (intro w hSw; go_simp; done) | (intro w hSw; go_simp; with_reducible rfl)
    try simp only [Act.put, List.getElem_toArray, List.getElem_cons_zero, List.getElem_cons_succ, List.setIfInBounds_toArray, List.set_cons_zero, List.set_cons_succ]
    refine wpAnyH_take (i := 22) (v := ?_) rfl (by kernel_rfl) (by kernel_rfl) (by kernel_rfl) (fun _ _ _ h => h) (Or.inl ⟨by rfl, ?_⟩) (by assumption) ?_
    rotate_left 1
    · first | (intro w hSw; go_simp; done) | (intro w hSw; go_simp; with_reducible rfl)
    try simp only [Act.put, List.getElem_toArray, List.getElem_cons_zero, List.getElem_cons_succ, List.setIfInBounds_toArray, List.set_cons_zero, List.set_cons_succ]
    refine wpAnyH_take (i := 23) (v := ?_) rfl (by kernel_rfl) (by kernel_rfl) (by kernel_rfl) (fun _ _ _ h => h) (Or.inl ⟨by rfl, ?_⟩) (by assumption) ?_
    rotate_left 1
    · first | (intro w hSw; go_simp; done) | (intro w hSw; go_simp; with_reducible rfl)
    try simp only [Act.put, List.getElem_toArray, List.getElem_cons_zero, List.getElem_cons_succ, List.setIfInBounds_toArray, List.set_cons_zero, List.set_cons_succ]
    refine wpAnyH_take (i := 24) (v := ?_) rfl (by kernel_rfl) (by kernel_rfl) (by kernel_rfl) (fun _ _ _ h => h) (Or.inl ⟨by rfl, ?_⟩) (by assumption) ?_
    rotate_left 1
    · first | (intro w hSw; go_simp; done) | (intro w hSw; go_simp; with_reducible rfl)
    try simp only [Act.put, List.getElem_toArray, List.getElem_cons_zero, List.getElem_cons_succ, List.setIfInBounds_toArray, List.set_cons_zero, List.set_cons_succ]
    refine wpAnyH_done (by kernel_rfl) ?_ _
    refine NoPanic.normal ?_
    have HW2 := Aside0.mk (show Below w1.heap.size w1 wb.drew from HW1.out.drew)
    have HRB2 := Aside0.mk (Kd.R_drew HRB.out)
    go_wp2
    go_loopw [4, 66] (fun v4 v66 wr => ∃ (k : Nat) (b : List UInt8), v66 = .int .i64 k ∧ k ≤ WL.length ∧ Aside0 (kB.R 5 wr w1.heap.size (fun _ => True) v4 b) ∧ Hid (b = putAll hd (WL.take k) ∧ b.length ≤ 20 + 1010 * k) ∧ Aside0 (Below w1.heap.size w1 wr)) (fun _ v _ => WL.length - (intOf v).toNat)
    case atStart => exact ⟨0, hd, rfl, Nat.zero_le _, HRB2, ⟨by rw [List.take_zero]; rfl, by have := HHL.out; omega⟩, HW2⟩
    case round =>
      obtain ⟨k, b, rfl, hk, HKR, HBK, HB⟩ := hrel
      by_cases hlt : k < WL.length
      · obtain ⟨ad, A0, c00, rfl, h0, hcl0, hcm⟩ := L_cell (Kd.C_below HCW.out HB.out) hlt
        obtain ⟨m, hm⟩ : ∃ m, m = gl WL k := ⟨_, rfl⟩
        rw [← hm] at h0 hcl0 hcm
        have HML := Lib.hid (show m.length ≤ 1000 from HWLM.out m (by rw [hm, gl_get WL k hlt]; exact List.getElem_mem hlt))
        have HCM := Aside0.mk hcm
        have HNB := Lib.hid (show putAll hd (WL.take (k + 1)) = b ++ uintsF m.length ++ m by rw [putAll_step hd WL k hlt, ← HBK.out.1, ← hm])
        obtain ⟨A4, c4, rfl⟩ := Kd.R_slice HKR.out
        have HC4 := Aside0.mk (Kd.R_reads' HKR.out).2.2
        have k0 : (0 : Int) ≤ k := by omega
        have k1 : (k : Int) < WL.length := by omega
        have HLT := Lib.hid hlt
        have bl := HBK.out.2
        have bw := HWLL.out
        have ml := HML.out
        have s1 : ¬ (b.length : Int) + m.length > 524288 := by omega
        have s2 : decide ((b.length : Int) + m.length > 524288) = false := decide_eq_false s1
        have s3 : (b.length : Int) ≤ 64700 := by omega
        have s4 : (m.length : Int) ≤ 1000 := by omega
        clear hlt hm hcl0 hcm bl bw ml
        go_wp2_with (go_at_call 54; refine (putBytes_calls _ _ _ b _ _ m HC4.out HCM.out (by omega) (by omega)).mono ?_; intro e w4 hn; obtain ⟨B4, k4, rfl, hcl, hR, hC, hb⟩ := hn.open_; have HR4 := Aside0.mk (Kd.R_lower hR HB.out.size); have HB4 := Aside0.mk (below_step HB.out hb); clear hn hcl hR hC hb)
        go_roundw
        case rel =>
          refine ⟨k + 1, _, by go_num, by have := HLT.out; omega, by first | exact HR4 | (have h9 := HR4; simp only [List.length_append, Nat.add_assoc] at h9; exact h9), ⟨HNB.out.symm, ?_⟩, HB4⟩
          have h1 := (uintsF_len m.length (by have := HML.out; omega)).2
          have h2 := HBK.out.2
          have h3 := HML.out
          simp only [List.length_append]
          omega
        case measure => have := HLT.out; simp [intOf]; omega
      · have k1 : ¬ (k : Int) < WL.length := by omega
        have HBE := Lib.hid (show b = pkt N by rw [HBK.out.1, List.take_of_length_le (by omega), HWL.out, HWLE.out]; rw [HHDE.out]; rfl)
        obtain ⟨A4, c4, rfl⟩ := Kd.R_slice HKR.out
        clear hlt
        go_wp2
        go_ret2
        rw [← HBE.out]
        exact ⟨A4, c4, rfl, Kd.R_lower HKR.out HM1.out.below.size, ⟨A, c, HZ1.out.stay HB.out⟩, HM1.out.trans ⟨HB.out.mono HZ1.out.low, Kept.of_below HB.out _, fun _ h => .inl h⟩⟩
  · have g1b : decide ((N.tld : Int) ≥ N.so) = true := decide_eq_true (by omega)
    have g1c : decide (N.so ≤ N.tld) = true := decide_eq_true (by omega)
    have g1d : N.so ≤ N.tld := by omega
    have hrc : N.rcv = true := hgo.resolve_left g1
    rw [hrc] at c6
    clear g1 hgo hrc
    go_enter Tryz.func26, Tryz.ntmps26
    go_wp2
    go_quiet (fail)
    go_upto_region 3 with (fail)
    obtain ⟨wq, hwq⟩ : ∃ wq, wq = w.drewN nq := ⟨_, rfl⟩
    rw [← hwq]
    have HZQ := Aside0.mk (show EndAt wq lo K N p A c by rw [hwq]; exact HZ.out.stay (pw_below_drewN (Below.refl _ _) _))
    have HMQ := Aside0.mk (show Moved w wq lo K K by rw [hwq]; exact Moved.drewN _ _ _ _)
    clear hwq c0 c1 c2 c3 c4 c5 c6
    have c6 := (HZQ.out.cells).2.2.2.2.2.2
    have f6 := blk_frozen HZQ.out.blk 6
    go_upto_region 4 with (fail)
    obtain ⟨w1, hw1⟩ : ∃ w1, w1 = wq.setCell ⟨p, 6, none⟩ (.bool false) := ⟨_, rfl⟩
    rw [← hw1]
    have HZ1 := Aside0.mk (show EndAt w1 lo K { N with rcv := false } p A c by rw [hw1]; exact HZQ.out.set 6 (.bool false) rfl HZQ.out.ro)
    have HM1 := Aside0.mk (show Moved w w1 lo K K by rw [hw1]; exact HMQ.out.trans (moved_set HZQ.out 6 _))
    clear hw1 c6 f6
    obtain ⟨c0, c1, c2, c3, c4, c5, c6⟩ := HZ1.out.cells
    have C0 := Lib.hid c0
    have C1 := Lib.hid c1
    have C2 := Lib.hid c2
    have C3 := Lib.hid c3
    have C5 := Lib.hid c5
    have CL := Lib.hid (HZ1.out.kb p HZ1.out.kp).2
    clear c0 c1 c2 c3 c4 c5 c6
    simp only [] at C0 C1 C2 C3 C5
    go_wp2
    refine wp_region_noPanic ?_
    refine wp_region_held_drew (S := fun W => Below w1.heap.size w1 W) (by kernel_rfl) (by first | exact Below.refl _ _ | exact (Below.refl _ _).drew) (fun hHeld => ?_)
    refine wpAnyH_take (i := 0) (v := ?_) rfl (by kernel_rfl) (by kernel_rfl) (by kernel_rfl) (fun _ _ _ h => h) (Or.inl ⟨by rfl, ?_⟩) (by assumption) ?_
    rotate_left 1
    · first | (intro w hSw; go_simp; done) | (intro w hSw; go_simp; with_reducible rfl)
    try simp only [Act.put, List.getElem_toArray, List.getElem_cons_zero, List.getElem_cons_succ, List.setIfInBounds_toArray, List.set_cons_zero, List.set_cons_succ]
    refine wpAnyH_take (i := 1) (v := ?_) rfl (by kernel_rfl) (by kernel_rfl) (by kernel_rfl) (fun _ _ _ h => h) (Or.inl ⟨by rfl, ?_⟩) (by assumption) ?_
    rotate_left 1
    · first | (intro w hSw; go_simp; done) | (intro w hSw; go_simp; with_reducible rfl)
    try simp only [Act.put, List.getElem_toArray, List.getElem_cons_zero, List.getElem_cons_succ, List.setIfInBounds_toArray, List.set_cons_zero, List.set_cons_succ]
    refine wpAnyH_take (i := 2) (v := ?_) rfl (by kernel_rfl) (by kernel_rfl) (by kernel_rfl) (fun _ _ _ h => h) (Or.inl ⟨by rfl, ?_⟩) (by assumption) ?_
    rotate_left 1
    · first | (intro w hSw; go_simp; done) | (intro w hSw; go_simp; with_reducible rfl)
    try simp only [Act.put, List.getElem_toArray, List.getElem_cons_zero, List.getElem_cons_succ, List.setIfInBounds_toArray, List.set_cons_zero, List.set_cons_succ]
    refine wpAnyH_take (i := 3) (v := ?_) rfl (by kernel_rfl) (by kernel_rfl) (by kernel_rfl) (fun _ _ _ h => h) (Or.inl ⟨by rfl, ?_⟩) (by assumption) ?_
    rotate_left 1
    · first | (intro w hSw; have c0 := Below.keeps hSw C0.out CL.out; have c1 := Below.keeps hSw C1.out CL.out; have c2 := Below.keeps hSw C2.out CL.out; have c3 := Below.keeps hSw C3.out CL.out; have c5 := Below.keeps hSw C5.out CL.out; go_simp; done) | (intro w hSw; have c0 := Below.keeps hSw C0.out CL.out; have c1 := Below.keeps hSw C1.out CL.out; have c2 := Below.keeps hSw C2.out CL.out; have c3 := Below.keeps hSw C3.out CL.out; have c5 := Below.keeps hSw C5.out CL.out; go_simp; with_reducible rfl)
    try simp only [Act.put, List.getElem_toArray, List.getElem_cons_zero, List.getElem_cons_succ, List.setIfInBounds_toArray, List.set_cons_zero, List.set_cons_succ]
    refine wpAnyH_take (i := 4) (v := ?_) rfl (by kernel_rfl) (by kernel_rfl) (by kernel_rfl) (fun _ _ _ h => h) (Or.inl ⟨by rfl, ?_⟩) (by assumption) ?_
    rotate_left 1
    · first | (intro w hSw; go_simp; done) | (intro w hSw; go_simp; with_reducible rfl)
    try simp only [Act.put, List.getElem_toArray, List.getElem_cons_zero, List.getElem_cons_succ, List.setIfInBounds_toArray, List.set_cons_zero, List.set_cons_succ]
    refine wpAnyH_take (i := 6) (v := ?_) rfl (by kernel_rfl) (by kernel_rfl) (by kernel_rfl) (fun _ _ _ h => h) (Or.inl ⟨by rfl, ?_⟩) (by assumption) ?_
    rotate_left 1
    · first | (intro w hSw; go_simp; done) | (intro w hSw; go_simp; with_reducible rfl)
    try simp only [Act.put, List.getElem_toArray, List.getElem_cons_zero, List.getElem_cons_succ, List.setIfInBounds_toArray, List.set_cons_zero, List.set_cons_succ]
    refine wpAnyH_take (i := 7) (v := ?_) rfl (by kernel_rfl) (by kernel_rfl) (by kernel_rfl) (fun _ _ _ h => h) (Or.inl ⟨by rfl, ?_⟩) (by assumption) ?_
    rotate_left 1
    · first | (intro w hSw; go_simp; done) | (intro w hSw; go_simp; with_reducible rfl)
    try simp only [Act.put, List.getElem_toArray, List.getElem_cons_zero, List.getElem_cons_succ, List.setIfInBounds_toArray, List.set_cons_zero, List.set_cons_succ]
    refine wpAnyH_take (i := 8) (v := ?_) rfl (by kernel_rfl) (by kernel_rfl) (by kernel_rfl) (fun _ _ _ h => h) (Or.inl ⟨by rfl, ?_⟩) (by assumption) ?_
    rotate_left 1
    · first | (intro w hSw; go_simp; done) | (intro w hSw; go_simp; with_reducible rfl)
    try simp only [Act.put, List.getElem_toArray, List.getElem_cons_zero, List.getElem_cons_succ, List.setIfInBounds_toArray, List.set_cons_zero, List.set_cons_succ]
    refine wpAnyH_take (i := 9) (v := ?_) rfl (by kernel_rfl) (by kernel_rfl) (by kernel_rfl) (fun _ _ _ h => h) (Or.inl ⟨by rfl, ?_⟩) (by assumption) ?_
    rotate_left 1
    · first | (intro w hSw; have c0 := Below.keeps hSw C0.out CL.out; have c1 := Below.keeps hSw C1.out CL.out; have c2 := Below.keeps hSw C2.out CL.out; have c3 := Below.keeps hSw C3.out CL.out; have c5 := Below.keeps hSw C5.out CL.out; go_simp; done) | (intro w hSw; have c0 := Below.keeps hSw C0.out CL.out; have c1 := Below.keeps hSw C1.out CL.out; have c2 := Below.keeps hSw C2.out CL.out; have c3 := Below.keeps hSw C3.out CL.out; have c5 := Below.keeps hSw C5.out CL.out; go_simp; with_reducible rfl)
    try simp only [Act.put, List.getElem_toArray, List.getElem_cons_zero, List.getElem_cons_succ, List.setIfInBounds_toArray, List.set_cons_zero, List.set_cons_succ]
    refine wpAnyH_take (i := 10) (v := ?_) rfl (by kernel_rfl) (by kernel_rfl) (by kernel_rfl) (fun _ _ _ h => h) (Or.inl ⟨by rfl, ?_⟩) (by assumption) ?_
    rotate_left 1
    · first | (intro w hSw; go_simp; done) | (intro w hSw; go_simp; with_reducible rfl)
    try simp only [Act.put, List.getElem_toArray, List.getElem_cons_zero, List.getElem_cons_succ, List.setIfInBounds_toArray, List.set_cons_zero, List.set_cons_succ]
    refine wpAnyH_ready (rs := [5]) (by kernel_rfl) (by simp) ?_
    refine AllReadyH.cons rfl (fun K hK => ?_) AllReadyH.nil
    go_simp
    (go_at_call 53; refine (putUint_calls _ _ _ [] N.sg (Kd.C_nil _ _) (by omega) (by simp)).mono ?_; intro e wa hn; obtain ⟨Bwa, kwa, rfl, hcl, hR, hC, hb⟩ := hn.open_; have HRwa := Aside0.mk hR; have HCwa := Aside0.mk hC; have hHa := below_step hHeld hb; clear hn hcl hR hC hb)
    go_simp
    refine hK.out _ _ hHa (fun hHeld => ?_)
    clear hK K
    try simp only [Act.put, List.getElem_toArray, List.getElem_cons_zero, List.getElem_cons_succ, List.setIfInBounds_toArray, List.set_cons_zero, List.set_cons_succ]
    refine wpAnyH_ready (rs := [11]) (by kernel_rfl) (by simp) ?_
    refine AllReadyH.cons rfl (fun K hK => ?_) AllReadyH.nil
    go_simp
    (go_at_call 53; refine (putUint_calls _ _ _ (uintsF N.sg) N.tld (by simpa using HCwa.out) (by omega) (by have := HUL.out; simp; omega)).mono ?_; intro e wb hn; obtain ⟨Bwb, kwb, rfl, hcl, hR, hC, hb⟩ := hn.open_; have HRwb := Aside0.mk hR; have HCwb := Aside0.mk hC; have hHb := below_step hHeld hb; clear hn hcl hR hC hb)
    go_simp
    refine hK.out _ _ hHb (fun hHeld => ?_)
    clear hK K
    try simp only [Act.put, List.getElem_toArray, List.getElem_cons_zero, List.getElem_cons_succ, List.setIfInBounds_toArray, List.set_cons_zero, List.set_cons_succ]
    refine wpAnyH_take (i := 12) (v := ?_) rfl (by kernel_rfl) (by kernel_rfl) (by kernel_rfl) (fun _ _ _ h => h) (Or.inl ⟨by rfl, ?_⟩) (by assumption) ?_
    rotate_left 1
    · first | (intro w hSw; go_simp; done) | (intro w hSw; go_simp; with_reducible rfl)
    try simp only [Act.put, List.getElem_toArray, List.getElem_cons_zero, List.getElem_cons_succ, List.setIfInBounds_toArray, List.set_cons_zero, List.set_cons_succ]
    refine wpAnyH_done (by kernel_rfl) ?_ _
    refine NoPanic.normal ?_
    have HW1 := Aside0.mk (show Below w1.heap.size w1 wb from hHeld)
    go_upto_region 5 with (fail)
    obtain ⟨hd, hhd⟩ : ∃ hd, hd = uintsF N.sg ++ uintsF N.tld := ⟨_, rfl⟩
    have HHDE := Lib.hid hhd
    have HRB := Aside0.mk (show kB.R 5 wb w1.heap.size (fun _ => True) (.slice Bwb hd.length kwb) hd by rw [hhd]; exact Kd.R_lower HRwb.out hHa.size)
    have hhl : hd.length = (uintsF N.sg).length + (uintsF N.tld).length := by rw [hhd, List.length_append]
    have HHL := Lib.hid (show hd.length ≤ 20 by have h1 := HUL.out; have h2 := (uintsF_len N.tld (by omega)).2; omega)
    rw [← hhl]
    obtain ⟨x, hx⟩ : ∃ x, x = (N.so : Int) := ⟨_, rfl⟩
    obtain ⟨y, hy⟩ : ∃ y, y = (N.tld : Int) := ⟨_, rfl⟩
    obtain ⟨z, hz⟩ : ∃ z, z = (N.win : Int) := ⟨_, rfl⟩
    obtain ⟨mn, hmn⟩ : ∃ mn, mn = min N.so (N.tld + N.win) := ⟨_, rfl⟩
    have hmin : (if y + z < x then y + z else x) = (mn : Int) := by
      rw [hx, hy, hz, hmn]
      by_cases h : N.tld + N.win < N.so
      · rw [if_pos (by omega), Nat.min_eq_right (by omega)]; omega
      · rw [if_neg (by omega), Nat.min_eq_left (by omega)]
    obtain ⟨mi, hmi⟩ : ∃ mi, mi = (mn : Int) := ⟨_, rfl⟩
    rw [← hmi] at hmin
    have hrow := HZ1.out.ro.reads'
    obtain ⟨AW, hwl, hCW⟩ := L_win (lo := N.tld) (hi := mn) hrow.2 (by omega) (by have := HF.out.so1; show mn ≤ N.out.length; omega) hrow.1
    rw [← hy, ← hmi] at hwl
    have HWLE := Lib.hid (show (N.out.take mn).drop N.tld = wl N by rw [hmn]; rfl)
    obtain ⟨WL, hWL⟩ : ∃ WL, WL = (N.out.take mn).drop N.tld := ⟨_, rfl⟩
    have HWL := Lib.hid hWL
    have HWLL := Lib.hid (show WL.length ≤ 64 by rw [hWL, List.length_drop, List.length_take]; have := HF.out.w2; omega)
    have HWLM := Lib.hid (show ∀ m ∈ WL, m.length ≤ 1000 from fun m hm => HS.out m (by rw [hWL] at hm; exact List.mem_of_mem_take (List.mem_of_mem_drop hm)))
    have hcw2 : kBs.C w1 AW WL.length WL := by rw [hWL]; exact hCW
    have HCW := Aside0.mk hcw2
    have hwl2 : ∀ W : World, (Instr.slice 79 (.slice A N.out.length c) (some (.int .i64 y)) (some (.int .i64 mi)) none).run Tryz.prog W = .ok (.slice AW WL.length (c - N.tld)) W := fun W => by rw [hWL]; exact hwl W
    have D0 := Lib.hid (show wb.cell? ⟨p, 0, none⟩ = some (.int .i64 z) by rw [hz]; exact Below.keeps HW1.out C0.out CL.out)
    have D1 := Lib.hid (show wb.cell? ⟨p, 1, none⟩ = some (.slice A N.out.length c) from Below.keeps HW1.out C1.out CL.out)
    have D2 := Lib.hid (show wb.cell? ⟨p, 2, none⟩ = some (.int .i64 x) by rw [hx]; exact Below.keeps HW1.out C2.out CL.out)
    have D3 := Lib.hid (show wb.cell? ⟨p, 3, none⟩ = some (.int .i64 y) by rw [hy]; exact Below.keeps HW1.out C3.out CL.out)
    have DL := Lib.hid (Nat.lt_of_lt_of_le CL.out HW1.out.size)
    have y0 : 0 ≤ y := by omega
    have x1 : x ≤ 100000 := by omega
    have y1 : y ≤ 100000 := by omega
    have z1 : z ≤ 64 := by omega
    have z0 : 0 ≤ z := by omega
    have hyz : IntKind.i64.wrap (y + z) = y + z := by rw [IntKind.wrap_i64]; omega
    have w64 : (WL.length : Int) ≤ 64 := by have := HWLL.out; omega
    clear hhd hx hy hz hmn hmi hrow hwl hCW hWL hcw2 hHa hHb hhl
    go_wp2
    refine wp_region_noPanic ?_
    refine wp_region_held_drew (S := fun W => Below wb.heap.size wb W) (by kernel_rfl) (by first | exact Below.refl _ _ | exact (Below.refl _ _).drew) (fun hHeld => ?_)
    refine wpAnyH_take (i := 0) (v := ?_) rfl (by kernel_rfl) (by kernel_rfl) (by kernel_rfl) (fun _ _ _ h => h) (Or.inl ⟨by rfl, ?_⟩) (by assumption) ?_
    rotate_left 1
    · first | (intro w hSw; go_simp; done) | (intro w hSw; go_simp; with_reducible rfl)
    try simp only [Act.put, List.getElem_toArray, List.getElem_cons_zero, List.getElem_cons_succ, List.setIfInBounds_toArray, List.set_cons_zero, List.set_cons_succ]
    refine wpAnyH_take (i := 1) (v := ?_) rfl (by kernel_rfl) (by kernel_rfl) (by kernel_rfl) (fun _ _ _ h => h) (Or.inl ⟨by rfl, ?_⟩) (by assumption) ?_
    rotate_left 1
    · first | (intro w hSw; go_simp; done) | (intro w hSw; go_simp; with_reducible rfl)
    try simp only [Act.put, List.getElem_toArray, List.getElem_cons_zero, List.getElem_cons_succ, List.setIfInBounds_toArray, List.set_cons_zero, List.set_cons_succ]
    refine wpAnyH_take (i := 2) (v := ?_) rfl (by kernel_rfl) (by kernel_rfl) (by kernel_rfl) (fun _ _ _ h => h) (Or.inl ⟨by rfl, ?_⟩) (by assumption) ?_
    rotate_left 1
    · first | (intro w hSw; go_simp; done) | (intro w hSw; go_simp; with_reducible rfl)
    try simp only [Act.put, List.getElem_toArray, List.getElem_cons_zero, List.getElem_cons_succ, List.setIfInBounds_toArray, List.set_cons_zero, List.set_cons_succ]
    refine wpAnyH_take (i := 3) (v := ?_) rfl (by kernel_rfl) (by kernel_rfl) (by kernel_rfl) (fun _ _ _ h => h) (Or.inl ⟨by rfl, ?_⟩) (by assumption) ?_
    rotate_left 1
    · first | (intro w hSw; have c0 := Below.keeps hSw D0.out DL.out; have c1 := Below.keeps hSw D1.out DL.out; have c2 := Below.keeps hSw D2.out DL.out; have c3 := Below.keeps hSw D3.out DL.out; go_simp; done) | (intro w hSw; have c0 := Below.keeps hSw D0.out DL.out; have c1 := Below.keeps hSw D1.out DL.out; have c2 := Below.keeps hSw D2.out DL.out; have c3 := Below.keeps hSw D3.out DL.out; go_simp; with_reducible rfl)
    try simp only [Act.put, List.getElem_toArray, List.getElem_cons_zero, List.getElem_cons_succ, List.setIfInBounds_toArray, List.set_cons_zero, List.set_cons_succ]
    refine wpAnyH_take (i := 4) (v := ?_) rfl (by kernel_rfl) (by kernel_rfl) (by kernel_rfl) (fun _ _ _ h => h) (Or.inl ⟨by rfl, ?_⟩) (by assumption) ?_
    rotate_left 1
    · first | (intro w hSw; go_simp; done) | (intro w hSw; go_simp; with_reducible rfl)
    try simp only [Act.put, List.getElem_toArray, List.getElem_cons_zero, List.getElem_cons_succ, List.setIfInBounds_toArray, List.set_cons_zero, List.set_cons_succ]
    refine wpAnyH_take (i := 5) (v := ?_) rfl (by kernel_rfl) (by kernel_rfl) (by kernel_rfl) (fun _ _ _ h => h) (Or.inl ⟨by rfl, ?_⟩) (by assumption) ?_
    rotate_left 1
    · first | (intro w hSw; go_simp; done) | (intro w hSw; go_simp; with_reducible rfl)
    try simp only [Act.put, List.getElem_toArray, List.getElem_cons_zero, List.getElem_cons_succ, List.setIfInBounds_toArray, List.set_cons_zero, List.set_cons_succ]
    refine wpAnyH_take (i := 6) (v := ?_) rfl (by kernel_rfl) (by kernel_rfl) (by kernel_rfl) (fun _ _ _ h => h) (Or.inl ⟨by rfl, ?_⟩) (by assumption) ?_
    rotate_left 1
    · first | (intro w hSw; go_simp; done) | (intro w hSw; go_simp; with_reducible rfl)
    try simp only [Act.put, List.getElem_toArray, List.getElem_cons_zero, List.getElem_cons_succ, List.setIfInBounds_toArray, List.set_cons_zero, List.set_cons_succ]
    refine wpAnyH_take (i := 7) (v := ?_) rfl (by kernel_rfl) (by kernel_rfl) (by kernel_rfl) (fun _ _ _ h => h) (Or.inl ⟨by rfl, ?_⟩) (by assumption) ?_
    rotate_left 1
    · first | (intro w hSw; have c0 := Below.keeps hSw D0.out DL.out; have c1 := Below.keeps hSw D1.out DL.out; have c2 := Below.keeps hSw D2.out DL.out; have c3 := Below.keeps hSw D3.out DL.out; go_simp; done) | (intro w hSw; have c0 := Below.keeps hSw D0.out DL.out; have c1 := Below.keeps hSw D1.out DL.out; have c2 := Below.keeps hSw D2.out DL.out; have c3 := Below.keeps hSw D3.out DL.out; go_simp; with_reducible rfl)
    try simp only [Act.put, List.getElem_toArray, List.getElem_cons_zero, List.getElem_cons_succ, List.setIfInBounds_toArray, List.set_cons_zero, List.set_cons_succ]
    refine wpAnyH_take (i := 8) (v := ?_) rfl (by kernel_rfl) (by kernel_rfl) (by kernel_rfl) (fun _ _ _ h => h) (Or.inl ⟨by rfl, ?_⟩) (by assumption) ?_
    rotate_left 1
    · first | (intro w hSw; go_simp; done) | (intro w hSw; go_simp; with_reducible rfl)
    try simp only [Act.put, List.getElem_toArray, List.getElem_cons_zero, List.getElem_cons_succ, List.setIfInBounds_toArray, List.set_cons_zero, List.set_cons_succ]
    refine wpAnyH_take (i := 9) (v := ?_) rfl (by kernel_rfl) (by kernel_rfl) (by kernel_rfl) (fun _ _ _ h => h) (Or.inl ⟨by rfl, ?_⟩) (by assumption) ?_
    rotate_left 1
    · first | (intro w hSw; go_simp; done) | (intro w hSw; go_simp; with_reducible rfl)
    try simp only [Act.put, List.getElem_toArray, List.getElem_cons_zero, List.getElem_cons_succ, List.setIfInBounds_toArray, List.set_cons_zero, List.set_cons_succ]
    refine wpAnyH_take (i := 10) (v := ?_) rfl (by kernel_rfl) (by kernel_rfl) (by kernel_rfl) (fun _ _ _ h => h) (Or.inl ⟨by rfl, ?_⟩) (by assumption) ?_
    rotate_left 1
    · first | (intro w hSw; go_simp; done) | (intro w hSw; go_simp; with_reducible rfl)
    try simp only [Act.put, List.getElem_toArray, List.getElem_cons_zero, List.getElem_cons_succ, List.setIfInBounds_toArray, List.set_cons_zero, List.set_cons_succ]
    refine wpAnyH_take (i := 11) (v := ?_) rfl (by kernel_rfl) (by kernel_rfl) (by kernel_rfl) (fun _ _ _ h => h) (Or.inl ⟨by rfl, ?_⟩) (by assumption) ?_
    rotate_left 1
    · first | (intro w hSw; have c0 := Below.keeps hSw D0.out DL.out; have c1 := Below.keeps hSw D1.out DL.out; have c2 := Below.keeps hSw D2.out DL.out; have c3 := Below.keeps hSw D3.out DL.out; go_simp; done) | (intro w hSw; have c0 := Below.keeps hSw D0.out DL.out; have c1 := Below.keeps hSw D1.out DL.out; have c2 := Below.keeps hSw D2.out DL.out; have c3 := Below.keeps hSw D3.out DL.out; go_simp; with_reducible rfl)
    try simp only [Act.put, List.getElem_toArray, List.getElem_cons_zero, List.getElem_cons_succ, List.setIfInBounds_toArray, List.set_cons_zero, List.set_cons_succ]
    refine wpAnyH_take (i := 12) (v := ?_) rfl (by kernel_rfl) (by kernel_rfl) (by kernel_rfl) (fun _ _ _ h => h) (Or.inl ⟨by rfl, ?_⟩) (by assumption) ?_
    rotate_left 1
    · first | (intro w hSw; go_simp; done) | (intro w hSw; go_simp; with_reducible rfl)
    try simp only [Act.put, List.getElem_toArray, List.getElem_cons_zero, List.getElem_cons_succ, List.setIfInBounds_toArray, List.set_cons_zero, List.set_cons_succ]
    refine wpAnyH_take (i := 13) (v := ?_) rfl (by kernel_rfl) (by kernel_rfl) (by kernel_rfl) (fun _ _ _ h => h) (Or.inl ⟨by rfl, ?_⟩) (by assumption) ?_
    rotate_left 1
    · first | (intro w hSw; go_simp; done) | (intro w hSw; go_simp; with_reducible rfl)
    try simp only [Act.put, List.getElem_toArray, List.getElem_cons_zero, List.getElem_cons_succ, List.setIfInBounds_toArray, List.set_cons_zero, List.set_cons_succ]
    refine wpAnyH_take (i := 14) (v := ?_) rfl (by kernel_rfl) (by kernel_rfl) (by kernel_rfl) (fun _ _ _ h => h) (Or.inl ⟨by rfl, ?_⟩) (by assumption) ?_
    rotate_left 1
    · first | (intro w hSw; go_simp; done) | (intro w hSw; go_simp; with_reducible rfl)
    try simp only [Act.put, List.getElem_toArray, List.getElem_cons_zero, List.getElem_cons_succ, List.setIfInBounds_toArray, List.set_cons_zero, List.set_cons_succ]
    refine wpAnyH_take (i := 15) (v := ?_) rfl (by kernel_rfl) (by kernel_rfl) (by kernel_rfl) (fun _ _ _ h => h) (Or.inl ⟨by rfl, ?_⟩) (by assumption) ?_
    rotate_left 1
    · first | (intro w hSw; have c0 := Below.keeps hSw D0.out DL.out; have c1 := Below.keeps hSw D1.out DL.out; have c2 := Below.keeps hSw D2.out DL.out; have c3 := Below.keeps hSw D3.out DL.out; go_simp; done) | (intro w hSw; have c0 := Below.keeps hSw D0.out DL.out; have c1 := Below.keeps hSw D1.out DL.out; have c2 := Below.keeps hSw D2.out DL.out; have c3 := Below.keeps hSw D3.out DL.out; go_simp; with_reducible rfl)
    try simp only [Act.put, List.getElem_toArray, List.getElem_cons_zero, List.getElem_cons_succ, List.setIfInBounds_toArray, List.set_cons_zero, List.set_cons_succ]
    refine wpAnyH_take (i := 16) (v := ?_) rfl (by kernel_rfl) (by kernel_rfl) (by kernel_rfl) (fun _ _ _ h => h) (Or.inl ⟨by rfl, ?_⟩) (by assumption) ?_
    rotate_left 1
    · first | (intro w hSw; go_simp; done) | (intro w hSw; go_simp; with_reducible rfl)
    try simp only [Act.put, List.getElem_toArray, List.getElem_cons_zero, List.getElem_cons_succ, List.setIfInBounds_toArray, List.set_cons_zero, List.set_cons_succ]
    refine wpAnyH_take (i := 17) (v := ?_) rfl (by kernel_rfl) (by kernel_rfl) (by kernel_rfl) (fun _ _ _ h => h) (Or.inl ⟨by rfl, ?_⟩) (by assumption) ?_
    rotate_left 1
    · first | (intro w hSw; go_simp; done) | (intro w hSw; go_simp; with_reducible rfl)
    try simp only [Act.put, List.getElem_toArray, List.getElem_cons_zero, List.getElem_cons_succ, List.setIfInBounds_toArray, List.set_cons_zero, List.set_cons_succ]
    refine wpAnyH_take (i := 18) (v := ?_) rfl (by kernel_rfl) (by kernel_rfl) (by kernel_rfl) (fun _ _ _ h => h) (Or.inl ⟨by rfl, ?_⟩) (by assumption) ?_
    rotate_left 1
    · first | (intro w hSw; go_simp; done) | (intro w hSw; go_simp; with_reducible rfl)
    try simp only [Act.put, List.getElem_toArray, List.getElem_cons_zero, List.getElem_cons_succ, List.setIfInBounds_toArray, List.set_cons_zero, List.set_cons_succ]
    refine wpAnyH_take (i := 19) (v := ?_) rfl (by kernel_rfl) (by kernel_rfl) (by kernel_rfl) (fun _ _ _ h => h) (Or.inl ⟨by rfl, ?_⟩) (by assumption) ?_
    rotate_left 1
    · first | (intro w hSw; have c0 := Below.keeps hSw D0.out DL.out; have c1 := Below.keeps hSw D1.out DL.out; have c2 := Below.keeps hSw D2.out DL.out; have c3 := Below.keeps hSw D3.out DL.out; go_simp; done) | (intro w hSw; have c0 := Below.keeps hSw D0.out DL.out; have c1 := Below.keeps hSw D1.out DL.out; have c2 := Below.keeps hSw D2.out DL.out; have c3 := Below.keeps hSw D3.out DL.out; go_simp; with_reducible rfl)
    try simp only [Act.put, List.getElem_toArray, List.getElem_cons_zero, List.getElem_cons_succ, List.setIfInBounds_toArray, List.set_cons_zero, List.set_cons_succ]
    refine wpAnyH_take (i := 20) (v := ?_) rfl (by kernel_rfl) (by kernel_rfl) (by kernel_rfl) (fun _ _ _ h => h) (Or.inl ⟨by rfl, ?_⟩) (by assumption) ?_
    rotate_left 1
    · first | (intro w hSw; go_simp; done) | (intro w hSw; go_simp; with_reducible rfl)
    try simp only [Act.put, List.getElem_toArray, List.getElem_cons_zero, List.getElem_cons_succ, List.setIfInBounds_toArray, List.set_cons_zero, List.set_cons_succ]
    refine wpAnyH_take (i := 21) (v := ?_) rfl (by kernel_rfl) (by kernel_rfl) (by kernel_rfl) (fun _ _ _ h => h) (Or.inl ⟨by rfl, ?_⟩) (by assumption) ?_
    rotate_left 1
    · first | (intro w hSw; go_simp; done) | (intro w hSw; go_simp; with_reducible rfl)
    try simp only [Act.put, List.getElem_toArray, List.getElem_cons_zero, List.getElem_cons_succ, List.setIfInBounds_toArray, List.set_cons_zero, List.set_cons_succ]
    refine wpAnyH_take (i := 22) (v := ?_) rfl (by kernel_rfl) (by kernel_rfl) (by kernel_rfl) (fun _ _ _ h => h) (Or.inl ⟨by rfl, ?_⟩) (by assumption) ?_
    rotate_left 1
    · first | (intro w hSw; go_simp; done) | (intro w hSw; go_simp; with_reducible rfl)
    try simp only [Act.put, List.getElem_toArray, List.getElem_cons_zero, List.getElem_cons_succ, List.setIfInBounds_toArray, List.set_cons_zero, List.set_cons_succ]
    refine wpAnyH_take (i := 23) (v := ?_) rfl (by kernel_rfl) (by kernel_rfl) (by kernel_rfl) (fun _ _ _ h => h) (Or.inl ⟨by rfl, ?_⟩) (by assumption) ?_
    rotate_left 1
    · first | (intro w hSw; go_simp; done) | (intro w hSw; go_simp; with_reducible rfl)
    try simp only [Act.put, List.getElem_toArray, List.getElem_cons_zero, List.getElem_cons_succ, List.setIfInBounds_toArray, List.set_cons_zero, List.set_cons_succ]
    refine wpAnyH_take (i := 24) (v := ?_) rfl (by kernel_rfl) (by kernel_rfl) (by kernel_rfl) (fun _ _ _ h => h) (Or.inl ⟨by rfl, ?_⟩) (by assumption) ?_
    rotate_left 1
    · first | (intro w hSw; go_simp; done) | (intro w hSw; go_simp; with_reducible rfl)
    try simp only [Act.put, List.getElem_toArray, List.getElem_cons_zero, List.getElem_cons_succ, List.setIfInBounds_toArray, List.set_cons_zero, List.set_cons_succ]
    refine wpAnyH_done (by kernel_rfl) ?_ _
    refine NoPanic.normal ?_
    have HW2 := Aside0.mk (show Below w1.heap.size w1 wb.drew from HW1.out.drew)
    have HRB2 := Aside0.mk (Kd.R_drew HRB.out)
    go_wp2
    go_loopw [4, 66] (fun v4 v66 wr => ∃ (k : Nat) (b : List UInt8), v66 = .int .i64 k ∧ k ≤ WL.length ∧ Aside0 (kB.R 5 wr w1.heap.size (fun _ => True) v4 b) ∧ Hid (b = putAll hd (WL.take k) ∧ b.length ≤ 20 + 1010 * k) ∧ Aside0 (Below w1.heap.size w1 wr)) (fun _ v _ => WL.length - (intOf v).toNat)
    case atStart => exact ⟨0, hd, rfl, Nat.zero_le _, HRB2, ⟨by rw [List.take_zero]; rfl, by have := HHL.out; omega⟩, HW2⟩
    case round =>
      obtain ⟨k, b, rfl, hk, HKR, HBK, HB⟩ := hrel
      by_cases hlt : k < WL.length
      · obtain ⟨ad, A0, c00, rfl, h0, hcl0, hcm⟩ := L_cell (Kd.C_below HCW.out HB.out) hlt
        obtain ⟨m, hm⟩ : ∃ m, m = gl WL k := ⟨_, rfl⟩
        rw [← hm] at h0 hcl0 hcm
        have HML := Lib.hid (show m.length ≤ 1000 from HWLM.out m (by rw [hm, gl_get WL k hlt]; exact List.getElem_mem hlt))
        have HCM := Aside0.mk hcm
        have HNB := Lib.hid (show putAll hd (WL.take (k + 1)) = b ++ uintsF m.length ++ m by rw [putAll_step hd WL k hlt, ← HBK.out.1, ← hm])
        obtain ⟨A4, c4, rfl⟩ := Kd.R_slice HKR.out
        have HC4 := Aside0.mk (Kd.R_reads' HKR.out).2.2
        have k0 : (0 : Int) ≤ k := by omega
        have k1 : (k : Int) < WL.length := by omega
        have HLT := Lib.hid hlt
        have bl := HBK.out.2
        have bw := HWLL.out
        have ml := HML.out
        have s1 : ¬ (b.length : Int) + m.length > 524288 := by omega
        have s2 : decide ((b.length : Int) + m.length > 524288) = false := decide_eq_false s1
        have s3 : (b.length : Int) ≤ 64700 := by omega
        have s4 : (m.length : Int) ≤ 1000 := by omega
        clear hlt hm hcl0 hcm bl bw ml
        go_wp2_with (go_at_call 54; refine (putBytes_calls _ _ _ b _ _ m HC4.out HCM.out (by omega) (by omega)).mono ?_; intro e w4 hn; obtain ⟨B4, k4, rfl, hcl, hR, hC, hb⟩ := hn.open_; have HR4 := Aside0.mk (Kd.R_lower hR HB.out.size); have HB4 := Aside0.mk (below_step HB.out hb); clear hn hcl hR hC hb)
        go_roundw
        case rel =>
          refine ⟨k + 1, _, by go_num, by have := HLT.out; omega, by first | exact HR4 | (have h9 := HR4; simp only [List.length_append, Nat.add_assoc] at h9; exact h9), ⟨HNB.out.symm, ?_⟩, HB4⟩
          have h1 := (uintsF_len m.length (by have := HML.out; omega)).2
          have h2 := HBK.out.2
          have h3 := HML.out
          simp only [List.length_append]
          omega
        case measure => have := HLT.out; simp [intOf]; omega
      · have k1 : ¬ (k : Int) < WL.length := by omega
        have HBE := Lib.hid (show b = pkt N by rw [HBK.out.1, List.take_of_length_le (by omega), HWL.out, HWLE.out]; rw [HHDE.out]; rfl)
        obtain ⟨A4, c4, rfl⟩ := Kd.R_slice HKR.out
        clear hlt
        go_wp2
        go_ret2
        rw [← HBE.out]
        exact ⟨A4, c4, rfl, Kd.R_lower HKR.out HM1.out.below.size, ⟨A, c, HZ1.out.stay HB.out⟩, HM1.out.trans ⟨HB.out.mono HZ1.out.low, Kept.of_below HB.out _, fun _ h => .inl h⟩⟩
end Go.Proofs.YtadaoplmicghcaaGreatDoor.Lk
namespace Go.Proofs.YtadaoplmicghcaaGreatDoor.Lk
open Go.RowKit Go.Proofs.YtadaoplmicghcaaGreatDoorW.PrintWords Go.Proofs.YtadaoplmicghcaaGreatDoorW.PrintLast Go.Proofs.YtadaoplmicghcaaGreatDoorW.PrintMore
set_option linter.unusedVariables false
set_option linter.unusedSimpArgs false
theorem tkU_uints : ∀ (k x : Nat) (rest : List UInt8) (i acc : Nat), i + k = 9 → x < 2 ^ (7 * k + 1) → (0 < i → 0 < x) → tkU (uintsF x ++ rest) i acc = .ok (acc + x * 2 ^ (7 * i)) (i + (uintsF x).length)
  | 0, x, rest, i, acc, hi, hx, h0 => by
    have hx2 : x < 2 := by simpa using hx
    rw [uintsF_small (by omega)]
    have hb : (UInt8.ofNat x).toNat = x := by rw [UInt8.toNat_ofNat']; omega
    show tkU (UInt8.ofNat x :: rest) i acc = _
    unfold tkU
    rw [hb, if_neg (by omega), if_pos (by omega), Nat.mod_eq_of_lt (show x < 128 by omega)]
    rfl
  | k + 1, x, rest, i, acc, hi, hx, h0 => by
    by_cases hs : x < 128
    · rw [uintsF_small hs]
      have hb : (UInt8.ofNat x).toNat = x := by rw [UInt8.toNat_ofNat']; omega
      show tkU (UInt8.ofNat x :: rest) i acc = _
      unfold tkU
      rw [hb, if_neg (by omega), if_pos (by omega), Nat.mod_eq_of_lt hs]
      rfl
    · rw [uintsF_big hs]
      have hb : (UInt8.ofNat (x % 128 + 128)).toNat = x % 128 + 128 := by rw [UInt8.toNat_ofNat']; omega
      show tkU (UInt8.ofNat (x % 128 + 128) :: (uintsF (x / 128) ++ rest)) i acc = _
      unfold tkU
      have e : 7 * (k + 1) + 1 = 7 * k + 1 + 7 := by omega
      rw [e, Nat.pow_add] at hx
      rw [hb, if_neg (by omega), if_neg (by omega), tkU_uints k (x / 128) rest (i + 1) _ (by omega) (Nat.div_lt_of_lt_mul (by rw [Nat.mul_comm]; exact hx)) (by omega)]
      have e2 : 7 * (i + 1) = 7 * i + 7 := by omega
      have e3 : (x % 128 + 128) % 128 = x % 128 := by omega
      rw [e2, Nat.pow_add, e3]
      have e4 : x / 128 * (2 ^ (7 * i) * 2 ^ 7) = x / 128 * 128 * 2 ^ (7 * i) := by
        rw [Nat.mul_assoc, Nat.mul_comm 128]
      rw [e4, Nat.add_assoc, ← Nat.add_mul]
      have e5 : x % 128 + x / 128 * 128 = x := by omega
      rw [e5]
      simp only [List.length_cons]
      congr 1
      omega
theorem takeU_uints (pre rest : List UInt8) (x : Nat) (hx : x < 18446744073709551616) : takeU (pre ++ (uintsF x ++ rest)) (pre.length : Nat) = (x, ((pre.length + (uintsF x).length : Nat) : Int), .ok) := by
  unfold takeU
  rw [if_pos (by simp; omega), Int.toNat_natCast, List.drop_left, tkU_uints 9 x rest 0 0 (by omega) hx (by omega)]
  simp
end Go.Proofs.YtadaoplmicghcaaGreatDoor.Lk
namespace Go.Proofs.YtadaoplmicghcaaGreatDoor.Lk
open Go.RowKit Go.Proofs.YtadaoplmicghcaaGreatDoorW.PrintWords Go.Proofs.YtadaoplmicghcaaGreatDoorW.PrintLast Go.Proofs.YtadaoplmicghcaaGreatDoorW.PrintMore
set_option linter.unusedVariables false
set_option linter.unusedSimpArgs false
theorem takeB_more (pre p rest : List UInt8) (hp : p.length ≤ 1048576) : takeB (pre ++ (uintsF p.length ++ (p ++ rest))) (pre.length : Nat) = (p, ((pre.length + (uintsF p.length).length + p.length : Nat) : Int), .ok) := by
  unfold takeB
  rw [takeU_uints pre (p ++ rest) p.length (by omega)]
  simp only []
  rw [if_neg (by omega), if_neg (by simp; omega), Int.toNat_natCast]
  have e : (pre ++ (uintsF p.length ++ (p ++ rest))) = (pre ++ uintsF p.length) ++ (p ++ rest) := by simp
  rw [e, ← List.length_append, List.take_append, List.take_of_length_le (by omega), Nat.add_sub_cancel_left, List.drop_left, List.take_left]
  simp
theorem putAll_pre (b : List UInt8) : ∀ (l : List (List UInt8)), putAll b l = b ++ putAll [] l := by
  intro l
  induction l generalizing b with
  | nil => simp [putAll]
  | cons m l ih =>
    show putAll (b ++ uintsF m.length ++ m) l = b ++ putAll ([] ++ uintsF m.length ++ m) l
    rw [ih, ih ([] ++ uintsF m.length ++ m)]
    simp
theorem putAll_split (b : List UInt8) (l : List (List UInt8)) (k : Nat) (h : k < l.length) : putAll b l = putAll b (l.take k) ++ (uintsF (gl l k).length ++ (gl l k ++ putAll [] (l.drop (k + 1)))) := by
  have e : l = l.take (k + 1) ++ l.drop (k + 1) := (List.take_append_drop _ _).symm
  have h2 : putAll b l = putAll (putAll b (l.take (k + 1))) (l.drop (k + 1)) := by
    conv => lhs; rw [e]
    exact List.foldl_append
  rw [h2, putAll_pre, putAll_step b l k h]
  simp
theorem putAll_short (b : List UInt8) (l : List (List UInt8)) (hs : ∀ m ∈ l, m.length ≤ 1000) : (putAll b l).length ≤ b.length + 1010 * l.length := by
  induction l generalizing b with
  | nil => simp [putAll]
  | cons m l ih =>
    have h1 := ih (b ++ uintsF m.length ++ m) (fun x hx => hs x (List.mem_cons_of_mem _ hx))
    have h2 := hs m List.mem_cons_self
    have h3 := (uintsF_len m.length (by omega)).2
    simp only [List.length_append, List.length_cons] at h1 ⊢
    show (putAll (b ++ uintsF m.length ++ m) l).length ≤ _
    omega
set_option maxRecDepth 100000 in
set_option maxHeartbeats 2000000 in
theorem read_calls (w : World) (A : Option Addr) (c a b : Nat) (ms : List (List UInt8)) (p : List UInt8) (hp : p = putAll (uintsF a ++ uintsF b) ms) (hx : kB.C w A p.length p) (hc : p.length ≤ c) (ha : a ≤ 100000) (hb : b ≤ 100000) (hs : ∀ m ∈ ms, m.length ≤ 1000) (hl : ms.length ≤ 100) :
    Calls Tryz.prog 59 #[.slice A p.length c] w fun e w' => ∃ v, e = .returned (.tuple #[.int .i64 a, .int .i64 b, v, .nilIface]) ∧ kBs.R 68 w' w.heap.size (fun _ => True) v ms ∧ Below w.heap.size w w' := by
  have HX := Aside0.mk hx
  have HC := Lib.hid hc
  have HS := Lib.hid hs
  have HP := Lib.hid hp
  have HLN := Lib.hid hl
  have hpl := putAll_short (uintsF a ++ uintsF b) ms hs
  rw [← hp, List.length_append] at hpl
  have hua := (uintsF_len a (by omega)).2
  have hub := (uintsF_len b (by omega)).2
  have HPL := Lib.hid (show p.length ≤ 101020 by omega)
  have pl : (p.length : Int) ≤ 101020 := by have := HPL.out; omega
  have HT1 := Lib.hid (show takeU p 0 = (a, (((uintsF a).length : Nat) : Int), .ok) by
    have h := takeU_uints [] (uintsF b ++ putAll [] ms) a (by omega)
    rw [hp, putAll_pre]
    simpa using h)
  have HT2 := Lib.hid (show takeU p (((uintsF a).length : Nat) : Int) = (b, (((uintsF a ++ uintsF b).length : Nat) : Int), .ok) by
    have h := takeU_uints (uintsF a) (putAll [] ms) b (by omega)
    rw [hp, putAll_pre, List.append_assoc, h, List.length_append])
  obtain ⟨n1, hn1⟩ : ∃ n1, n1 = (uintsF a).length := ⟨_, rfl⟩
  obtain ⟨hd, hhd⟩ : ∃ hd, hd = uintsF a ++ uintsF b := ⟨_, rfl⟩
  obtain ⟨n2, hn2⟩ : ∃ n2, n2 = hd.length := ⟨_, rfl⟩
  have HN2 := Lib.hid hn2
  rw [← hn1] at HT1
  rw [← hn1, ← hhd, ← hn2] at HT2
  rw [← hhd] at HP
  have n1b : (n1 : Int) ≤ 10 := by omega
  have n2b : (n2 : Int) ≤ 20 := by rw [hn2, hhd, List.length_append]; omega
  have ga : ¬ (a : Int) > 1099511627776 := by omega
  have gb' : ¬ (b : Int) > 1099511627776 := by omega
  have gac : decide ((a : Int) > 1099511627776) = false := decide_eq_false ga
  have gbc : decide ((b : Int) > 1099511627776) = false := decide_eq_false gb'
  have gad : ¬ a > 1099511627776 := by omega
  have gbd : ¬ b > 1099511627776 := by omega
  have wa1 : IntKind.i64.wrap (a : Int) = a := by rw [IntKind.wrap_i64]; omega
  have wb1 : IntKind.i64.wrap (b : Int) = b := by rw [IntKind.wrap_i64]; omega
  clear hx hc hs hp hl hpl hua hub hn1 hhd hn2
  go_enter Tryz.func59, Tryz.ntmps59
  go_wp2_with (first
    | (go_at_call 68; refine (takeUint_calls w2 _ _ p (n1 : Int) (Kd.C_below HX.out H2.out) HC.out (by have := HPL.out; omega)).mono ?_; intro e w3 h; unfold TakeUPost at h; rw [HT2.out] at h; obtain ⟨v, rfl, hv, hb⟩ := h; obtain rfl := hv; have H3 := Aside0.mk (below_step H2.out hb); clear hb)
    | (go_at_call 68; refine (takeUint_calls w _ _ p 0 HX.out HC.out (by have := HPL.out; omega)).mono ?_; intro e w2 h; unfold TakeUPost at h; rw [HT1.out] at h; obtain ⟨v, rfl, hv, hb⟩ := h; obtain rfl := hv; have H2 := Aside0.mk hb; clear hb))
  go_loopw [7, 8, 10] (fun v7 v8 v10 wr => ∃ (k n : Nat), v7 = .int .i64 n ∧ v8 = .nilIface ∧ k ≤ ms.length ∧ Hid (n = (putAll hd (ms.take k)).length ∧ n ≤ p.length) ∧ Aside0 (kBs.R 68 wr w.heap.size (fun _ => True) v10 (ms.take k)) ∧ Aside0 (Below w.heap.size w wr)) (fun v _ _ _ => p.length - (intOf v).toNat)
  case atStart =>
    refine ⟨0, n2, rfl, rfl, Nat.zero_le _, ⟨?_, ?_⟩, ⟨by rw [List.take_zero]; exact Kd.R_nil _ _ _ _ _⟩, H3⟩
    · rw [HN2.out, List.take_zero]; rfl
    · rw [HN2.out, HP.out, putAll_pre, List.length_append]; omega
  case round =>
    obtain ⟨k, n, rfl, rfl, hk, HN, HK, HB⟩ := hrel
    by_cases hlt : k < ms.length
    · obtain ⟨m, hm⟩ : ∃ m, m = gl ms k := ⟨_, rfl⟩
      obtain ⟨rest, hrest⟩ : ∃ rest, rest = putAll [] (ms.drop (k + 1)) := ⟨_, rfl⟩
      have HML := Lib.hid (show m.length ≤ 1000 from HS.out m (by rw [hm, gl_get ms k hlt]; exact List.getElem_mem hlt))
      have hpe : p = putAll hd (ms.take k) ++ (uintsF m.length ++ (m ++ rest)) := by rw [HP.out, hm, hrest]; exact putAll_split hd ms k hlt
      obtain ⟨n', hn'⟩ : ∃ n', n' = n + (uintsF m.length).length + m.length := ⟨_, rfl⟩
      have hu := (uintsF_len m.length (by have := HML.out; omega)).1
      have HTB := Lib.hid (show takeB p (n : Int) = (m, (n' : Int), .ok) by
        rw [hn', HN.out.1, hpe]
        exact takeB_more _ m rest (by have := HML.out; omega))
      have hpl : p.length = n + (uintsF m.length).length + m.length + rest.length := by
        rw [hpe, HN.out.1]
        simp only [List.length_append]
        omega
      have HN' := Lib.hid (show n' = (putAll hd (ms.take (k + 1))).length ∧ n' ≤ p.length ∧ n < n' by
        refine ⟨?_, by omega, by omega⟩
        rw [putAll_step hd ms k hlt, ← hm, hn', HN.out.1]
        simp only [List.length_append])
      have HTK := Lib.hid (show ms.take (k + 1) = ms.take k ++ [m] by rw [List.take_succ_eq_append_getElem hlt, hm, gl_get ms k hlt])
      have HKL := Lib.hid (show (ms.take k).length ≤ 100 by have := List.length_take_le' k ms; have := HLN.out; omega)
      obtain ⟨mk, hmk⟩ : ∃ mk, mk = ms.take k := ⟨_, rfl⟩
      rw [← hmk] at HTK HKL HK
      have k1 : (n : Int) < p.length := by omega
      have n0 : (0 : Int) ≤ n := by omega
      have HLT := Lib.hid hlt
      clear hlt hm hrest hpe hn' hu hpl hmk
      go_wp2_with (first
        | (go_at_call 69; refine (takeBytes_calls _ _ _ p (n : Int) (Kd.C_below HX.out HB.out) HC.out (by have := HPL.out; omega)).mono ?_; intro e w4 h; unfold TakeBPost at h; rw [HTB.out] at h; obtain ⟨q, v, rfl, hq, hv, hb⟩ := h; obtain rfl := hv; obtain ⟨A1, c1, rfl, hc1, _⟩ := Kd.R_reads hq; have HQ := Aside0.mk hq; have HC1 := Lib.hid hc1; have HB4 := Aside0.mk hb; clear hq hc1 hb)
        | (at_builtin; refine Kd.R_append kBs (w0 := w) (W := w4) w.heap.size rfl _ _ 79 68 (.slice none 0 0) 24 rfl Tryz.underlying79 info6 rfl (by decide) (by omega) _ mk m [.slice A1 m.length c1] (fun _ => True) (fun k => wr.heap.size ≤ k) rfl rfl ⟨_, rfl, Kd.R_lower (Kd.R_mono (Kd.R_bound HQ.out) (fun k hk => hk.2.1)) HB.out.size⟩ ?hok (fun _ _ => trivial) (by exact Kd.R_below HK.out HB4.out) (below_step HB.out HB4.out) (Nat.le_trans HB.out.size HB4.out.size) (by have := HKL.out; omega) ?_; (case hok => intro k hk; refine ⟨trivial, fun h => ?_⟩; have := ((Kd.R_bound HK.out).1 k h.symm).2.2.1; omega); intro v5 w5 hr hb5 hg5 hat5; have HR5 := Aside0.mk hr; have HB5 := Aside0.mk hb5; clear hr hb5 hg5 hat5))
      go_roundw
      case rel => exact ⟨k + 1, n', rfl, rfl, by have := HLT.out; omega, ⟨HN'.out.1, HN'.out.2.1⟩, by rw [HTK.out]; exact HR5, HB5⟩
      case measure => have h1 := HN'.out.2.1; have h2 := HN'.out.2.2; simp [intOf]; omega
    · have HMS := Lib.hid (show ms.take k = ms from List.take_of_length_le (by omega))
      have hnp : n = p.length := by rw [HN.out.1, HMS.out, HP.out]
      have k1 : ¬ (n : Int) < p.length := by omega
      rw [HMS.out] at HK
      clear hlt hnp
      go_wp2
      exact bodyPost_ret (v := .tuple #[.int .i64 a, .int .i64 b, u10, .nilIface]) (by simp [results, Tryz.results59, go_sem]) rfl ⟨_, rfl, HK.out, HB.out⟩
end Go.Proofs.YtadaoplmicghcaaGreatDoor.Lk
namespace Go.Proofs.YtadaoplmicghcaaGreatDoor.Lk
open Go.RowKit Go.Proofs.YtadaoplmicghcaaGreatDoorW.PrintWords Go.Proofs.YtadaoplmicghcaaGreatDoorW.PrintLast Go.Proofs.YtadaoplmicghcaaGreatDoorW.PrintMore
attribute [local go_sem] max2_int min2_int max_two min_two
set_option linter.unusedVariables false
set_option linter.unusedSimpArgs false
def frs (got first : Nat) (ms : List (List UInt8)) : List (List UInt8) := if first ≤ got ∧ got - first < ms.length then ms.drop (got - first) else []
theorem frs_len (got first : Nat) (ms : List (List UInt8)) : (frs got first ms).length ≤ ms.length := by
  unfold frs
  split
  · rw [List.length_drop]; omega
  · simp
theorem Q_tail {w : World} {A : Option Addr} {c base k : Nat} {l : List (List UInt8)} (h : kBs.Q 68 w base (fun _ => True) (.slice A l.length c) l) (hk : k ≤ l.length) :
    ∃ A', (∀ W : World, (Instr.slice 79 (.slice A l.length c) (some (.int .i64 (k : Int))) none none).run Tryz.prog W = .ok (.slice A' (l.drop k).length (c - k)) W) ∧ kBs.Q 68 w base (fun _ => True) (.slice A' (l.drop k).length (c - k)) (l.drop k) := by
  have hq := Kd.Q_drop h hk
  refine ⟨if c = k then A else A.map (·.add (k * kBs.sz)), fun W => ?_, by rw [List.length_drop]; exact hq⟩
  obtain ⟨i0, hi0, hz0, hz1, hz2⟩ := info_parts info6
  have ht := Tryz.underlying79
  have hel : Tryz.prog.elem 79 = 68 := by simp [Program.elem, ht]
  have hu : Tryz.prog.underlying 79 = some (.slice (Tryz.prog.elem 79)) := by rw [hel]; exact ht
  rw [run_slice_l (w := W) 79 A l.length c hu .i64 (k : Int) (by omega) (by omega), hel, List.length_drop]
  have e1 : kBs.sz = 1 := rfl
  simp [sizeOf, typeInfo, hi0, hz1, sliced, Result.andThen, e1]
theorem Q_head {w : World} {A : Option Addr} {c base hi : Nat} {l : List (List UInt8)} (h : kBs.Q 68 w base (fun _ => True) (.slice A l.length c) l) (h2 : hi ≤ l.length) (y : Int) (hy : y = (hi : Int)) :
    ∃ A', (∀ W : World, (Instr.slice 79 (.slice A l.length c) none (some (.int .i64 y)) none).run Tryz.prog W = .ok (.slice A' (l.take hi).length c) W) ∧ kBs.Q 68 w base (fun _ => True) (.slice A' (l.take hi).length c) (l.take hi) := by
  subst hy
  have hl : (l.take hi).length = hi := by rw [List.length_take]; omega
  have hc := (Kd.Q_reads' h).2.1
  refine ⟨A, fun W => ?_, by rw [hl]; exact Kd.Q_take h h2⟩
  obtain ⟨i0, hi0, hz0, hz1, hz2⟩ := info_parts info6
  have ht := Tryz.underlying79
  have hel : Tryz.prog.elem 79 = 68 := by simp [Program.elem, ht]
  have hu : Tryz.prog.underlying 79 = some (.slice (Tryz.prog.elem 79)) := by rw [hel]; exact ht
  rw [run_slice_h (w := W) 79 A l.length c hu .i64 (hi : Int) (by omega) (by omega), hel, hl]
  have e1 : kBs.sz = 1 := rfl
  cases A with
  | none => simp [sizeOf, typeInfo, hi0, hz1, sliced, Result.andThen, e1]
  | some ad => simp [sizeOf, typeInfo, hi0, hz1, sliced, Result.andThen, e1, Addr.add]
set_option maxRecDepth 100000 in
theorem fresh_calls (w : World) (lo : Nat) (K : Nat → Prop) (N : En) (p base first c : Nat) (A : Option Addr) (ms : List (List UInt8)) (hF : EnFine N) (hE : IsEnd w lo K N p) (hq : kBs.Q 68 w base (fun _ => True) (.slice A ms.length c) ms) (hf : first ≤ 100000) (hl : ms.length ≤ 100) :
    Calls Tryz.prog 60 #[.pointer (some ⟨p, 0, none⟩), .int .i64 first, .slice A ms.length c] w fun e w' => ∃ A' c', e = .returned (.slice A' (frs N.got first ms).length c') ∧ kBs.Q 68 w base (fun _ => True) (.slice A' (frs N.got first ms).length c') (frs N.got first ms) ∧ w' = w := by
  obtain ⟨B, d, z⟩ := hE
  obtain ⟨c0, c1, c2, c3, c4, c5, c6⟩ := z.cells
  have h1 := hF.gl
  have HQ := Aside0.mk hq
  have b1 : (N.got : Int) ≤ 100000 := by omega
  have b0 : (0 : Int) ≤ N.got := by omega
  have b2 : (first : Int) ≤ 100000 := by omega
  have b3 : (0 : Int) ≤ first := by omega
  have b4 : (ms.length : Int) ≤ 100 := by omega
  obtain ⟨x, hx⟩ : ∃ x, x = (N.got : Int) := ⟨_, rfl⟩
  obtain ⟨y, hy⟩ : ∃ y, y = (first : Int) := ⟨_, rfl⟩
  rw [← hx] at c4 b1 b0
  rw [← hy] at b2 b3 ⊢
  by_cases g : first ≤ N.got ∧ N.got - first < ms.length
  · have hfr : frs N.got first ms = ms.drop (N.got - first) := if_pos g
    obtain ⟨k, hk⟩ : ∃ k, k = N.got - first := ⟨_, rfl⟩
    rw [← hk] at hfr
    obtain ⟨A', hrun, hq'⟩ := Q_tail hq (k := k) (by omega)
    have HQ' := Aside0.mk hq'
    have hkx : (k : Int) = x - y := by omega
    rw [hkx] at hrun
    have g1 : x - y ≥ 0 := by omega
    have g2 : x - y < ms.length := by omega
    have g1c : decide (x - y ≥ 0) = true := decide_eq_true g1
    have g2c : decide (x - y < ms.length) = true := decide_eq_true g2
    have g3 : 0 ≤ x - y := by omega
    rw [hfr]
    obtain ⟨dl, hdl⟩ : ∃ dl, dl = ms.drop k := ⟨_, rfl⟩
    rw [← hdl] at hrun HQ' ⊢
    clear hk hdl
    clear z hF hq hq' c0 c1 c2 c3 c5 c6 hx hy hf hl h1 hfr hkx g
    go_enter Tryz.func60, Tryz.ntmps60
    go_wp2
    go_ret
    exact ⟨A', c - k, rfl, HQ'.out, rfl⟩
  · have hfr : frs N.got first ms = [] := if_neg g
    rw [hfr]
    by_cases g1 : first ≤ N.got
    · have g1a : x - y ≥ 0 := by omega
      have g2 : ¬ x - y < ms.length := by omega
      have g1c : decide (x - y ≥ 0) = true := decide_eq_true g1a
      have g2c : decide (x - y < ms.length) = false := decide_eq_false g2
      have g3 : 0 ≤ x - y := by omega
      clear z hF hq c0 c1 c2 c3 c5 c6 hx hy hf hl h1 hfr g g1
      go_enter Tryz.func60, Tryz.ntmps60
      go_wp2
      go_ret
      exact ⟨none, 0, rfl, Kd.Q_nil _ _ _ _ _, rfl⟩
    · have g1a : ¬ x - y ≥ 0 := by omega
      have g1c : decide (x - y ≥ 0) = false := decide_eq_false g1a
      have g3 : ¬ 0 ≤ x - y := by omega
      clear z hF hq c0 c1 c2 c3 c5 c6 hx hy hf hl h1 hfr g g1
      go_enter Tryz.func60, Tryz.ntmps60
      go_wp2
      go_ret
      exact ⟨none, 0, rfl, Kd.Q_nil _ _ _ _ _, rfl⟩
def rcvd (got first : Nat) (most : Int) (ms : List (List UInt8)) : List (List UInt8) := (frs got first ms).take most.toNat
def En.recv (N : En) (a b : Nat) (most : Int) (ms : List (List UInt8)) : En := { N with tld := max N.tld a, rcv := N.rcv || decide (0 < ms.length), got := N.got + (rcvd N.got b most ms).length }
theorem EnFine.recv {N : En} (h : EnFine N) {a b : Nat} {most : Int} {ms : List (List UInt8)} (ha : a ≤ N.so) (hl : N.got + ms.length ≤ 100000) : EnFine (N.recv a b most ms) :=
  ⟨h.w1, h.w2, h.ol, h.so1, Nat.max_le.2 ⟨h.to1, ha⟩, by
    have h1 := frs_len N.got b ms
    have h2 : (rcvd N.got b most ms).length ≤ ms.length := by unfold rcvd; rw [List.length_take]; omega
    simp only [En.recv]; omega, Nat.le_trans h.sg1 (Nat.le_add_right _ _)⟩
set_option maxRecDepth 100000 in
set_option maxHeartbeats 2000000 in
theorem linkReceive_calls (w : World) (lo : Nat) (K : Nat → Prop) (N : En) (p a b c : Nat) (A : Option Addr) (ms : List (List UInt8)) (q : List UInt8) (most : Int) (hF : EnFine N) (hE : IsEnd w lo K N p) (hp : q = putAll (uintsF a ++ uintsF b) ms) (hx : kB.C w A q.length q) (hc : q.length ≤ c) (ha : a ≤ N.so) (hb : b ≤ 100000) (hs : ∀ m ∈ ms, m.length ≤ 1000) (hl : ms.length ≤ 100) :
    Calls Tryz.prog 29 #[.pointer (some ⟨p, 0, none⟩), .slice A q.length c, .int .i64 most] w fun e w' => ∃ A' c', e = .returned (.tuple #[.slice A' (rcvd N.got b most ms).length c', .nilIface]) ∧ kBs.Q 68 w' w.heap.size (fun _ => True) (.slice A' (rcvd N.got b most ms).length c') (rcvd N.got b most ms) ∧ IsEnd w' lo K (N.recv a b most ms) p ∧ Moved w w' lo K K := by
  obtain ⟨B, d, z⟩ := hE
  have HZ := Aside0.mk z
  have HF := Lib.hid hF
  have HS := Lib.hid hs
  have HP := Lib.hid hp
  have HX := Aside0.mk hx
  have HC := Lib.hid hc
  have HLN := Lib.hid hl
  have h1 := hF.ol
  have h2 := hF.so1
  have h3 := hF.to1
  have h4 := hF.sg1
  have h5 := hF.gl
  have b2 : (N.so : Int) ≤ 100000 := by omega
  have b3 : (N.tld : Int) ≤ N.so := by omega
  have b6 : (0 : Int) ≤ N.tld := by omega
  have b7 : (a : Int) ≤ N.so := by omega
  have b8 : (0 : Int) ≤ a := by omega
  have g1b : decide ((a : Int) > N.so) = false := decide_eq_false (by omega)
  have b9 : (ms.length : Int) ≤ 100 := by omega
  have HL0 := Lib.hid (HZ.out.low)
  have HA1 := Lib.hid (show a ≤ 100000 by omega)
  have HB1 := Lib.hid hb
  clear z hF hs hp hx hc hl h1 h2 h3 h4 h5 ha hb
  go_enter Tryz.func29, Tryz.ntmps29
  go_upto_region 4 with (go_at_call 59; refine (read_calls w A c a b ms q HP.out HX.out HC.out HA1.out HB1.out HS.out HLN.out).mono ?_; rintro e w1 ⟨v, rfl, hv, hbl⟩; obtain ⟨A1, c1, rfl, hc1, _⟩ := Kd.R_reads hv; have HV := Aside0.mk hv; have HB := Aside0.mk hbl; clear hv hbl hc1)
  have HZ1 := Aside0.mk (HZ.out.stay HB.out)
  have HM1 := Aside0.mk (show Moved w w1 lo K K from ⟨HB.out.mono HL0.out, ⟨HB.out.size, fun k hk _ => HB.out.block k hk⟩, fun k hk => .inl hk⟩)
  have c2 := HZ1.out.cells.2.2.1
  go_upto_region 6 with (fail)
  have c3 := HZ1.out.cells.2.2.2.1
  have f3 := blk_frozen HZ1.out.blk 3
  go_upto_region 7 with (fail)
  have hmx : (if N.tld < a then (a : Int) else N.tld) = ((max N.tld a : Nat) : Int) := by
    by_cases h : N.tld < a
    · rw [if_pos h, Nat.max_eq_right (by omega)]
    · rw [if_neg h, Nat.max_eq_left (by omega)]
  rw [hmx]
  obtain ⟨w2, hw2⟩ : ∃ w2, w2 = w1.setCell ⟨p, 3, none⟩ (.int .i64 ((max N.tld a : Nat) : Int)) := ⟨_, rfl⟩
  rw [← hw2]
  have HZ2 := Aside0.mk (show EndAt w2 lo K { N with tld := max N.tld a } p B d by rw [hw2]; exact HZ1.out.set 3 _ rfl HZ1.out.ro)
  have HM2 := Aside0.mk (show Moved w w2 lo K K by rw [hw2]; exact HM1.out.trans (moved_set HZ1.out 3 _))
  have HV2 := Aside0.mk (show kBs.R 68 w2 w.heap.size (fun _ => True) (.slice A1 ms.length c1) ms by rw [hw2]; exact Kd.R_mono (Kd.R_far (Kd.R_bound HV.out) (fun k hk => by have h1 := hk.2.1; have h2 := (HZ.out.kb p HZ.out.kp).2; show k ≠ p; omega) _) (fun _ _ => trivial))
  clear hw2 hmx c2 c3 f3
  have c6 := HZ2.out.cells.2.2.2.2.2.2
  have f6 := blk_frozen HZ2.out.blk 6
  simp only [] at c6
  obtain ⟨r, hr⟩ : ∃ r, r = N.rcv := ⟨_, rfl⟩
  rw [← hr] at c6
  obtain ⟨r', hr'⟩ : ∃ r', r' = (r || decide (0 < ms.length)) := ⟨_, rfl⟩
  have HR' := Lib.hid hr'
  have HRR := Lib.hid hr
  clear hr hr'
  cases r
  all_goals
    go_upto_region 8 with (fail)
    obtain ⟨w3, hw3⟩ : ∃ w3, w3 = w2.setCell ⟨p, 6, none⟩ (.bool r') := ⟨_, rfl⟩
    have hw3' := hw3
    rw [HR'.out] at hw3'
    simp only [Bool.true_or, Bool.false_or] at hw3'
    rw [← hw3']
    have HZ3 := Aside0.mk (show EndAt w3 lo K { N with tld := max N.tld a, rcv := r' } p B d by rw [hw3]; exact HZ2.out.set 6 (.bool r') rfl HZ2.out.ro)
    have HM3 := Aside0.mk (show Moved w w3 lo K K by rw [hw3]; exact HM2.out.trans (moved_set HZ2.out 6 _))
    have HV3 := Aside0.mk (show kBs.R 68 w3 w.heap.size (fun _ => True) (.slice A1 ms.length c1) ms by rw [hw3]; exact Kd.R_mono (Kd.R_far (Kd.R_bound HV2.out) (fun k hk => by have h1 := hk.2.1; have h2 := (HZ.out.kb p HZ.out.kp).2; show k ≠ p; omega) _) (fun _ _ => trivial))
    clear hw3 hw3' c6 f6
    have HF3 := Lib.hid (show EnFine { N with tld := max N.tld a, rcv := r' } from ⟨HF.out.w1, HF.out.w2, HF.out.ol, HF.out.so1, Nat.max_le.2 ⟨HF.out.to1, (by omega : a ≤ N.so)⟩, HF.out.gl, HF.out.sg1⟩)
    go_upto_region 9 with (go_at_call 60; refine (fresh_calls w3 lo K { N with tld := max N.tld a, rcv := r' } p w.heap.size b c1 A1 ms HF3.out ⟨_, _, HZ3.out⟩ (Kd.Q_of_R HV3.out) HB1.out HLN.out).mono ?_; rintro e w4 ⟨A2, c2, rfl, hv, rfl⟩; have HQ4 := Aside0.mk hv; clear hv)
    try simp only [] at HQ4
    try simp only []
    obtain ⟨fr, hfr⟩ : ∃ fr, fr = frs N.got b ms := ⟨_, rfl⟩
    rw [← hfr] at HQ4 ⊢
    have hfl : fr.length ≤ ms.length := by rw [hfr]; exact frs_len _ _ _
    have HFR := Lib.hid (show rcvd N.got b most ms = fr.take (min fr.length most.toNat) by
      rw [hfr]
      unfold rcvd
      rw [List.take_eq_take_iff]
      omega)
    have hfb : (fr.length : Int) ≤ 100 := by omega
    have hmi : (if (if most < 0 then 0 else most) < (fr.length : Int) then (if most < 0 then 0 else most) else (fr.length : Int)) = ((min fr.length most.toNat : Nat) : Int) := by
      by_cases h : most < 0
      · rw [if_pos h]
        split <;> omega
      · rw [if_neg h]
        split <;> omega
    obtain ⟨mi, hmin⟩ : ∃ mi, mi = min fr.length most.toNat := ⟨_, rfl⟩
    obtain ⟨y, hy⟩ : ∃ y, y = ((min fr.length most.toNat : Nat) : Int) := ⟨_, rfl⟩
    obtain ⟨A3, hrun, hq3⟩ := Q_head HQ4.out (hi := min fr.length most.toNat) (Nat.min_le_left _ _) y hy
    have HQ5 := Aside0.mk hq3
    rw [← HFR.out] at HQ5 hrun
    rw [← hy] at hmi
    clear hq3 hfl hfr hy hmin
    go_upto_region 10 with (fail)
    have hrl : (rcvd N.got b most ms).length ≤ 100 := by rw [HFR.out, List.length_take]; omega
    obtain ⟨rc, hrc⟩ : ∃ rc, rc = rcvd N.got b most ms := ⟨_, rfl⟩
    rw [← hrc] at HQ5 hrl hrun ⊢
    have HRC := Lib.hid hrc
    have c4 := HZ3.out.cells.2.2.2.2.1
    have f4 := blk_frozen HZ3.out.blk 4
    simp only [] at c4
    have e1 : (rc.length : Int) ≤ 100 := by omega
    have e2 : (N.got : Int) ≤ 100000 := by have := HF.out.gl; omega
    have e3 : (0 : Int) ≤ N.got := by omega
    obtain ⟨ng, hng⟩ : ∃ ng, ng = N.got + rc.length := ⟨_, rfl⟩
    have hsum : (N.got : Int) + rc.length = (ng : Int) := by omega
    have HNG := Lib.hid hng
    clear hrun hmi hfb hrc hrl hng
    go_wp2
    all_goals
      refine bodyPost_ret (v := .tuple #[.slice A3 rc.length c2, .nilIface]) (by simp [results, Tryz.results29, go_sem]) rfl ⟨A3, c2, by rw [HRC.out], ?_, ⟨B, d, ?_⟩, HM3.out.trans (moved_set HZ3.out 4 _)⟩
      · rw [← HRC.out]
        exact Kd.Q_mono (Kd.Q_far (Kd.Q_bound HQ5.out) (fun k hk => by have h1 := hk.2.1; have h2 := (HZ.out.kb p HZ.out.kp).2; show k ≠ p; omega) _) (fun _ _ => trivial)
      · have z := HZ3.out.set 4 (.int .i64 (ng : Int)) (N' := N.recv a b most ms) (A' := B) (c' := d) (by
          simp only [enCells, En.recv]
          rw [← HRC.out, HNG.out, ← HRR.out, HR'.out]
          rfl) HZ3.out.ro
        exact z
def En.sent (N : En) : En := { N with rcv := false }
theorem EnFine.sent {N : En} (h : EnFine N) : EnFine N.sent := ⟨h.w1, h.w2, h.ol, h.so1, h.to1, h.gl, h.sg1⟩
set_option maxRecDepth 100000 in
theorem linkPacketNone_calls (w : World) (lo : Nat) (K : Nat → Prop) (N : En) (p : Nat) (hF : EnFine N) (hE : IsEnd w lo K N p) (h1 : N.so ≤ N.tld) (h2 : N.rcv = false) :
    Calls Tryz.prog 26 #[.pointer (some ⟨p, 0, none⟩)] w fun e w' => e = .returned (.tuple #[.slice none 0 0, .bool false]) ∧ Drawn0 w w' := by
  obtain ⟨B, d, z⟩ := hE
  obtain ⟨c0, c1, c2, c3, c4, c5, c6⟩ := z.cells
  rw [h2] at c6
  have g1b : decide ((N.tld : Int) ≥ N.so) = true := decide_eq_true (by omega)
  have g1c : decide (N.so ≤ N.tld) = true := decide_eq_true h1
  have g1d : (N.tld : Int) ≥ N.so := by omega
  clear z hF c0 c1 c4 c5
  go_enter Tryz.func26, Tryz.ntmps26
  go_wp2
  go_quiet (fail)
  go_wp2
  go_ret2
  exact ⟨rfl, ⟨⟨_, rfl⟩⟩⟩
end Go.Proofs.YtadaoplmicghcaaGreatDoor.Lk
namespace Go.Proofs.YtadaoplmicghcaaGreatDoor.Lk
open Go.RowKit Go.Proofs.YtadaoplmicghcaaGreatDoorW.PrintWords Go.Proofs.YtadaoplmicghcaaGreatDoorW.PrintLast Go.Proofs.YtadaoplmicghcaaGreatDoorW.PrintMore
set_option linter.unusedVariables false
set_option linter.unusedSimpArgs false
def strB (xs : List UInt8) : ByteArray := strOfNums (xs.map fun b => (b.toNat : Int))
theorem conv_str {w : World} {A : Option Addr} {n c : Nat} {xs : List UInt8} (h : kB.C w A n xs) : (convert 68 9 (.slice A n c)).run Tryz.prog w = .ok (.string (strB xs)) w := by
  refine string_of_reads Tryz.underlying68 Tryz.underlying5 Tryz.underlying9 ?_
  have h1 := Kd.reads_of_C (enc := encB) (d := 0) h
  refine ⟨by rw [List.length_map]; exact h1.1, h1.2.1, fun hn => ?_⟩
  obtain ⟨ad, e, hc⟩ := h1.2.2 hn
  refine ⟨ad, e, fun j hj => ?_⟩
  rw [hc j hj]
  have hl : j < xs.length := by rw [h1.1]; exact hj
  simp [encB, List.getD_eq_getElem?_getD, List.getElem?_eq_getElem hl]
section
variable {w w' w1 : World} {lo lo' pa pb p : Nat} {K K' Ka Kb Kc : Nat → Prop} {N Na Nb Nc : En}
theorem IsEnd.lower (z : IsEnd w lo K N p) (h : lo' ≤ lo) : IsEnd w lo' K N p := by
  obtain ⟨A, c, z⟩ := z
  exact ⟨A, c, z.blk, z.ro.lower h, z.kp, fun k hk => ⟨Nat.le_trans h (z.kb k hk).1, (z.kb k hk).2⟩⟩
/-- Two ends, in blocks apart. -/
structure Two (w : World) (lo : Nat) (Ka Kb : Nat → Prop) (Na Nb : En) (pa pb : Nat) : Prop where
  a : IsEnd w lo Ka Na pa
  b : IsEnd w lo Kb Nb pb
  ap : ∀ k, Ka k → ¬ Kb k
theorem Two.flip (t : Two w lo Ka Kb Na Nb pa pb) : Two w lo Kb Ka Nb Na pb pa := ⟨t.b, t.a, fun k h1 h2 => t.ap k h2 h1⟩
theorem Two.left (t : Two w lo Ka Kb Na Nb pa pb) (h : IsEnd w' lo Kc Nc pa) (m : Moved w w' lo Ka Kc) : Two w' lo Kc Kb Nc Nb pa pb :=
  ⟨h, t.b.move (fun k hk => m.kept.2 k (t.b.kb k hk).2 (fun h => t.ap k h hk)) m.below.size, fun k h1 h2 => (m.new k h1).elim (fun h => t.ap k h h2) (fun h => by have := (t.b.kb k h2).2; omega)⟩
theorem Two.right (t : Two w lo Ka Kb Na Nb pa pb) (h : IsEnd w' lo Kc Nc pb) (m : Moved w w' lo Kb Kc) : Two w' lo Ka Kc Na Nc pa pb := (t.flip.left h m).flip
theorem Two.stay (t : Two w lo Ka Kb Na Nb pa pb) (h : Below w.heap.size w w') : Two w' lo Ka Kb Na Nb pa pb := ⟨t.a.stay h, t.b.stay h, t.ap⟩
theorem Two.drawn (t : Two w lo Ka Kb Na Nb pa pb) (h : Drawn0 w w') : Two w' lo Ka Kb Na Nb pa pb := by
  obtain ⟨⟨n, rfl⟩⟩ := h
  exact t.stay (pw_below_drewN (Below.refl _ _) _)
theorem Two.start {wa wb : World} (ha : IsEnd wa w.heap.size (fun k => k = w.heap.size) Na w.heap.size) (hs : wa.heap.size = w.heap.size + 1) (hb : IsEnd wb wa.heap.size (fun k => k = wa.heap.size) Nb wa.heap.size) (hab : Below wa.heap.size wa wb) : Two wb w.heap.size (fun k => k = w.heap.size) (fun k => k = wa.heap.size) Na Nb w.heap.size wa.heap.size :=
  ⟨ha.stay hab, hb.lower (by omega), fun k h1 h2 => by omega⟩
/-- A row above what an end holds stays when the end moves. -/
theorem Q_kept {α : Type} {d : Kd α} {e base : Nat} {v : Value} {xs : List α} (h : d.Q e w base (fun _ => True) v xs) (hK : ∀ k, K k → k < base) (m : Moved w w' lo K K') : d.Q e w' base (fun _ => True) v xs :=
  Kd.Q_mono (Kd.Q_step (Kd.Q_bound h) (fun k hk hl => m.kept.2 k hl (fun hK2 => by have := hK k hK2; have := hk.2.1; omega))) (fun _ _ => trivial)
theorem R_kept {α : Type} {d : Kd α} {e base : Nat} {v : Value} {xs : List α} (h : d.R e w base (fun _ => True) v xs) (hK : ∀ k, K k → k < base) (m : Moved w w' lo K K') : d.R e w' base (fun _ => True) v xs :=
  Kd.R_mono (Kd.R_step (Kd.R_bound h) (fun k hk hl => m.kept.2 k hl (fun hK2 => by have := hK k hK2; have := hk.2.1; omega))) (fun _ _ => trivial)
end
end Go.Proofs.YtadaoplmicghcaaGreatDoor.Lk
