/- link: Packet. -/
import Derived.Test.YtcdhjkkdenhmcaaLkF
namespace Go.Proofs.Ytcdhjkkdenhmcaa
open Go.RowKit Go.Proofs.YtcdhjkkdenhmcaaW.PrintWords Go.Proofs.YtcdhjkkdenhmcaaW.PrintLast Go.Proofs.YtcdhjkkdenhmcaaW.PrintMore
attribute [local go_sem] max2_int min2_int max_two min_two
set_option linter.unusedVariables false
set_option linter.unusedSimpArgs false
set_option maxRecDepth 100000 in
set_option maxHeartbeats 2000000 in
theorem linkPacket_calls (w : World) (lo : Nat) (K : Nat → Prop) (N : En) (p : Nat) (hF : EnFine N) (hE : IsEnd w lo K N p) (hs : ∀ m ∈ N.out, m.length ≤ 1000) (hgo : N.tld < N.so ∨ N.rcv = true) :
    Calls Try.prog 10 #[.pointer (some ⟨p, 0, none⟩)] w fun e w' => ∃ A c, e = .returned (.tuple #[.slice A (pkt N).length c, .bool true]) ∧ kB.R 5 w' w.heap.size (fun _ => True) (.slice A (pkt N).length c) (pkt N) ∧ IsEnd w' lo K { N with rcv := false } p ∧ Moved w w' lo K K := by
  obtain ⟨A, c, z⟩ := hE
  have HZ := Aside0.mk z
  have HF := Lib.hid hF
  have HS := Lib.hid hs
  obtain ⟨c0, c1, c2, c3, c4, c5, c6⟩ := z.cells
  have h1 := hF.ol
  have h2 := hF.so1
  have h3 := hF.to1
  have h4 := hF.sg1
  have h5 := hF.gl
  have h6 := hF.w2
  have b1 : (N.out.length : Int) ≤ 100000 := by omega
  have b2 : (N.so : Int) ≤ 100000 := by omega
  have b3 : (N.tld : Int) ≤ N.so := by omega
  have b4 : (N.sg : Int) ≤ 100000 := by omega
  have b5 : (N.win : Int) ≤ 64 := by omega
  have b6 : (0 : Int) ≤ N.tld := by omega
  have b7 : (0 : Int) ≤ N.sg := by omega
  have u1 : IntKind.u64.wrap (N.sg : Int) = (N.sg : Int) := by rw [IntKind.wrap_u64]; omega
  have u2 : IntKind.u64.wrap (N.tld : Int) = (N.tld : Int) := by rw [IntKind.wrap_u64]; omega
  have HUL := Lib.hid (show (uintsF N.sg).length ≤ 10 from (uintsF_len _ (by omega)).2)
  clear z hF hs h1 h2 h3 h4 h5 h6
  by_cases g1 : N.tld < N.so
  · have g1b : decide ((N.tld : Int) ≥ N.so) = false := decide_eq_false (by omega)
    have g1c : decide (N.so ≤ N.tld) = false := decide_eq_false (by omega)
    have g1d : ¬ N.so ≤ N.tld := by omega
    clear g1 hgo
    go_enter Try.func10, Try.ntmps10
    go_wp2
    go_quiet (fail)
    go_upto_region 3 with (fail)
    obtain ⟨wq, hwq⟩ : ∃ wq, wq = w.drewN nq := ⟨_, rfl⟩
    rw [← hwq]
    have HZQ := Aside0.mk (show EndAt wq lo K N p A c by rw [hwq]; exact HZ.out.stay (pw_below_drewN (Below.refl _ _) _))
    have HMQ := Aside0.mk (show Moved w wq lo K K by rw [hwq]; exact Moved.drewN _ _ _ _)
    clear hwq c0 c1 c2 c3 c4 c5 c6
    have c6 := (HZQ.out.cells).2.2.2.2.2.2
    have f6 := blk_frozen HZQ.out.blk 6
    go_upto_region 4 with (fail)
    obtain ⟨w1, hw1⟩ : ∃ w1, w1 = wq.setCell ⟨p, 6, none⟩ (.bool false) := ⟨_, rfl⟩
    rw [← hw1]
    have HZ1 := Aside0.mk (show EndAt w1 lo K { N with rcv := false } p A c by rw [hw1]; exact HZQ.out.set 6 (.bool false) rfl HZQ.out.ro)
    have HM1 := Aside0.mk (show Moved w w1 lo K K by rw [hw1]; exact HMQ.out.trans (moved_set HZQ.out 6 _))
    clear hw1 c6 f6
    obtain ⟨c0, c1, c2, c3, c4, c5, c6⟩ := HZ1.out.cells
    have C0 := Lib.hid c0
    have C1 := Lib.hid c1
    have C2 := Lib.hid c2
    have C3 := Lib.hid c3
    have C5 := Lib.hid c5
    have CL := Lib.hid (HZ1.out.kb p HZ1.out.kp).2
    clear c0 c1 c2 c3 c4 c5 c6
    simp only [] at C0 C1 C2 C3 C5
    go_wp2
    refine wp_region_noPanic ?_
    refine wp_region_held_drew (S := fun W => Below w1.heap.size w1 W) (by kernel_rfl) (by first | exact Below.refl _ _ | exact (Below.refl _ _).drew) (fun hHeld => ?_)
    refine wpAnyH_take (i := 0) (v := ?_) rfl (by kernel_rfl) (by kernel_rfl) (by kernel_rfl) (fun _ _ _ h => h) (Or.inl ⟨by rfl, ?_⟩) (by assumption) ?_
    rotate_left 1
    · first | (intro w hSw; go_simp; done) | (intro w hSw; go_simp; with_reducible rfl)
    try simp only [Act.put, List.getElem_toArray, List.getElem_cons_zero, List.getElem_cons_succ, List.setIfInBounds_toArray, List.set_cons_zero, List.set_cons_succ]
    refine wpAnyH_take (i := 1) (v := ?_) rfl (by kernel_rfl) (by kernel_rfl) (by kernel_rfl) (fun _ _ _ h => h) (Or.inl ⟨by rfl, ?_⟩) (by assumption) ?_
    rotate_left 1
    · first | (intro w hSw; go_simp; done) | (intro w hSw; go_simp; with_reducible rfl)
    try simp only [Act.put, List.getElem_toArray, List.getElem_cons_zero, List.getElem_cons_succ, List.setIfInBounds_toArray, List.set_cons_zero, List.set_cons_succ]
    refine wpAnyH_take (i := 2) (v := ?_) rfl (by kernel_rfl) (by kernel_rfl) (by kernel_rfl) (fun _ _ _ h => h) (Or.inl ⟨by rfl, ?_⟩) (by assumption) ?_
    rotate_left 1
    · first | (intro w hSw; go_simp; done) | (intro w hSw; go_simp; with_reducible rfl)
    try simp only [Act.put, List.getElem_toArray, List.getElem_cons_zero, List.getElem_cons_succ, List.setIfInBounds_toArray, List.set_cons_zero, List.set_cons_succ]
    refine wpAnyH_take (i := 3) (v := ?_) rfl (by kernel_rfl) (by kernel_rfl) (by kernel_rfl) (fun _ _ _ h => h) (Or.inl ⟨by rfl, ?_⟩) (by assumption) ?_
    rotate_left 1
    · first | (intro w hSw; have c0 := Below.keeps hSw C0.out CL.out; have c1 := Below.keeps hSw C1.out CL.out; have c2 := Below.keeps hSw C2.out CL.out; have c3 := Below.keeps hSw C3.out CL.out; have c5 := Below.keeps hSw C5.out CL.out; go_simp; done) | (intro w hSw; have c0 := Below.keeps hSw C0.out CL.out; have c1 := Below.keeps hSw C1.out CL.out; have c2 := Below.keeps hSw C2.out CL.out; have c3 := Below.keeps hSw C3.out CL.out; have c5 := Below.keeps hSw C5.out CL.out; go_simp; with_reducible rfl)
    try simp only [Act.put, List.getElem_toArray, List.getElem_cons_zero, List.getElem_cons_succ, List.setIfInBounds_toArray, List.set_cons_zero, List.set_cons_succ]
    refine wpAnyH_take (i := 4) (v := ?_) rfl (by kernel_rfl) (by kernel_rfl) (by kernel_rfl) (fun _ _ _ h => h) (Or.inl ⟨by rfl, ?_⟩) (by assumption) ?_
    rotate_left 1
    · first | (intro w hSw; go_simp; done) | (intro w hSw; go_simp; with_reducible rfl)
    try simp only [Act.put, List.getElem_toArray, List.getElem_cons_zero, List.getElem_cons_succ, List.setIfInBounds_toArray, List.set_cons_zero, List.set_cons_succ]
    refine wpAnyH_take (i := 6) (v := ?_) rfl (by kernel_rfl) (by kernel_rfl) (by kernel_rfl) (fun _ _ _ h => h) (Or.inl ⟨by rfl, ?_⟩) (by assumption) ?_
    rotate_left 1
    · first | (intro w hSw; go_simp; done) | (intro w hSw; go_simp; with_reducible rfl)
    try simp only [Act.put, List.getElem_toArray, List.getElem_cons_zero, List.getElem_cons_succ, List.setIfInBounds_toArray, List.set_cons_zero, List.set_cons_succ]
    refine wpAnyH_take (i := 7) (v := ?_) rfl (by kernel_rfl) (by kernel_rfl) (by kernel_rfl) (fun _ _ _ h => h) (Or.inl ⟨by rfl, ?_⟩) (by assumption) ?_
    rotate_left 1
    · first | (intro w hSw; go_simp; done) | (intro w hSw; go_simp; with_reducible rfl)
    try simp only [Act.put, List.getElem_toArray, List.getElem_cons_zero, List.getElem_cons_succ, List.setIfInBounds_toArray, List.set_cons_zero, List.set_cons_succ]
    refine wpAnyH_take (i := 8) (v := ?_) rfl (by kernel_rfl) (by kernel_rfl) (by kernel_rfl) (fun _ _ _ h => h) (Or.inl ⟨by rfl, ?_⟩) (by assumption) ?_
    rotate_left 1
    · first | (intro w hSw; go_simp; done) | (intro w hSw; go_simp; with_reducible rfl)
    try simp only [Act.put, List.getElem_toArray, List.getElem_cons_zero, List.getElem_cons_succ, List.setIfInBounds_toArray, List.set_cons_zero, List.set_cons_succ]
    refine wpAnyH_take (i := 9) (v := ?_) rfl (by kernel_rfl) (by kernel_rfl) (by kernel_rfl) (fun _ _ _ h => h) (Or.inl ⟨by rfl, ?_⟩) (by assumption) ?_
    rotate_left 1
    · first | (intro w hSw; have c0 := Below.keeps hSw C0.out CL.out; have c1 := Below.keeps hSw C1.out CL.out; have c2 := Below.keeps hSw C2.out CL.out; have c3 := Below.keeps hSw C3.out CL.out; have c5 := Below.keeps hSw C5.out CL.out; go_simp; done) | (intro w hSw; have c0 := Below.keeps hSw C0.out CL.out; have c1 := Below.keeps hSw C1.out CL.out; have c2 := Below.keeps hSw C2.out CL.out; have c3 := Below.keeps hSw C3.out CL.out; have c5 := Below.keeps hSw C5.out CL.out; go_simp; with_reducible rfl)
    try simp only [Act.put, List.getElem_toArray, List.getElem_cons_zero, List.getElem_cons_succ, List.setIfInBounds_toArray, List.set_cons_zero, List.set_cons_succ]
    refine wpAnyH_take (i := 10) (v := ?_) rfl (by kernel_rfl) (by kernel_rfl) (by kernel_rfl) (fun _ _ _ h => h) (Or.inl ⟨by rfl, ?_⟩) (by assumption) ?_
    rotate_left 1
    · first | (intro w hSw; go_simp; done) | (intro w hSw; go_simp; with_reducible rfl)
    try simp only [Act.put, List.getElem_toArray, List.getElem_cons_zero, List.getElem_cons_succ, List.setIfInBounds_toArray, List.set_cons_zero, List.set_cons_succ]
    refine wpAnyH_ready (rs := [5]) (by kernel_rfl) (by simp) ?_
    refine AllReadyH.cons rfl (fun K hK => ?_) AllReadyH.nil
    go_simp
    (go_at_call 20; refine (putUint_calls _ _ _ [] N.sg (Kd.C_nil _ _) (by omega) (by simp)).mono ?_; intro e wa hn; obtain ⟨Bwa, kwa, rfl, hcl, hR, hC, hb⟩ := hn.open_; have HRwa := Aside0.mk hR; have HCwa := Aside0.mk hC; have hHa := below_step hHeld hb; clear hn hcl hR hC hb)
    go_simp
    refine hK.out _ _ hHa (fun hHeld => ?_)
    clear hK K
    try simp only [Act.put, List.getElem_toArray, List.getElem_cons_zero, List.getElem_cons_succ, List.setIfInBounds_toArray, List.set_cons_zero, List.set_cons_succ]
    refine wpAnyH_ready (rs := [11]) (by kernel_rfl) (by simp) ?_
    refine AllReadyH.cons rfl (fun K hK => ?_) AllReadyH.nil
    go_simp
    (go_at_call 20; refine (putUint_calls _ _ _ (uintsF N.sg) N.tld (by simpa using HCwa.out) (by omega) (by have := HUL.out; simp; omega)).mono ?_; intro e wb hn; obtain ⟨Bwb, kwb, rfl, hcl, hR, hC, hb⟩ := hn.open_; have HRwb := Aside0.mk hR; have HCwb := Aside0.mk hC; have hHb := below_step hHeld hb; clear hn hcl hR hC hb)
    go_simp
    refine hK.out _ _ hHb (fun hHeld => ?_)
    clear hK K
    try simp only [Act.put, List.getElem_toArray, List.getElem_cons_zero, List.getElem_cons_succ, List.setIfInBounds_toArray, List.set_cons_zero, List.set_cons_succ]
    refine wpAnyH_take (i := 12) (v := ?_) rfl (by kernel_rfl) (by kernel_rfl) (by kernel_rfl) (fun _ _ _ h => h) (Or.inl ⟨by rfl, ?_⟩) (by assumption) ?_
    rotate_left 1
    · first | (intro w hSw; go_simp; done) | (intro w hSw; go_simp; with_reducible rfl)
    try simp only [Act.put, List.getElem_toArray, List.getElem_cons_zero, List.getElem_cons_succ, List.setIfInBounds_toArray, List.set_cons_zero, List.set_cons_succ]
    refine wpAnyH_done (by kernel_rfl) ?_ _
    refine NoPanic.normal ?_
    have HW1 := Aside0.mk (show Below w1.heap.size w1 wb from hHeld)
    go_upto_region 5 with (fail)
    obtain ⟨hd, hhd⟩ : ∃ hd, hd = uintsF N.sg ++ uintsF N.tld := ⟨_, rfl⟩
    have HHDE := Lib.hid hhd
    have HRB := Aside0.mk (show kB.R 5 wb w1.heap.size (fun _ => True) (.slice Bwb hd.length kwb) hd by rw [hhd]; exact Kd.R_lower HRwb.out hHa.size)
    have hhl : hd.length = (uintsF N.sg).length + (uintsF N.tld).length := by rw [hhd, List.length_append]
    have HHL := Lib.hid (show hd.length ≤ 20 by have h1 := HUL.out; have h2 := (uintsF_len N.tld (by omega)).2; omega)
    rw [← hhl]
    obtain ⟨x, hx⟩ : ∃ x, x = (N.so : Int) := ⟨_, rfl⟩
    obtain ⟨y, hy⟩ : ∃ y, y = (N.tld : Int) := ⟨_, rfl⟩
    obtain ⟨z, hz⟩ : ∃ z, z = (N.win : Int) := ⟨_, rfl⟩
    obtain ⟨mn, hmn⟩ : ∃ mn, mn = min N.so (N.tld + N.win) := ⟨_, rfl⟩
    have hmin : (if y + z < x then y + z else x) = (mn : Int) := by
      rw [hx, hy, hz, hmn]
      by_cases h : N.tld + N.win < N.so
      · rw [if_pos (by omega), Nat.min_eq_right (by omega)]; omega
      · rw [if_neg (by omega), Nat.min_eq_left (by omega)]
    obtain ⟨mi, hmi⟩ : ∃ mi, mi = (mn : Int) := ⟨_, rfl⟩
    rw [← hmi] at hmin
    have hrow := HZ1.out.ro.reads'
    obtain ⟨AW, hwl, hCW⟩ := L_win (lo := N.tld) (hi := mn) hrow.2 (by omega) (by have := HF.out.so1; show mn ≤ N.out.length; omega) hrow.1
    rw [← hy, ← hmi] at hwl
    have HWLE := Lib.hid (show (N.out.take mn).drop N.tld = wl N by rw [hmn]; rfl)
    obtain ⟨WL, hWL⟩ : ∃ WL, WL = (N.out.take mn).drop N.tld := ⟨_, rfl⟩
    have HWL := Lib.hid hWL
    have HWLL := Lib.hid (show WL.length ≤ 64 by rw [hWL, List.length_drop, List.length_take]; have := HF.out.w2; omega)
    have HWLM := Lib.hid (show ∀ m ∈ WL, m.length ≤ 1000 from fun m hm => HS.out m (by rw [hWL] at hm; exact List.mem_of_mem_take (List.mem_of_mem_drop hm)))
    have hcw2 : kBs.C w1 AW WL.length WL := by rw [hWL]; exact hCW
    have HCW := Aside0.mk hcw2
    have hwl2 : ∀ W : World, (Instr.slice 22 (.slice A N.out.length c) (some (.int .i64 y)) (some (.int .i64 mi)) none).run Try.prog W = .ok (.slice AW WL.length (c - N.tld)) W := fun W => by rw [hWL]; exact hwl W
    have D0 := Lib.hid (show wb.cell? ⟨p, 0, none⟩ = some (.int .i64 z) by rw [hz]; exact Below.keeps HW1.out C0.out CL.out)
    have D1 := Lib.hid (show wb.cell? ⟨p, 1, none⟩ = some (.slice A N.out.length c) from Below.keeps HW1.out C1.out CL.out)
    have D2 := Lib.hid (show wb.cell? ⟨p, 2, none⟩ = some (.int .i64 x) by rw [hx]; exact Below.keeps HW1.out C2.out CL.out)
    have D3 := Lib.hid (show wb.cell? ⟨p, 3, none⟩ = some (.int .i64 y) by rw [hy]; exact Below.keeps HW1.out C3.out CL.out)
    have DL := Lib.hid (Nat.lt_of_lt_of_le CL.out HW1.out.size)
    have y0 : 0 ≤ y := by omega
    have x1 : x ≤ 100000 := by omega
    have y1 : y ≤ 100000 := by omega
    have z1 : z ≤ 64 := by omega
    have z0 : 0 ≤ z := by omega
    have hyz : IntKind.i64.wrap (y + z) = y + z := by rw [IntKind.wrap_i64]; omega
    have w64 : (WL.length : Int) ≤ 64 := by have := HWLL.out; omega
    clear hhd hx hy hz hmn hmi hrow hwl hCW hWL hcw2 hHa hHb hhl
    go_wp2
    refine wp_region_noPanic ?_
    refine wp_region_held_drew (S := fun W => Below wb.heap.size wb W) (by kernel_rfl) (by first | exact Below.refl _ _ | exact (Below.refl _ _).drew) (fun hHeld => ?_)
    refine wpAnyH_take (i := 0) (v := ?_) rfl (by kernel_rfl) (by kernel_rfl) (by kernel_rfl) (fun _ _ _ h => h) (Or.inl ⟨by rfl, ?_⟩) (by assumption) ?_
    rotate_left 1
    · first | (intro w hSw; go_simp; done) | (intro w hSw; go_simp; with_reducible rfl)
    try simp only [Act.put, List.getElem_toArray, List.getElem_cons_zero, List.getElem_cons_succ, List.setIfInBounds_toArray, List.set_cons_zero, List.set_cons_succ]
    refine wpAnyH_take (i := 1) (v := ?_) rfl (by kernel_rfl) (by kernel_rfl) (by kernel_rfl) (fun _ _ _ h => h) (Or.inl ⟨by rfl, ?_⟩) (by assumption) ?_
    rotate_left 1
    · first | (intro w hSw; go_simp; done) | (intro w hSw; go_simp; with_reducible rfl)
    try simp only [Act.put, List.getElem_toArray, List.getElem_cons_zero, List.getElem_cons_succ, List.setIfInBounds_toArray, List.set_cons_zero, List.set_cons_succ]
    refine wpAnyH_take (i := 2) (v := ?_) rfl (by kernel_rfl) (by kernel_rfl) (by kernel_rfl) (fun _ _ _ h => h) (Or.inl ⟨by rfl, ?_⟩) (by assumption) ?_
    rotate_left 1
    · first | (intro w hSw; go_simp; done) | (intro w hSw; go_simp; with_reducible rfl)
    try simp only [Act.put, List.getElem_toArray, List.getElem_cons_zero, List.getElem_cons_succ, List.setIfInBounds_toArray, List.set_cons_zero, List.set_cons_succ]
    refine wpAnyH_take (i := 3) (v := ?_) rfl (by kernel_rfl) (by kernel_rfl) (by kernel_rfl) (fun _ _ _ h => h) (Or.inl ⟨by rfl, ?_⟩) (by assumption) ?_
    rotate_left 1
    · first | (intro w hSw; have c0 := Below.keeps hSw D0.out DL.out; have c1 := Below.keeps hSw D1.out DL.out; have c2 := Below.keeps hSw D2.out DL.out; have c3 := Below.keeps hSw D3.out DL.out; go_simp; done) | (intro w hSw; have c0 := Below.keeps hSw D0.out DL.out; have c1 := Below.keeps hSw D1.out DL.out; have c2 := Below.keeps hSw D2.out DL.out; have c3 := Below.keeps hSw D3.out DL.out; go_simp; with_reducible rfl)
    try simp only [Act.put, List.getElem_toArray, List.getElem_cons_zero, List.getElem_cons_succ, List.setIfInBounds_toArray, List.set_cons_zero, List.set_cons_succ]
    refine wpAnyH_take (i := 4) (v := ?_) rfl (by kernel_rfl) (by kernel_rfl) (by kernel_rfl) (fun _ _ _ h => h) (Or.inl ⟨by rfl, ?_⟩) (by assumption) ?_
    rotate_left 1
    · first | (intro w hSw; go_simp; done) | (intro w hSw; go_simp; with_reducible rfl)
    try simp only [Act.put, List.getElem_toArray, List.getElem_cons_zero, List.getElem_cons_succ, List.setIfInBounds_toArray, List.set_cons_zero, List.set_cons_succ]
    refine wpAnyH_take (i := 5) (v := ?_) rfl (by kernel_rfl) (by kernel_rfl) (by kernel_rfl) (fun _ _ _ h => h) (Or.inl ⟨by rfl, ?_⟩) (by assumption) ?_
    rotate_left 1
    · first | (intro w hSw; go_simp; done) | (intro w hSw; go_simp; with_reducible rfl)
    try simp only [Act.put, List.getElem_toArray, List.getElem_cons_zero, List.getElem_cons_succ, List.setIfInBounds_toArray, List.set_cons_zero, List.set_cons_succ]
    refine wpAnyH_take (i := 6) (v := ?_) rfl (by kernel_rfl) (by kernel_rfl) (by kernel_rfl) (fun _ _ _ h => h) (Or.inl ⟨by rfl, ?_⟩) (by assumption) ?_
    rotate_left 1
    · first | (intro w hSw; go_simp; done) | (intro w hSw; go_simp; with_reducible rfl)
    try simp only [Act.put, List.getElem_toArray, List.getElem_cons_zero, List.getElem_cons_succ, List.setIfInBounds_toArray, List.set_cons_zero, List.set_cons_succ]
    refine wpAnyH_take (i := 7) (v := ?_) rfl (by kernel_rfl) (by kernel_rfl) (by kernel_rfl) (fun _ _ _ h => h) (Or.inl ⟨by rfl, ?_⟩) (by assumption) ?_
    rotate_left 1
    · first | (intro w hSw; have c0 := Below.keeps hSw D0.out DL.out; have c1 := Below.keeps hSw D1.out DL.out; have c2 := Below.keeps hSw D2.out DL.out; have c3 := Below.keeps hSw D3.out DL.out; go_simp; done) | (intro w hSw; have c0 := Below.keeps hSw D0.out DL.out; have c1 := Below.keeps hSw D1.out DL.out; have c2 := Below.keeps hSw D2.out DL.out; have c3 := Below.keeps hSw D3.out DL.out; go_simp; with_reducible rfl)
    try simp only [Act.put, List.getElem_toArray, List.getElem_cons_zero, List.getElem_cons_succ, List.setIfInBounds_toArray, List.set_cons_zero, List.set_cons_succ]
    refine wpAnyH_take (i := 8) (v := ?_) rfl (by kernel_rfl) (by kernel_rfl) (by kernel_rfl) (fun _ _ _ h => h) (Or.inl ⟨by rfl, ?_⟩) (by assumption) ?_
    rotate_left 1
    · first | (intro w hSw; go_simp; done) | (intro w hSw; go_simp; with_reducible rfl)
    try simp only [Act.put, List.getElem_toArray, List.getElem_cons_zero, List.getElem_cons_succ, List.setIfInBounds_toArray, List.set_cons_zero, List.set_cons_succ]
    refine wpAnyH_take (i := 9) (v := ?_) rfl (by kernel_rfl) (by kernel_rfl) (by kernel_rfl) (fun _ _ _ h => h) (Or.inl ⟨by rfl, ?_⟩) (by assumption) ?_
    rotate_left 1
    · first | (intro w hSw; go_simp; done) | (intro w hSw; go_simp; with_reducible rfl)
    try simp only [Act.put, List.getElem_toArray, List.getElem_cons_zero, List.getElem_cons_succ, List.setIfInBounds_toArray, List.set_cons_zero, List.set_cons_succ]
    refine wpAnyH_take (i := 10) (v := ?_) rfl (by kernel_rfl) (by kernel_rfl) (by kernel_rfl) (fun _ _ _ h => h) (Or.inl ⟨by rfl, ?_⟩) (by assumption) ?_
    rotate_left 1
    · first | (intro w hSw; go_simp; done) | (intro w hSw; go_simp; with_reducible rfl)
    try simp only [Act.put, List.getElem_toArray, List.getElem_cons_zero, List.getElem_cons_succ, List.setIfInBounds_toArray, List.set_cons_zero, List.set_cons_succ]
    refine wpAnyH_take (i := 11) (v := ?_) rfl (by kernel_rfl) (by kernel_rfl) (by kernel_rfl) (fun _ _ _ h => h) (Or.inl ⟨by rfl, ?_⟩) (by assumption) ?_
    rotate_left 1
    · first | (intro w hSw; have c0 := Below.keeps hSw D0.out DL.out; have c1 := Below.keeps hSw D1.out DL.out; have c2 := Below.keeps hSw D2.out DL.out; have c3 := Below.keeps hSw D3.out DL.out; go_simp; done) | (intro w hSw; have c0 := Below.keeps hSw D0.out DL.out; have c1 := Below.keeps hSw D1.out DL.out; have c2 := Below.keeps hSw D2.out DL.out; have c3 := Below.keeps hSw D3.out DL.out; go_simp; with_reducible rfl)
    try simp only [Act.put, List.getElem_toArray, List.getElem_cons_zero, List.getElem_cons_succ, List.setIfInBounds_toArray, List.set_cons_zero, List.set_cons_succ]
    refine wpAnyH_take (i := 12) (v := ?_) rfl (by kernel_rfl) (by kernel_rfl) (by kernel_rfl) (fun _ _ _ h => h) (Or.inl ⟨by rfl, ?_⟩) (by assumption) ?_
    rotate_left 1
    · first | (intro w hSw; go_simp; done) | (intro w hSw; go_simp; with_reducible rfl)
    try simp only [Act.put, List.getElem_toArray, List.getElem_cons_zero, List.getElem_cons_succ, List.setIfInBounds_toArray, List.set_cons_zero, List.set_cons_succ]
    refine wpAnyH_take (i := 13) (v := ?_) rfl (by kernel_rfl) (by kernel_rfl) (by kernel_rfl) (fun _ _ _ h => h) (Or.inl ⟨by rfl, ?_⟩) (by assumption) ?_
    rotate_left 1
    · first | (intro w hSw; go_simp; done) | (intro w hSw; go_simp; with_reducible rfl)
    try simp only [Act.put, List.getElem_toArray, List.getElem_cons_zero, List.getElem_cons_succ, List.setIfInBounds_toArray, List.set_cons_zero, List.set_cons_succ]
    refine wpAnyH_take (i := 14) (v := ?_) rfl (by kernel_rfl) (by kernel_rfl) (by kernel_rfl) (fun _ _ _ h => h) (Or.inl ⟨by rfl, ?_⟩) (by assumption) ?_
    rotate_left 1
    · first | (intro w hSw; go_simp; done) | (intro w hSw; go_simp; with_reducible rfl)
    try simp only [Act.put, List.getElem_toArray, List.getElem_cons_zero, List.getElem_cons_succ, List.setIfInBounds_toArray, List.set_cons_zero, List.set_cons_succ]
    refine wpAnyH_take (i := 15) (v := ?_) rfl (by kernel_rfl) (by kernel_rfl) (by kernel_rfl) (fun _ _ _ h => h) (Or.inl ⟨by rfl, ?_⟩) (by assumption) ?_
    rotate_left 1
    · first | (intro w hSw; have c0 := Below.keeps hSw D0.out DL.out; have c1 := Below.keeps hSw D1.out DL.out; have c2 := Below.keeps hSw D2.out DL.out; have c3 := Below.keeps hSw D3.out DL.out; go_simp; done) | (intro w hSw; have c0 := Below.keeps hSw D0.out DL.out; have c1 := Below.keeps hSw D1.out DL.out; have c2 := Below.keeps hSw D2.out DL.out; have c3 := Below.keeps hSw D3.out DL.out; go_simp; with_reducible rfl)
    try simp only [Act.put, List.getElem_toArray, List.getElem_cons_zero, List.getElem_cons_succ, List.setIfInBounds_toArray, List.set_cons_zero, List.set_cons_succ]
    refine wpAnyH_take (i := 16) (v := ?_) rfl (by kernel_rfl) (by kernel_rfl) (by kernel_rfl) (fun _ _ _ h => h) (Or.inl ⟨by rfl, ?_⟩) (by assumption) ?_
    rotate_left 1
    · first | (intro w hSw; go_simp; done) | (intro w hSw; go_simp; with_reducible rfl)
    try simp only [Act.put, List.getElem_toArray, List.getElem_cons_zero, List.getElem_cons_succ, List.setIfInBounds_toArray, List.set_cons_zero, List.set_cons_succ]
    refine wpAnyH_take (i := 17) (v := ?_) rfl (by kernel_rfl) (by kernel_rfl) (by kernel_rfl) (fun _ _ _ h => h) (Or.inl ⟨by rfl, ?_⟩) (by assumption) ?_
    rotate_left 1
    · first | (intro w hSw; go_simp; done) | (intro w hSw; go_simp; with_reducible rfl)
    try simp only [Act.put, List.getElem_toArray, List.getElem_cons_zero, List.getElem_cons_succ, List.setIfInBounds_toArray, List.set_cons_zero, List.set_cons_succ]
    refine wpAnyH_take (i := 18) (v := ?_) rfl (by kernel_rfl) (by kernel_rfl) (by kernel_rfl) (fun _ _ _ h => h) (Or.inl ⟨by rfl, ?_⟩) (by assumption) ?_
    rotate_left 1
    · first | (intro w hSw; go_simp; done) | (intro w hSw; go_simp; with_reducible rfl)
    try simp only [Act.put, List.getElem_toArray, List.getElem_cons_zero, List.getElem_cons_succ, List.setIfInBounds_toArray, List.set_cons_zero, List.set_cons_succ]
    refine wpAnyH_take (i := 19) (v := ?_) rfl (by kernel_rfl) (by kernel_rfl) (by kernel_rfl) (fun _ _ _ h => h) (Or.inl ⟨by rfl, ?_⟩) (by assumption) ?_
    rotate_left 1
    · first | (intro w hSw; have c0 := Below.keeps hSw D0.out DL.out; have c1 := Below.keeps hSw D1.out DL.out; have c2 := Below.keeps hSw D2.out DL.out; have c3 := Below.keeps hSw D3.out DL.out; go_simp; done) | (intro w hSw; have c0 := Below.keeps hSw D0.out DL.out; have c1 := Below.keeps hSw D1.out DL.out; have c2 := Below.keeps hSw D2.out DL.out; have c3 := Below.keeps hSw D3.out DL.out; go_simp; with_reducible rfl)
    try simp only [Act.put, List.getElem_toArray, List.getElem_cons_zero, List.getElem_cons_succ, List.setIfInBounds_toArray, List.set_cons_zero, List.set_cons_succ]
    refine wpAnyH_take (i := 20) (v := ?_) rfl (by kernel_rfl) (by kernel_rfl) (by kernel_rfl) (fun _ _ _ h => h) (Or.inl ⟨by rfl, ?_⟩) (by assumption) ?_
    rotate_left 1
    · first | (intro w hSw; go_simp; done) | (intro w hSw; go_simp; with_reducible rfl)
    try simp only [Act.put, List.getElem_toArray, List.getElem_cons_zero, List.getElem_cons_succ, List.setIfInBounds_toArray, List.set_cons_zero, List.set_cons_succ]
    refine wpAnyH_take (i := 21) (v := ?_) rfl (by kernel_rfl) (by kernel_rfl) (by kernel_rfl) (fun _ _ _ h => h) (Or.inl ⟨by rfl, ?_⟩) (by assumption) ?_
    rotate_left 1
    · first | (intro w hSw; go_simp; done) | (intro w hSw; go_simp; with_reducible rfl)
    try simp only [Act.put, List.getElem_toArray, List.getElem_cons_zero, List.getElem_cons_succ, List.setIfInBounds_toArray, List.set_cons_zero, List.set_cons_succ]
    refine wpAnyH_take (i := 22) (v := ?_) rfl (by kernel_rfl) (by kernel_rfl) (by kernel_rfl) (fun _ _ _ h => h) (Or.inl ⟨by rfl, ?_⟩) (by assumption) ?_
    rotate_left 1
    · first | (intro w hSw; go_simp; done) | (intro w hSw; go_simp; with_reducible rfl)
    try simp only [Act.put, List.getElem_toArray, List.getElem_cons_zero, List.getElem_cons_succ, List.setIfInBounds_toArray, List.set_cons_zero, List.set_cons_succ]
    refine wpAnyH_take (i := 23) (v := ?_) rfl (by kernel_rfl) (by kernel_rfl) (by kernel_rfl) (fun _ _ _ h => h) (Or.inl ⟨by rfl, ?_⟩) (by assumption) ?_
    rotate_left 1
    · first | (intro w hSw; go_simp; done) | (intro w hSw; go_simp; with_reducible rfl)
    try simp only [Act.put, List.getElem_toArray, List.getElem_cons_zero, List.getElem_cons_succ, List.setIfInBounds_toArray, List.set_cons_zero, List.set_cons_succ]
    refine wpAnyH_take (i := 24) (v := ?_) rfl (by kernel_rfl) (by kernel_rfl) (by kernel_rfl) (fun _ _ _ h => h) (Or.inl ⟨by rfl, ?_⟩) (by assumption) ?_
    rotate_left 1
    · first | (intro w hSw; go_simp; done) | (intro w hSw; go_simp; with_reducible rfl)
    try simp only [Act.put, List.getElem_toArray, List.getElem_cons_zero, List.getElem_cons_succ, List.setIfInBounds_toArray, List.set_cons_zero, List.set_cons_succ]
    refine wpAnyH_done (by kernel_rfl) ?_ _
    refine NoPanic.normal ?_
    have HW2 := Aside0.mk (show Below w1.heap.size w1 wb.drew from HW1.out.drew)
    have HRB2 := Aside0.mk (Kd.R_drew HRB.out)
    go_wp2
    go_loopw [4, 66] (fun v4 v66 wr => ∃ (k : Nat) (b : List UInt8), v66 = .int .i64 k ∧ k ≤ WL.length ∧ Aside0 (kB.R 5 wr w1.heap.size (fun _ => True) v4 b) ∧ Hid (b = putAll hd (WL.take k) ∧ b.length ≤ 20 + 1010 * k) ∧ Aside0 (Below w1.heap.size w1 wr)) (fun _ v _ => WL.length - (intOf v).toNat)
    case atStart => exact ⟨0, hd, rfl, Nat.zero_le _, HRB2, ⟨by rw [List.take_zero]; rfl, by have := HHL.out; omega⟩, HW2⟩
    case round =>
      obtain ⟨k, b, rfl, hk, HKR, HBK, HB⟩ := hrel
      by_cases hlt : k < WL.length
      · obtain ⟨ad, A0, c00, rfl, h0, hcl0, hcm⟩ := L_cell (Kd.C_below HCW.out HB.out) hlt
        obtain ⟨m, hm⟩ : ∃ m, m = gl WL k := ⟨_, rfl⟩
        rw [← hm] at h0 hcl0 hcm
        have HML := Lib.hid (show m.length ≤ 1000 from HWLM.out m (by rw [hm, gl_get WL k hlt]; exact List.getElem_mem hlt))
        have HCM := Aside0.mk hcm
        have HNB := Lib.hid (show putAll hd (WL.take (k + 1)) = b ++ uintsF m.length ++ m by rw [putAll_step hd WL k hlt, ← HBK.out.1, ← hm])
        obtain ⟨A4, c4, rfl⟩ := Kd.R_slice HKR.out
        have HC4 := Aside0.mk (Kd.R_reads' HKR.out).2.2
        have k0 : (0 : Int) ≤ k := by omega
        have k1 : (k : Int) < WL.length := by omega
        have HLT := Lib.hid hlt
        have bl := HBK.out.2
        have bw := HWLL.out
        have ml := HML.out
        have s1 : ¬ (b.length : Int) + m.length > 524288 := by omega
        have s2 : decide ((b.length : Int) + m.length > 524288) = false := decide_eq_false s1
        have s3 : (b.length : Int) ≤ 64700 := by omega
        have s4 : (m.length : Int) ≤ 1000 := by omega
        clear hlt hm hcl0 hcm bl bw ml
        go_wp2_with (go_at_call 21; refine (putBytes_calls _ _ _ b _ _ m HC4.out HCM.out (by omega) (by omega)).mono ?_; intro e w4 hn; obtain ⟨B4, k4, rfl, hcl, hR, hC, hb⟩ := hn.open_; have HR4 := Aside0.mk (Kd.R_lower hR HB.out.size); have HB4 := Aside0.mk (below_step HB.out hb); clear hn hcl hR hC hb)
        go_roundw
        case rel =>
          refine ⟨k + 1, _, by go_num, by have := HLT.out; omega, by first | exact HR4 | (have h9 := HR4; simp only [List.length_append, Nat.add_assoc] at h9; exact h9), ⟨HNB.out.symm, ?_⟩, HB4⟩
          have h1 := (uintsF_len m.length (by have := HML.out; omega)).2
          have h2 := HBK.out.2
          have h3 := HML.out
          simp only [List.length_append]
          omega
        case measure => have := HLT.out; simp [intOf]; omega
      · have k1 : ¬ (k : Int) < WL.length := by omega
        have HBE := Lib.hid (show b = pkt N by rw [HBK.out.1, List.take_of_length_le (by omega), HWL.out, HWLE.out]; rw [HHDE.out]; rfl)
        obtain ⟨A4, c4, rfl⟩ := Kd.R_slice HKR.out
        clear hlt
        go_wp2
        go_ret2
        rw [← HBE.out]
        exact ⟨A4, c4, rfl, Kd.R_lower HKR.out HM1.out.below.size, ⟨A, c, HZ1.out.stay HB.out⟩, HM1.out.trans ⟨HB.out.mono HZ1.out.low, Kept.of_below HB.out _, fun _ h => .inl h⟩⟩
  · have g1b : decide ((N.tld : Int) ≥ N.so) = true := decide_eq_true (by omega)
    have g1c : decide (N.so ≤ N.tld) = true := decide_eq_true (by omega)
    have g1d : N.so ≤ N.tld := by omega
    have hrc : N.rcv = true := hgo.resolve_left g1
    rw [hrc] at c6
    clear g1 hgo hrc
    go_enter Try.func10, Try.ntmps10
    go_wp2
    go_quiet (fail)
    go_upto_region 3 with (fail)
    obtain ⟨wq, hwq⟩ : ∃ wq, wq = w.drewN nq := ⟨_, rfl⟩
    rw [← hwq]
    have HZQ := Aside0.mk (show EndAt wq lo K N p A c by rw [hwq]; exact HZ.out.stay (pw_below_drewN (Below.refl _ _) _))
    have HMQ := Aside0.mk (show Moved w wq lo K K by rw [hwq]; exact Moved.drewN _ _ _ _)
    clear hwq c0 c1 c2 c3 c4 c5 c6
    have c6 := (HZQ.out.cells).2.2.2.2.2.2
    have f6 := blk_frozen HZQ.out.blk 6
    go_upto_region 4 with (fail)
    obtain ⟨w1, hw1⟩ : ∃ w1, w1 = wq.setCell ⟨p, 6, none⟩ (.bool false) := ⟨_, rfl⟩
    rw [← hw1]
    have HZ1 := Aside0.mk (show EndAt w1 lo K { N with rcv := false } p A c by rw [hw1]; exact HZQ.out.set 6 (.bool false) rfl HZQ.out.ro)
    have HM1 := Aside0.mk (show Moved w w1 lo K K by rw [hw1]; exact HMQ.out.trans (moved_set HZQ.out 6 _))
    clear hw1 c6 f6
    obtain ⟨c0, c1, c2, c3, c4, c5, c6⟩ := HZ1.out.cells
    have C0 := Lib.hid c0
    have C1 := Lib.hid c1
    have C2 := Lib.hid c2
    have C3 := Lib.hid c3
    have C5 := Lib.hid c5
    have CL := Lib.hid (HZ1.out.kb p HZ1.out.kp).2
    clear c0 c1 c2 c3 c4 c5 c6
    simp only [] at C0 C1 C2 C3 C5
    go_wp2
    refine wp_region_noPanic ?_
    refine wp_region_held_drew (S := fun W => Below w1.heap.size w1 W) (by kernel_rfl) (by first | exact Below.refl _ _ | exact (Below.refl _ _).drew) (fun hHeld => ?_)
    refine wpAnyH_take (i := 0) (v := ?_) rfl (by kernel_rfl) (by kernel_rfl) (by kernel_rfl) (fun _ _ _ h => h) (Or.inl ⟨by rfl, ?_⟩) (by assumption) ?_
    rotate_left 1
    · first | (intro w hSw; go_simp; done) | (intro w hSw; go_simp; with_reducible rfl)
    try simp only [Act.put, List.getElem_toArray, List.getElem_cons_zero, List.getElem_cons_succ, List.setIfInBounds_toArray, List.set_cons_zero, List.set_cons_succ]
    refine wpAnyH_take (i := 1) (v := ?_) rfl (by kernel_rfl) (by kernel_rfl) (by kernel_rfl) (fun _ _ _ h => h) (Or.inl ⟨by rfl, ?_⟩) (by assumption) ?_
    rotate_left 1
    · first | (intro w hSw; go_simp; done) | (intro w hSw; go_simp; with_reducible rfl)
    try simp only [Act.put, List.getElem_toArray, List.getElem_cons_zero, List.getElem_cons_succ, List.setIfInBounds_toArray, List.set_cons_zero, List.set_cons_succ]
    refine wpAnyH_take (i := 2) (v := ?_) rfl (by kernel_rfl) (by kernel_rfl) (by kernel_rfl) (fun _ _ _ h => h) (Or.inl ⟨by rfl, ?_⟩) (by assumption) ?_
    rotate_left 1
    · first | (intro w hSw; go_simp; done) | (intro w hSw; go_simp; with_reducible rfl)
    try simp only [Act.put, List.getElem_toArray, List.getElem_cons_zero, List.getElem_cons_succ, List.setIfInBounds_toArray, List.set_cons_zero, List.set_cons_succ]
    refine wpAnyH_take (i := 3) (v := ?_) rfl (by kernel_rfl) (by kernel_rfl) (by kernel_rfl) (fun _ _ _ h => h) (Or.inl ⟨by rfl, ?_⟩) (by assumption) ?_
    rotate_left 1
    · first | (intro w hSw; have c0 := Below.keeps hSw C0.out CL.out; have c1 := Below.keeps hSw C1.out CL.out; have c2 := Below.keeps hSw C2.out CL.out; have c3 := Below.keeps hSw C3.out CL.out; have c5 := Below.keeps hSw C5.out CL.out; go_simp; done) | (intro w hSw; have c0 := Below.keeps hSw C0.out CL.out; have c1 := Below.keeps hSw C1.out CL.out; have c2 := Below.keeps hSw C2.out CL.out; have c3 := Below.keeps hSw C3.out CL.out; have c5 := Below.keeps hSw C5.out CL.out; go_simp; with_reducible rfl)
    try simp only [Act.put, List.getElem_toArray, List.getElem_cons_zero, List.getElem_cons_succ, List.setIfInBounds_toArray, List.set_cons_zero, List.set_cons_succ]
    refine wpAnyH_take (i := 4) (v := ?_) rfl (by kernel_rfl) (by kernel_rfl) (by kernel_rfl) (fun _ _ _ h => h) (Or.inl ⟨by rfl, ?_⟩) (by assumption) ?_
    rotate_left 1
    · first | (intro w hSw; go_simp; done) | (intro w hSw; go_simp; with_reducible rfl)
    try simp only [Act.put, List.getElem_toArray, List.getElem_cons_zero, List.getElem_cons_succ, List.setIfInBounds_toArray, List.set_cons_zero, List.set_cons_succ]
    refine wpAnyH_take (i := 6) (v := ?_) rfl (by kernel_rfl) (by kernel_rfl) (by kernel_rfl) (fun _ _ _ h => h) (Or.inl ⟨by rfl, ?_⟩) (by assumption) ?_
    rotate_left 1
    · first | (intro w hSw; go_simp; done) | (intro w hSw; go_simp; with_reducible rfl)
    try simp only [Act.put, List.getElem_toArray, List.getElem_cons_zero, List.getElem_cons_succ, List.setIfInBounds_toArray, List.set_cons_zero, List.set_cons_succ]
    refine wpAnyH_take (i := 7) (v := ?_) rfl (by kernel_rfl) (by kernel_rfl) (by kernel_rfl) (fun _ _ _ h => h) (Or.inl ⟨by rfl, ?_⟩) (by assumption) ?_
    rotate_left 1
    · first | (intro w hSw; go_simp; done) | (intro w hSw; go_simp; with_reducible rfl)
    try simp only [Act.put, List.getElem_toArray, List.getElem_cons_zero, List.getElem_cons_succ, List.setIfInBounds_toArray, List.set_cons_zero, List.set_cons_succ]
    refine wpAnyH_take (i := 8) (v := ?_) rfl (by kernel_rfl) (by kernel_rfl) (by kernel_rfl) (fun _ _ _ h => h) (Or.inl ⟨by rfl, ?_⟩) (by assumption) ?_
    rotate_left 1
    · first | (intro w hSw; go_simp; done) | (intro w hSw; go_simp; with_reducible rfl)
    try simp only [Act.put, List.getElem_toArray, List.getElem_cons_zero, List.getElem_cons_succ, List.setIfInBounds_toArray, List.set_cons_zero, List.set_cons_succ]
    refine wpAnyH_take (i := 9) (v := ?_) rfl (by kernel_rfl) (by kernel_rfl) (by kernel_rfl) (fun _ _ _ h => h) (Or.inl ⟨by rfl, ?_⟩) (by assumption) ?_
    rotate_left 1
    · first | (intro w hSw; have c0 := Below.keeps hSw C0.out CL.out; have c1 := Below.keeps hSw C1.out CL.out; have c2 := Below.keeps hSw C2.out CL.out; have c3 := Below.keeps hSw C3.out CL.out; have c5 := Below.keeps hSw C5.out CL.out; go_simp; done) | (intro w hSw; have c0 := Below.keeps hSw C0.out CL.out; have c1 := Below.keeps hSw C1.out CL.out; have c2 := Below.keeps hSw C2.out CL.out; have c3 := Below.keeps hSw C3.out CL.out; have c5 := Below.keeps hSw C5.out CL.out; go_simp; with_reducible rfl)
    try simp only [Act.put, List.getElem_toArray, List.getElem_cons_zero, List.getElem_cons_succ, List.setIfInBounds_toArray, List.set_cons_zero, List.set_cons_succ]
    refine wpAnyH_take (i := 10) (v := ?_) rfl (by kernel_rfl) (by kernel_rfl) (by kernel_rfl) (fun _ _ _ h => h) (Or.inl ⟨by rfl, ?_⟩) (by assumption) ?_
    rotate_left 1
    · first | (intro w hSw; go_simp; done) | (intro w hSw; go_simp; with_reducible rfl)
    try simp only [Act.put, List.getElem_toArray, List.getElem_cons_zero, List.getElem_cons_succ, List.setIfInBounds_toArray, List.set_cons_zero, List.set_cons_succ]
    refine wpAnyH_ready (rs := [5]) (by kernel_rfl) (by simp) ?_
    refine AllReadyH.cons rfl (fun K hK => ?_) AllReadyH.nil
    go_simp
    (go_at_call 20; refine (putUint_calls _ _ _ [] N.sg (Kd.C_nil _ _) (by omega) (by simp)).mono ?_; intro e wa hn; obtain ⟨Bwa, kwa, rfl, hcl, hR, hC, hb⟩ := hn.open_; have HRwa := Aside0.mk hR; have HCwa := Aside0.mk hC; have hHa := below_step hHeld hb; clear hn hcl hR hC hb)
    go_simp
    refine hK.out _ _ hHa (fun hHeld => ?_)
    clear hK K
    try simp only [Act.put, List.getElem_toArray, List.getElem_cons_zero, List.getElem_cons_succ, List.setIfInBounds_toArray, List.set_cons_zero, List.set_cons_succ]
    refine wpAnyH_ready (rs := [11]) (by kernel_rfl) (by simp) ?_
    refine AllReadyH.cons rfl (fun K hK => ?_) AllReadyH.nil
    go_simp
    (go_at_call 20; refine (putUint_calls _ _ _ (uintsF N.sg) N.tld (by simpa using HCwa.out) (by omega) (by have := HUL.out; simp; omega)).mono ?_; intro e wb hn; obtain ⟨Bwb, kwb, rfl, hcl, hR, hC, hb⟩ := hn.open_; have HRwb := Aside0.mk hR; have HCwb := Aside0.mk hC; have hHb := below_step hHeld hb; clear hn hcl hR hC hb)
    go_simp
    refine hK.out _ _ hHb (fun hHeld => ?_)
    clear hK K
    try simp only [Act.put, List.getElem_toArray, List.getElem_cons_zero, List.getElem_cons_succ, List.setIfInBounds_toArray, List.set_cons_zero, List.set_cons_succ]
    refine wpAnyH_take (i := 12) (v := ?_) rfl (by kernel_rfl) (by kernel_rfl) (by kernel_rfl) (fun _ _ _ h => h) (Or.inl ⟨by rfl, ?_⟩) (by assumption) ?_
    rotate_left 1
    · first | (intro w hSw; go_simp; done) | (intro w hSw; go_simp; with_reducible rfl)
    try simp only [Act.put, List.getElem_toArray, List.getElem_cons_zero, List.getElem_cons_succ, List.setIfInBounds_toArray, List.set_cons_zero, List.set_cons_succ]
    refine wpAnyH_done (by kernel_rfl) ?_ _
    refine NoPanic.normal ?_
    have HW1 := Aside0.mk (show Below w1.heap.size w1 wb from hHeld)
    go_upto_region 5 with (fail)
    obtain ⟨hd, hhd⟩ : ∃ hd, hd = uintsF N.sg ++ uintsF N.tld := ⟨_, rfl⟩
    have HHDE := Lib.hid hhd
    have HRB := Aside0.mk (show kB.R 5 wb w1.heap.size (fun _ => True) (.slice Bwb hd.length kwb) hd by rw [hhd]; exact Kd.R_lower HRwb.out hHa.size)
    have hhl : hd.length = (uintsF N.sg).length + (uintsF N.tld).length := by rw [hhd, List.length_append]
    have HHL := Lib.hid (show hd.length ≤ 20 by have h1 := HUL.out; have h2 := (uintsF_len N.tld (by omega)).2; omega)
    rw [← hhl]
    obtain ⟨x, hx⟩ : ∃ x, x = (N.so : Int) := ⟨_, rfl⟩
    obtain ⟨y, hy⟩ : ∃ y, y = (N.tld : Int) := ⟨_, rfl⟩
    obtain ⟨z, hz⟩ : ∃ z, z = (N.win : Int) := ⟨_, rfl⟩
    obtain ⟨mn, hmn⟩ : ∃ mn, mn = min N.so (N.tld + N.win) := ⟨_, rfl⟩
    have hmin : (if y + z < x then y + z else x) = (mn : Int) := by
      rw [hx, hy, hz, hmn]
      by_cases h : N.tld + N.win < N.so
      · rw [if_pos (by omega), Nat.min_eq_right (by omega)]; omega
      · rw [if_neg (by omega), Nat.min_eq_left (by omega)]
    obtain ⟨mi, hmi⟩ : ∃ mi, mi = (mn : Int) := ⟨_, rfl⟩
    rw [← hmi] at hmin
    have hrow := HZ1.out.ro.reads'
    obtain ⟨AW, hwl, hCW⟩ := L_win (lo := N.tld) (hi := mn) hrow.2 (by omega) (by have := HF.out.so1; show mn ≤ N.out.length; omega) hrow.1
    rw [← hy, ← hmi] at hwl
    have HWLE := Lib.hid (show (N.out.take mn).drop N.tld = wl N by rw [hmn]; rfl)
    obtain ⟨WL, hWL⟩ : ∃ WL, WL = (N.out.take mn).drop N.tld := ⟨_, rfl⟩
    have HWL := Lib.hid hWL
    have HWLL := Lib.hid (show WL.length ≤ 64 by rw [hWL, List.length_drop, List.length_take]; have := HF.out.w2; omega)
    have HWLM := Lib.hid (show ∀ m ∈ WL, m.length ≤ 1000 from fun m hm => HS.out m (by rw [hWL] at hm; exact List.mem_of_mem_take (List.mem_of_mem_drop hm)))
    have hcw2 : kBs.C w1 AW WL.length WL := by rw [hWL]; exact hCW
    have HCW := Aside0.mk hcw2
    have hwl2 : ∀ W : World, (Instr.slice 22 (.slice A N.out.length c) (some (.int .i64 y)) (some (.int .i64 mi)) none).run Try.prog W = .ok (.slice AW WL.length (c - N.tld)) W := fun W => by rw [hWL]; exact hwl W
    have D0 := Lib.hid (show wb.cell? ⟨p, 0, none⟩ = some (.int .i64 z) by rw [hz]; exact Below.keeps HW1.out C0.out CL.out)
    have D1 := Lib.hid (show wb.cell? ⟨p, 1, none⟩ = some (.slice A N.out.length c) from Below.keeps HW1.out C1.out CL.out)
    have D2 := Lib.hid (show wb.cell? ⟨p, 2, none⟩ = some (.int .i64 x) by rw [hx]; exact Below.keeps HW1.out C2.out CL.out)
    have D3 := Lib.hid (show wb.cell? ⟨p, 3, none⟩ = some (.int .i64 y) by rw [hy]; exact Below.keeps HW1.out C3.out CL.out)
    have DL := Lib.hid (Nat.lt_of_lt_of_le CL.out HW1.out.size)
    have y0 : 0 ≤ y := by omega
    have x1 : x ≤ 100000 := by omega
    have y1 : y ≤ 100000 := by omega
    have z1 : z ≤ 64 := by omega
    have z0 : 0 ≤ z := by omega
    have hyz : IntKind.i64.wrap (y + z) = y + z := by rw [IntKind.wrap_i64]; omega
    have w64 : (WL.length : Int) ≤ 64 := by have := HWLL.out; omega
    clear hhd hx hy hz hmn hmi hrow hwl hCW hWL hcw2 hHa hHb hhl
    go_wp2
    refine wp_region_noPanic ?_
    refine wp_region_held_drew (S := fun W => Below wb.heap.size wb W) (by kernel_rfl) (by first | exact Below.refl _ _ | exact (Below.refl _ _).drew) (fun hHeld => ?_)
    refine wpAnyH_take (i := 0) (v := ?_) rfl (by kernel_rfl) (by kernel_rfl) (by kernel_rfl) (fun _ _ _ h => h) (Or.inl ⟨by rfl, ?_⟩) (by assumption) ?_
    rotate_left 1
    · first | (intro w hSw; go_simp; done) | (intro w hSw; go_simp; with_reducible rfl)
    try simp only [Act.put, List.getElem_toArray, List.getElem_cons_zero, List.getElem_cons_succ, List.setIfInBounds_toArray, List.set_cons_zero, List.set_cons_succ]
    refine wpAnyH_take (i := 1) (v := ?_) rfl (by kernel_rfl) (by kernel_rfl) (by kernel_rfl) (fun _ _ _ h => h) (Or.inl ⟨by rfl, ?_⟩) (by assumption) ?_
    rotate_left 1
    · first | (intro w hSw; go_simp; done) | (intro w hSw; go_simp; with_reducible rfl)
    try simp only [Act.put, List.getElem_toArray, List.getElem_cons_zero, List.getElem_cons_succ, List.setIfInBounds_toArray, List.set_cons_zero, List.set_cons_succ]
    refine wpAnyH_take (i := 2) (v := ?_) rfl (by kernel_rfl) (by kernel_rfl) (by kernel_rfl) (fun _ _ _ h => h) (Or.inl ⟨by rfl, ?_⟩) (by assumption) ?_
    rotate_left 1
    · first | (intro w hSw; go_simp; done) | (intro w hSw; go_simp; with_reducible rfl)
    try simp only [Act.put, List.getElem_toArray, List.getElem_cons_zero, List.getElem_cons_succ, List.setIfInBounds_toArray, List.set_cons_zero, List.set_cons_succ]
    refine wpAnyH_take (i := 3) (v := ?_) rfl (by kernel_rfl) (by kernel_rfl) (by kernel_rfl) (fun _ _ _ h => h) (Or.inl ⟨by rfl, ?_⟩) (by assumption) ?_
    rotate_left 1
    · first | (intro w hSw; have c0 := Below.keeps hSw D0.out DL.out; have c1 := Below.keeps hSw D1.out DL.out; have c2 := Below.keeps hSw D2.out DL.out; have c3 := Below.keeps hSw D3.out DL.out; go_simp; done) | (intro w hSw; have c0 := Below.keeps hSw D0.out DL.out; have c1 := Below.keeps hSw D1.out DL.out; have c2 := Below.keeps hSw D2.out DL.out; have c3 := Below.keeps hSw D3.out DL.out; go_simp; with_reducible rfl)
    try simp only [Act.put, List.getElem_toArray, List.getElem_cons_zero, List.getElem_cons_succ, List.setIfInBounds_toArray, List.set_cons_zero, List.set_cons_succ]
    refine wpAnyH_take (i := 4) (v := ?_) rfl (by kernel_rfl) (by kernel_rfl) (by kernel_rfl) (fun _ _ _ h => h) (Or.inl ⟨by rfl, ?_⟩) (by assumption) ?_
    rotate_left 1
    · first | (intro w hSw; go_simp; done) | (intro w hSw; go_simp; with_reducible rfl)
    try simp only [Act.put, List.getElem_toArray, List.getElem_cons_zero, List.getElem_cons_succ, List.setIfInBounds_toArray, List.set_cons_zero, List.set_cons_succ]
    refine wpAnyH_take (i := 5) (v := ?_) rfl (by kernel_rfl) (by kernel_rfl) (by kernel_rfl) (fun _ _ _ h => h) (Or.inl ⟨by rfl, ?_⟩) (by assumption) ?_
    rotate_left 1
    · first | (intro w hSw; go_simp; done) | (intro w hSw; go_simp; with_reducible rfl)
    try simp only [Act.put, List.getElem_toArray, List.getElem_cons_zero, List.getElem_cons_succ, List.setIfInBounds_toArray, List.set_cons_zero, List.set_cons_succ]
    refine wpAnyH_take (i := 6) (v := ?_) rfl (by kernel_rfl) (by kernel_rfl) (by kernel_rfl) (fun _ _ _ h => h) (Or.inl ⟨by rfl, ?_⟩) (by assumption) ?_
    rotate_left 1
    · first | (intro w hSw; go_simp; done) | (intro w hSw; go_simp; with_reducible rfl)
    try simp only [Act.put, List.getElem_toArray, List.getElem_cons_zero, List.getElem_cons_succ, List.setIfInBounds_toArray, List.set_cons_zero, List.set_cons_succ]
    refine wpAnyH_take (i := 7) (v := ?_) rfl (by kernel_rfl) (by kernel_rfl) (by kernel_rfl) (fun _ _ _ h => h) (Or.inl ⟨by rfl, ?_⟩) (by assumption) ?_
    rotate_left 1
    · first | (intro w hSw; have c0 := Below.keeps hSw D0.out DL.out; have c1 := Below.keeps hSw D1.out DL.out; have c2 := Below.keeps hSw D2.out DL.out; have c3 := Below.keeps hSw D3.out DL.out; go_simp; done) | (intro w hSw; have c0 := Below.keeps hSw D0.out DL.out; have c1 := Below.keeps hSw D1.out DL.out; have c2 := Below.keeps hSw D2.out DL.out; have c3 := Below.keeps hSw D3.out DL.out; go_simp; with_reducible rfl)
    try simp only [Act.put, List.getElem_toArray, List.getElem_cons_zero, List.getElem_cons_succ, List.setIfInBounds_toArray, List.set_cons_zero, List.set_cons_succ]
    refine wpAnyH_take (i := 8) (v := ?_) rfl (by kernel_rfl) (by kernel_rfl) (by kernel_rfl) (fun _ _ _ h => h) (Or.inl ⟨by rfl, ?_⟩) (by assumption) ?_
    rotate_left 1
    · first | (intro w hSw; go_simp; done) | (intro w hSw; go_simp; with_reducible rfl)
    try simp only [Act.put, List.getElem_toArray, List.getElem_cons_zero, List.getElem_cons_succ, List.setIfInBounds_toArray, List.set_cons_zero, List.set_cons_succ]
    refine wpAnyH_take (i := 9) (v := ?_) rfl (by kernel_rfl) (by kernel_rfl) (by kernel_rfl) (fun _ _ _ h => h) (Or.inl ⟨by rfl, ?_⟩) (by assumption) ?_
    rotate_left 1
    · first | (intro w hSw; go_simp; done) | (intro w hSw; go_simp; with_reducible rfl)
    try simp only [Act.put, List.getElem_toArray, List.getElem_cons_zero, List.getElem_cons_succ, List.setIfInBounds_toArray, List.set_cons_zero, List.set_cons_succ]
    refine wpAnyH_take (i := 10) (v := ?_) rfl (by kernel_rfl) (by kernel_rfl) (by kernel_rfl) (fun _ _ _ h => h) (Or.inl ⟨by rfl, ?_⟩) (by assumption) ?_
    rotate_left 1
    · first | (intro w hSw; go_simp; done) | (intro w hSw; go_simp; with_reducible rfl)
    try simp only [Act.put, List.getElem_toArray, List.getElem_cons_zero, List.getElem_cons_succ, List.setIfInBounds_toArray, List.set_cons_zero, List.set_cons_succ]
    refine wpAnyH_take (i := 11) (v := ?_) rfl (by kernel_rfl) (by kernel_rfl) (by kernel_rfl) (fun _ _ _ h => h) (Or.inl ⟨by rfl, ?_⟩) (by assumption) ?_
    rotate_left 1
    · first | (intro w hSw; have c0 := Below.keeps hSw D0.out DL.out; have c1 := Below.keeps hSw D1.out DL.out; have c2 := Below.keeps hSw D2.out DL.out; have c3 := Below.keeps hSw D3.out DL.out; go_simp; done) | (intro w hSw; have c0 := Below.keeps hSw D0.out DL.out; have c1 := Below.keeps hSw D1.out DL.out; have c2 := Below.keeps hSw D2.out DL.out; have c3 := Below.keeps hSw D3.out DL.out; go_simp; with_reducible rfl)
    try simp only [Act.put, List.getElem_toArray, List.getElem_cons_zero, List.getElem_cons_succ, List.setIfInBounds_toArray, List.set_cons_zero, List.set_cons_succ]
    refine wpAnyH_take (i := 12) (v := ?_) rfl (by kernel_rfl) (by kernel_rfl) (by kernel_rfl) (fun _ _ _ h => h) (Or.inl ⟨by rfl, ?_⟩) (by assumption) ?_
    rotate_left 1
    · first | (intro w hSw; go_simp; done) | (intro w hSw; go_simp; with_reducible rfl)
    try simp only [Act.put, List.getElem_toArray, List.getElem_cons_zero, List.getElem_cons_succ, List.setIfInBounds_toArray, List.set_cons_zero, List.set_cons_succ]
    refine wpAnyH_take (i := 13) (v := ?_) rfl (by kernel_rfl) (by kernel_rfl) (by kernel_rfl) (fun _ _ _ h => h) (Or.inl ⟨by rfl, ?_⟩) (by assumption) ?_
    rotate_left 1
    · first | (intro w hSw; go_simp; done) | (intro w hSw; go_simp; with_reducible rfl)
    try simp only [Act.put, List.getElem_toArray, List.getElem_cons_zero, List.getElem_cons_succ, List.setIfInBounds_toArray, List.set_cons_zero, List.set_cons_succ]
    refine wpAnyH_take (i := 14) (v := ?_) rfl (by kernel_rfl) (by kernel_rfl) (by kernel_rfl) (fun _ _ _ h => h) (Or.inl ⟨by rfl, ?_⟩) (by assumption) ?_
    rotate_left 1
    · first | (intro w hSw; go_simp; done) | (intro w hSw; go_simp; with_reducible rfl)
    try simp only [Act.put, List.getElem_toArray, List.getElem_cons_zero, List.getElem_cons_succ, List.setIfInBounds_toArray, List.set_cons_zero, List.set_cons_succ]
    refine wpAnyH_take (i := 15) (v := ?_) rfl (by kernel_rfl) (by kernel_rfl) (by kernel_rfl) (fun _ _ _ h => h) (Or.inl ⟨by rfl, ?_⟩) (by assumption) ?_
    rotate_left 1
    · first | (intro w hSw; have c0 := Below.keeps hSw D0.out DL.out; have c1 := Below.keeps hSw D1.out DL.out; have c2 := Below.keeps hSw D2.out DL.out; have c3 := Below.keeps hSw D3.out DL.out; go_simp; done) | (intro w hSw; have c0 := Below.keeps hSw D0.out DL.out; have c1 := Below.keeps hSw D1.out DL.out; have c2 := Below.keeps hSw D2.out DL.out; have c3 := Below.keeps hSw D3.out DL.out; go_simp; with_reducible rfl)
    try simp only [Act.put, List.getElem_toArray, List.getElem_cons_zero, List.getElem_cons_succ, List.setIfInBounds_toArray, List.set_cons_zero, List.set_cons_succ]
    refine wpAnyH_take (i := 16) (v := ?_) rfl (by kernel_rfl) (by kernel_rfl) (by kernel_rfl) (fun _ _ _ h => h) (Or.inl ⟨by rfl, ?_⟩) (by assumption) ?_
    rotate_left 1
    · first | (intro w hSw; go_simp; done) | (intro w hSw; go_simp; with_reducible rfl)
    try simp only [Act.put, List.getElem_toArray, List.getElem_cons_zero, List.getElem_cons_succ, List.setIfInBounds_toArray, List.set_cons_zero, List.set_cons_succ]
    refine wpAnyH_take (i := 17) (v := ?_) rfl (by kernel_rfl) (by kernel_rfl) (by kernel_rfl) (fun _ _ _ h => h) (Or.inl ⟨by rfl, ?_⟩) (by assumption) ?_
    rotate_left 1
    · first | (intro w hSw; go_simp; done) | (intro w hSw; go_simp; with_reducible rfl)
    try simp only [Act.put, List.getElem_toArray, List.getElem_cons_zero, List.getElem_cons_succ, List.setIfInBounds_toArray, List.set_cons_zero, List.set_cons_succ]
    refine wpAnyH_take (i := 18) (v := ?_) rfl (by kernel_rfl) (by kernel_rfl) (by kernel_rfl) (fun _ _ _ h => h) (Or.inl ⟨by rfl, ?_⟩) (by assumption) ?_
    rotate_left 1
    · first | (intro w hSw; go_simp; done) | (intro w hSw; go_simp; with_reducible rfl)
    try simp only [Act.put, List.getElem_toArray, List.getElem_cons_zero, List.getElem_cons_succ, List.setIfInBounds_toArray, List.set_cons_zero, List.set_cons_succ]
    refine wpAnyH_take (i := 19) (v := ?_) rfl (by kernel_rfl) (by kernel_rfl) (by kernel_rfl) (fun _ _ _ h => h) (Or.inl ⟨by rfl, ?_⟩) (by assumption) ?_
    rotate_left 1
    · first | (intro w hSw; have c0 := Below.keeps hSw D0.out DL.out; have c1 := Below.keeps hSw D1.out DL.out; have c2 := Below.keeps hSw D2.out DL.out; have c3 := Below.keeps hSw D3.out DL.out; go_simp; done) | (intro w hSw; have c0 := Below.keeps hSw D0.out DL.out; have c1 := Below.keeps hSw D1.out DL.out; have c2 := Below.keeps hSw D2.out DL.out; have c3 := Below.keeps hSw D3.out DL.out; go_simp; with_reducible rfl)
    try simp only [Act.put, List.getElem_toArray, List.getElem_cons_zero, List.getElem_cons_succ, List.setIfInBounds_toArray, List.set_cons_zero, List.set_cons_succ]
    refine wpAnyH_take (i := 20) (v := ?_) rfl (by kernel_rfl) (by kernel_rfl) (by kernel_rfl) (fun _ _ _ h => h) (Or.inl ⟨by rfl, ?_⟩) (by assumption) ?_
    rotate_left 1
    · first | (intro w hSw; go_simp; done) | (intro w hSw; go_simp; with_reducible rfl)
    try simp only [Act.put, List.getElem_toArray, List.getElem_cons_zero, List.getElem_cons_succ, List.setIfInBounds_toArray, List.set_cons_zero, List.set_cons_succ]
    refine wpAnyH_take (i := 21) (v := ?_) rfl (by kernel_rfl) (by kernel_rfl) (by kernel_rfl) (fun _ _ _ h => h) (Or.inl ⟨by rfl, ?_⟩) (by assumption) ?_
    rotate_left 1
    · first | (intro w hSw; go_simp; done) | (intro w hSw; go_simp; with_reducible rfl)
    try simp only [Act.put, List.getElem_toArray, List.getElem_cons_zero, List.getElem_cons_succ, List.setIfInBounds_toArray, List.set_cons_zero, List.set_cons_succ]
    refine wpAnyH_take (i := 22) (v := ?_) rfl (by kernel_rfl) (by kernel_rfl) (by kernel_rfl) (fun _ _ _ h => h) (Or.inl ⟨by rfl, ?_⟩) (by assumption) ?_
    rotate_left 1
    · first | (intro w hSw; go_simp; done) | (intro w hSw; go_simp; with_reducible rfl)
    try simp only [Act.put, List.getElem_toArray, List.getElem_cons_zero, List.getElem_cons_succ, List.setIfInBounds_toArray, List.set_cons_zero, List.set_cons_succ]
    refine wpAnyH_take (i := 23) (v := ?_) rfl (by kernel_rfl) (by kernel_rfl) (by kernel_rfl) (fun _ _ _ h => h) (Or.inl ⟨by rfl, ?_⟩) (by assumption) ?_
    rotate_left 1
    · first | (intro w hSw; go_simp; done) | (intro w hSw; go_simp; with_reducible rfl)
    try simp only [Act.put, List.getElem_toArray, List.getElem_cons_zero, List.getElem_cons_succ, List.setIfInBounds_toArray, List.set_cons_zero, List.set_cons_succ]
    refine wpAnyH_take (i := 24) (v := ?_) rfl (by kernel_rfl) (by kernel_rfl) (by kernel_rfl) (fun _ _ _ h => h) (Or.inl ⟨by rfl, ?_⟩) (by assumption) ?_
    rotate_left 1
    · first | (intro w hSw; go_simp; done) | (intro w hSw; go_simp; with_reducible rfl)
    try simp only [Act.put, List.getElem_toArray, List.getElem_cons_zero, List.getElem_cons_succ, List.setIfInBounds_toArray, List.set_cons_zero, List.set_cons_succ]
    refine wpAnyH_done (by kernel_rfl) ?_ _
    refine NoPanic.normal ?_
    have HW2 := Aside0.mk (show Below w1.heap.size w1 wb.drew from HW1.out.drew)
    have HRB2 := Aside0.mk (Kd.R_drew HRB.out)
    go_wp2
    go_loopw [4, 66] (fun v4 v66 wr => ∃ (k : Nat) (b : List UInt8), v66 = .int .i64 k ∧ k ≤ WL.length ∧ Aside0 (kB.R 5 wr w1.heap.size (fun _ => True) v4 b) ∧ Hid (b = putAll hd (WL.take k) ∧ b.length ≤ 20 + 1010 * k) ∧ Aside0 (Below w1.heap.size w1 wr)) (fun _ v _ => WL.length - (intOf v).toNat)
    case atStart => exact ⟨0, hd, rfl, Nat.zero_le _, HRB2, ⟨by rw [List.take_zero]; rfl, by have := HHL.out; omega⟩, HW2⟩
    case round =>
      obtain ⟨k, b, rfl, hk, HKR, HBK, HB⟩ := hrel
      by_cases hlt : k < WL.length
      · obtain ⟨ad, A0, c00, rfl, h0, hcl0, hcm⟩ := L_cell (Kd.C_below HCW.out HB.out) hlt
        obtain ⟨m, hm⟩ : ∃ m, m = gl WL k := ⟨_, rfl⟩
        rw [← hm] at h0 hcl0 hcm
        have HML := Lib.hid (show m.length ≤ 1000 from HWLM.out m (by rw [hm, gl_get WL k hlt]; exact List.getElem_mem hlt))
        have HCM := Aside0.mk hcm
        have HNB := Lib.hid (show putAll hd (WL.take (k + 1)) = b ++ uintsF m.length ++ m by rw [putAll_step hd WL k hlt, ← HBK.out.1, ← hm])
        obtain ⟨A4, c4, rfl⟩ := Kd.R_slice HKR.out
        have HC4 := Aside0.mk (Kd.R_reads' HKR.out).2.2
        have k0 : (0 : Int) ≤ k := by omega
        have k1 : (k : Int) < WL.length := by omega
        have HLT := Lib.hid hlt
        have bl := HBK.out.2
        have bw := HWLL.out
        have ml := HML.out
        have s1 : ¬ (b.length : Int) + m.length > 524288 := by omega
        have s2 : decide ((b.length : Int) + m.length > 524288) = false := decide_eq_false s1
        have s3 : (b.length : Int) ≤ 64700 := by omega
        have s4 : (m.length : Int) ≤ 1000 := by omega
        clear hlt hm hcl0 hcm bl bw ml
        go_wp2_with (go_at_call 21; refine (putBytes_calls _ _ _ b _ _ m HC4.out HCM.out (by omega) (by omega)).mono ?_; intro e w4 hn; obtain ⟨B4, k4, rfl, hcl, hR, hC, hb⟩ := hn.open_; have HR4 := Aside0.mk (Kd.R_lower hR HB.out.size); have HB4 := Aside0.mk (below_step HB.out hb); clear hn hcl hR hC hb)
        go_roundw
        case rel =>
          refine ⟨k + 1, _, by go_num, by have := HLT.out; omega, by first | exact HR4 | (have h9 := HR4; simp only [List.length_append, Nat.add_assoc] at h9; exact h9), ⟨HNB.out.symm, ?_⟩, HB4⟩
          have h1 := (uintsF_len m.length (by have := HML.out; omega)).2
          have h2 := HBK.out.2
          have h3 := HML.out
          simp only [List.length_append]
          omega
        case measure => have := HLT.out; simp [intOf]; omega
      · have k1 : ¬ (k : Int) < WL.length := by omega
        have HBE := Lib.hid (show b = pkt N by rw [HBK.out.1, List.take_of_length_le (by omega), HWL.out, HWLE.out]; rw [HHDE.out]; rfl)
        obtain ⟨A4, c4, rfl⟩ := Kd.R_slice HKR.out
        clear hlt
        go_wp2
        go_ret2
        rw [← HBE.out]
        exact ⟨A4, c4, rfl, Kd.R_lower HKR.out HM1.out.below.size, ⟨A, c, HZ1.out.stay HB.out⟩, HM1.out.trans ⟨HB.out.mono HZ1.out.low, Kept.of_below HB.out _, fun _ h => .inl h⟩⟩
end Go.Proofs.Ytcdhjkkdenhmcaa
