/- A record, a table of one; each part once. -/
import Derived.Test.YtadaoplmicghcaaGreatDoorM9
import Derived.Test.YtadaoplmicghcaaGreatDoorM1
import Derived.Test.YtadaoplmicghcaaGreatDoorM4
namespace Go.Proofs.YtadaoplmicghcaaGreatDoor.Aw
open Go.RowKit Go.ChangeMaps Go.Proofs.YtadaoplmicghcaaGreatDoor.Lk Go.Proofs.YtadaoplmicghcaaGreatDoorW.PrintWords Go.Proofs.YtadaoplmicghcaaGreatDoorW.PrintLast Go.Proofs.YtadaoplmicghcaaGreatDoorW.PrintMore
set_option linter.unusedVariables false
set_option linter.unusedSimpArgs false
set_option maxRecDepth 100000 in
set_option maxHeartbeats 4000000 in
theorem write_calls (w : World) (lo l d m : Nat) (A : Option Addr) (c : Nat) (z : Dk0 w d m) (hl : w.heap[l]? = some (.cells (logCells d 0 0) 144 (0, 0))) (hlo : lo ≤ l) (hld : lo ≤ d) (hlm : lo ≤ m) (hb : kB.C w A 4 [0, 1, 1, 0]) :
    Calls Tryz.prog 74 #[.pointer (some ⟨l, 0, none⟩), .int .u8 0, .slice A 4 c, .bool false] w fun e w' => e = .returned .nilIface ∧ w'.heap[l]? = some (.cells (logCells d 13 0) 144 (0, 0)) ∧ Fr w w' lo (fun k => k = l ∨ k = d ∨ k = m) := by
  have HB := Aside0.mk hb
  have HZ := Aside0.mk z
  have NLD := Lib.hid (show ¬ (l = d ∨ l = m) from by
    rintro (rfl | rfl)
    · have := z.cell; rw [hl] at this; cases this
    · have := z.map; rw [hl] at this; cases this)
  have LW := Lib.hid (blk_lt hl)
  clear hb z
  go_enter Tryz.func74, Tryz.ntmps74
  go_upto_region 2 with (first
    | (at_builtin; refine app_bytes w.heap.size rfl _ _ rfl (.slice (some ⟨w.heap.size, 0, none⟩) 1 1) [0] [0, 1, 1, 0] A 4 c rfl rfl (B_lit w [0] w.heap.size (by decide) rfl (Nat.le_refl _) rfl rfl) (Kd.C_alloc HB.out _) (by simp) (by decide) ?_; intro v1 w1 ho1 hb1; obtain ⟨A1, c1, rfl⟩ := Kd.R_slice ho1; have HC1 := Aside0.mk (Kd.R_reads' ho1).2.2; have HB1 := Aside0.mk (show Below w.heap.size w w1 from (below_alloc (Below.refl _ _) _).trans hb1); clear ho1 hb1)
    | (go_at_call 92; refine (frame_calls _ A1 c1 [0, 0, 1, 1, 0] HC1.out (by decide)).mono ?_; rintro e w2 ⟨A2, c2, rfl, _, hr2, hb2⟩; have HC2 := Aside0.mk (Kd.R_reads' hr2).2.2; have HB2 := Aside0.mk (HB1.out.trans (hb2.mono HB1.out.size)); clear hr2 hb2))
  have hl2 := (HB2.out.block l LW.out).trans hl
  have l0 : w2.cell? ⟨l, 0, none⟩ = some (.pointer (some ⟨d, 0, none⟩)) := blk_cell hl2 0
  have l3 : w2.cell? ⟨l, 3, none⟩ = some (.int .i64 0) := blk_cell hl2 3
  have l4 : w2.cell? ⟨l, 4, none⟩ = some (.int .i64 0) := blk_cell hl2 4
  go_wp2
  go_region
  go_wp2
  clear l0 l3 l4
  obtain ⟨w3, hw3⟩ : ∃ w3, w3 = w2.drew := ⟨_, rfl⟩
  rw [← hw3]
  have hl3 : w3.heap[l]? = some (.cells (logCells d 0 0) 144 (0, 0)) := by rw [hw3]; exact hl2
  have HB3 := Aside0.mk (show Below w.heap.size w w3 from by rw [hw3]; exact HB2.out.drew)
  have HC3 := Aside0.mk (show kB.C w3 A2 (frameF [0, 0, 1, 1, 0]).length (frameF [0, 0, 1, 1, 0]) from by rw [hw3]; exact Kd.C_drewN HC2.out 1)
  have HD3 := Aside0.mk (HZ.out.below HB3.out)
  have l0 : w3.cell? ⟨l, 0, none⟩ = some (.pointer (some ⟨d, 0, none⟩)) := blk_cell hl3 0
  have l1 : w3.cell? ⟨l, 1, none⟩ = some (.string ⟨#[116]⟩) := blk_cell hl3 1
  have l3 : w3.cell? ⟨l, 3, none⟩ = some (.int .i64 0) := blk_cell hl3 3
  clear hw3 hl2
  refine wp_region_noPanic ?_
  refine wp_region_held_drew (S := fun wx => wx.cell? ⟨l, 0, none⟩ = some (.pointer (some ⟨d, 0, none⟩)) ∧ wx.cell? ⟨l, 3, none⟩ = some (.int .i64 0)) (by kernel_rfl) ⟨l0, l3⟩ (fun hHeld => ?_)
  refine wpAnyH_take (i := 0) (v := ?_) rfl (by kernel_rfl) (by kernel_rfl) (by kernel_rfl) (fun _ _ _ h => h) (Or.inl ⟨by rfl, ?_⟩) (by assumption) ?_
  rotate_left 1
  · first | (intro w hSw; go_simp; done) | (intro w hSw; go_simp; with_reducible rfl)
  try simp only [Act.put, List.getElem_toArray, List.getElem_cons_zero, List.getElem_cons_succ, List.setIfInBounds_toArray, List.set_cons_zero, List.set_cons_succ]
  refine wpAnyH_take (i := 1) (v := ?_) rfl (by kernel_rfl) (by kernel_rfl) (by kernel_rfl) (fun _ _ _ h => h) (Or.inl ⟨by rfl, ?_⟩) (by assumption) ?_
  rotate_left 1
  · first | (intro w hSw; go_simp; done) | (intro w hSw; go_simp; with_reducible rfl)
  try simp only [Act.put, List.getElem_toArray, List.getElem_cons_zero, List.getElem_cons_succ, List.setIfInBounds_toArray, List.set_cons_zero, List.set_cons_succ]
  refine wpAnyH_take (i := 2) (v := ?_) rfl (by kernel_rfl) (by kernel_rfl) (by kernel_rfl) (fun _ _ _ h => h) (Or.inl ⟨by rfl, ?_⟩) (by assumption) ?_
  rotate_left 1
  · first | (intro w hSw; go_simp; done) | (intro w hSw; go_simp; with_reducible rfl)
  try simp only [Act.put, List.getElem_toArray, List.getElem_cons_zero, List.getElem_cons_succ, List.setIfInBounds_toArray, List.set_cons_zero, List.set_cons_succ]
  refine wpAnyH_take (i := 3) (v := ?_) rfl (by kernel_rfl) (by kernel_rfl) (by kernel_rfl) (fun _ _ _ h => h) (Or.inl ⟨by rfl, ?_⟩) (by assumption) ?_
  rotate_left 1
  · first | (intro w hSw; obtain ⟨s0, s1⟩ := hSw; go_simp; done) | (intro w hSw; obtain ⟨s0, s1⟩ := hSw; go_simp; with_reducible rfl)
  try simp only [Act.put, List.getElem_toArray, List.getElem_cons_zero, List.getElem_cons_succ, List.setIfInBounds_toArray, List.set_cons_zero, List.set_cons_succ]
  refine wpAnyH_take (i := 4) (v := ?_) rfl (by kernel_rfl) (by kernel_rfl) (by kernel_rfl) (fun _ _ _ h => h) (Or.inl ⟨by rfl, ?_⟩) (by assumption) ?_
  rotate_left 1
  · first | (intro w hSw; go_simp; done) | (intro w hSw; go_simp; with_reducible rfl)
  try simp only [Act.put, List.getElem_toArray, List.getElem_cons_zero, List.getElem_cons_succ, List.setIfInBounds_toArray, List.set_cons_zero, List.set_cons_succ]
  refine wpAnyH_take (i := 5) (v := ?_) rfl (by kernel_rfl) (by kernel_rfl) (by kernel_rfl) (fun _ _ _ h => h) (Or.inl ⟨by rfl, ?_⟩) (by assumption) ?_
  rotate_left 1
  · first | (intro w hSw; go_simp; done) | (intro w hSw; go_simp; with_reducible rfl)
  try simp only [Act.put, List.getElem_toArray, List.getElem_cons_zero, List.getElem_cons_succ, List.setIfInBounds_toArray, List.set_cons_zero, List.set_cons_succ]
  refine wpAnyH_take (i := 6) (v := ?_) rfl (by kernel_rfl) (by kernel_rfl) (by kernel_rfl) (fun _ _ _ h => h) (Or.inl ⟨by rfl, ?_⟩) (by assumption) ?_
  rotate_left 1
  · first | (intro w hSw; go_simp; done) | (intro w hSw; go_simp; with_reducible rfl)
  try simp only [Act.put, List.getElem_toArray, List.getElem_cons_zero, List.getElem_cons_succ, List.setIfInBounds_toArray, List.set_cons_zero, List.set_cons_succ]
  refine wpAnyH_take (i := 7) (v := ?_) rfl (by kernel_rfl) (by kernel_rfl) (by kernel_rfl) (fun _ _ _ h => h) (Or.inl ⟨by rfl, ?_⟩) (by assumption) ?_
  rotate_left 1
  · first | (intro w hSw; go_simp; done) | (intro w hSw; go_simp; with_reducible rfl)
  try simp only [Act.put, List.getElem_toArray, List.getElem_cons_zero, List.getElem_cons_succ, List.setIfInBounds_toArray, List.set_cons_zero, List.set_cons_succ]
  refine wpAnyH_take (i := 8) (v := ?_) rfl (by kernel_rfl) (by kernel_rfl) (by kernel_rfl) (fun _ _ _ h => h) (Or.inl ⟨by rfl, ?_⟩) (by assumption) ?_
  rotate_left 1
  · first | (intro w hSw; obtain ⟨s0, s1⟩ := hSw; go_simp; done) | (intro w hSw; obtain ⟨s0, s1⟩ := hSw; go_simp; with_reducible rfl)
  try simp only [Act.put, List.getElem_toArray, List.getElem_cons_zero, List.getElem_cons_succ, List.setIfInBounds_toArray, List.set_cons_zero, List.set_cons_succ]
  refine wpAnyH_take (i := 10) (v := ?_) rfl (by kernel_rfl) (by kernel_rfl) (by kernel_rfl) (fun _ _ _ h => h) (Or.inl ⟨by rfl, ?_⟩) (by assumption) ?_
  rotate_left 1
  · first | (intro w hSw; go_simp; done) | (intro w hSw; go_simp; with_reducible rfl)
  try simp only [Act.put, List.getElem_toArray, List.getElem_cons_zero, List.getElem_cons_succ, List.setIfInBounds_toArray, List.set_cons_zero, List.set_cons_succ]
  refine wpAnyH_ready (rs := [9]) (by kernel_rfl) (by simp) ?_
  refine AllReadyH.cons rfl (fun K hK => ?_) AllReadyH.nil
  go_simp
  (refine (path_calls w3.drew l l1 (blk_lt hl3)).mono ?_; rintro e w4 ⟨rfl, hb4⟩; have HB4 := Aside0.mk (show Below w3.heap.size w3 w4 from (Below.refl _ _).drew.trans hb4); clear hb4)
  go_simp
  refine hK.out _ _ ⟨keeps HB4.out l0 (blk_lt hl3), keeps HB4.out l3 (blk_lt hl3)⟩ (fun hHeld => ?_)
  clear hK K
  try simp only [Act.put, List.getElem_toArray, List.getElem_cons_zero, List.getElem_cons_succ, List.setIfInBounds_toArray, List.set_cons_zero, List.set_cons_succ]
  refine wpAnyH_ready (rs := [11]) (by kernel_rfl) (by simp) ?_
  refine AllReadyH.cons rfl (fun K hK => ?_) AllReadyH.nil
  go_simp
  (refine (diskAppend_calls _ lo d m _ _ (frameF [0, 0, 1, 1, 0]) ((HD3.out).below HB4.out) hld hlm (Kd.C_below HC3.out HB4.out) (by decide) (by decide)).mono ?_; rintro e w5 ⟨rfl, hf5⟩; have HF5 := Aside0.mk (show Fr w3 w5 lo (fun k => k = d ∨ k = m) from (Fr.of HB4.out (Nat.le_trans hld (Nat.le_of_lt (blk_lt HD3.out.cell)))).trans hf5 (fun k hk => .inl hk)); clear hf5)
  go_simp
  refine hK.out _ _ ⟨blk_cell ((HF5.out.kept.2 l (blk_lt hl3) NLD.out).trans hl3) 0, blk_cell ((HF5.out.kept.2 l (blk_lt hl3) NLD.out).trans hl3) 3⟩ (fun hHeld => ?_)
  clear hK K
  try simp only [Act.put, List.getElem_toArray, List.getElem_cons_zero, List.getElem_cons_succ, List.setIfInBounds_toArray, List.set_cons_zero, List.set_cons_succ]
  refine wpAnyH_take (i := 12) (v := ?_) rfl (by kernel_rfl) (by kernel_rfl) (by kernel_rfl) (fun _ _ _ h => h) (Or.inl ⟨by rfl, ?_⟩) (by assumption) ?_
  rotate_left 1
  · first | (intro w hSw; go_simp; done) | (intro w hSw; go_simp; with_reducible rfl)
  try simp only [Act.put, List.getElem_toArray, List.getElem_cons_zero, List.getElem_cons_succ, List.setIfInBounds_toArray, List.set_cons_zero, List.set_cons_succ]
  refine wpAnyH_done (by kernel_rfl) ?_ _
  refine NoPanic.normal ?_
  have hl5 := (HF5.out.kept.2 l (blk_lt hl3) NLD.out).trans hl3
  have m4 : w5.cell? ⟨l, 4, none⟩ = some (.int .i64 0) := blk_cell hl5 4
  have y4 := blk_frozen hl5 4
  clear l0 l1 l3
  go_wp2
  go_ret
  have hfl : (frameF [0, 0, 1, 1, 0]).length = 13 := by rw [frameF_len]; rfl
  rw [hfl, show wrap64 ((13 : Nat) : Int) = 13 from by first | rfl | (unfold wrap64; decide) | simp [wrap64]]
  have hf : Fr w w5 lo (fun k => k = l ∨ k = d ∨ k = m) := (Fr.of HB3.out (Nat.le_of_lt (Nat.lt_of_le_of_lt hlo LW.out))).trans HF5.out (fun k hk => .inl (.inr hk))
  exact ⟨by simp, blk_put hl5 4 _ rfl, hf.set _ _ (.inl (.inl rfl)) hlo⟩
set_option maxRecDepth 100000 in
set_option maxHeartbeats 1000000 in
theorem walAppend_calls (w : World) (lo l d m : Nat) (A : Option Addr) (c : Nat) (z : Dk0 w d m) (hl : w.heap[l]? = some (.cells (logCells d 0 0) 144 (0, 0))) (hlo : lo ≤ l) (hld : lo ≤ d) (hlm : lo ≤ m) (hb : kB.C w A 4 [0, 1, 1, 0]) :
    Calls Tryz.prog 51 #[.pointer (some ⟨l, 0, none⟩), .slice A 4 c] w fun e w' => e = .returned .nilIface ∧ Fr w w' lo (fun k => k = l ∨ k = d ∨ k = m) := by
  go_enter Tryz.func51, Tryz.ntmps51
  go_wp2_with (first
    | (go_at_call 74; refine (write_calls _ lo l d m A c z hl hlo hld hlm hb).mono ?_; rintro e w1 ⟨rfl, hl1, hf1⟩; have HF1 := Aside0.mk hf1; have c5 : w1.cell? ⟨l, 5, none⟩ = some (.int .i64 0) := blk_cell hl1 5; have y5 := blk_frozen hl1 5; clear hf1 hl1))
  go_ret
  exact ⟨by simp, HF1.out.set _ _ (.inl (.inl rfl)) hlo⟩
theorem under114 : Tryz.prog.underlying 114 = some (.map 9 155) := by kernel_rfl
theorem key_at {w : World} {k : Nat} (h : w.cell? ⟨k, 0, none⟩ = some (.int .u8 1)) : kB.C w (some ⟨k, 0, none⟩) 1 [1] := by
  refine Kd.C_of_reads (enc := encB) (d := 0) ⟨rfl, by decide, fun _ => ⟨_, rfl, fun j hj => ?_⟩⟩
  obtain rfl : j = 0 := by simpa using hj
  exact h
theorem sk_check (s : ByteArray) (e : Bool) (W : World) : (Instr.checkKey e 10000 9 (.string s)).run Tryz.prog W = .ok () W := by
  cases e <;> kernel_rfl
theorem sk_none (s : ByteArray) (W : World) : (Instr.findKey 9 (.string s) []).run Tryz.prog W = .ok none W := by kernel_rfl
theorem sk_upd0 {W : World} {m c : Nat} {v : Value} (s : ByteArray) (hb : W.heap[m]? = some (.map #[] c)) : (Instr.mapUpdate 114 (.map (some m)) (.string s) v).run Tryz.prog W = .ok () (setBlock W m (.map #[⟨.string s, v, c⟩] (c + 1))) := by
  simp [Instr.mapUpdate, run_underlying under114, MapKept.run_getObj_map hb, sk_check, sk_none, MapKept.run_setObj_map _ hb, Result.andThen, setBlock]
set_option maxRecDepth 100000 in
set_option maxHeartbeats 2000000 in
theorem tabPut_calls (w : World) (lo t l m2 k : Nat) (ht : w.heap[t]? = some (.cells #[.pointer (some ⟨l, 0, none⟩), .map (some m2)] 116 (0, 0))) (hm : w.heap[m2]? = some (.map #[] 0)) (hk : w.heap[k]? = some (.cells #[.int .u8 1] 5 (0, 0))) (hlo : lo ≤ m2) :
    Calls Tryz.prog 52 #[.pointer (some ⟨t, 0, none⟩), .agg #[.slice (some ⟨k, 0, none⟩) 1 1, .slice none 0 0, .bool false]] w fun e w' => e = .returned (.tuple #[]) ∧ (∃ v, w'.heap[m2]? = some (.map #[v] 1)) ∧ Fr w w' lo (fun k => k = m2) := by
  have lt := blk_lt ht
  have lk := blk_lt hk
  have lm := blk_lt hm
  have ntm : t ≠ m2 := by rintro rfl; rw [ht] at hm; cases hm
  have nkm : k ≠ m2 := by rintro rfl; rw [hk] at hm; cases hm
  go_enter Tryz.func52, Tryz.ntmps52
  go_wp2
  obtain ⟨w1, hw1⟩ : ∃ w1, w1 = w.alloc (.cells #[.slice (some ⟨k, 0, none⟩) 1 1, .slice none 0 0, .bool false] 72) := ⟨_, rfl⟩
  rw [← hw1]
  have HB1 := Aside0.mk (show Below w.heap.size w w1 from by rw [hw1]; exact below_alloc (Below.refl _ _) _)
  have p0 : w1.cell? ⟨t, 1, none⟩ = some (.map (some m2)) := by rw [hw1]; exact blk_cell (al_old ht) 1
  have p1 : w1.cell? ⟨w.heap.size, 0, none⟩ = some (.slice (some ⟨k, 0, none⟩) 1 1) := by rw [hw1]; exact blk_cell (al_new rfl) 0
  have p2 : w1.cell? ⟨w.heap.size, 1, none⟩ = some (.slice none 0 0) := by rw [hw1]; exact blk_cell (al_new rfl) 1
  have p3 : w1.cell? ⟨k, 0, none⟩ = some (.int .u8 1) := by rw [hw1]; exact blk_cell (al_old hk) 0
  have hs1 : w1.heap.size = w.heap.size + 1 := by rw [hw1, al_size]
  have hm1 : w1.heap[m2]? = some (.map #[] 0) := by rw [hw1]; exact al_old hm
  have K1 := Lib.hid (show t < w1.heap.size ∧ w.heap.size < w1.heap.size ∧ k < w1.heap.size by omega)
  clear hw1
  refine wp_region_noPanic ?_
  refine wp_region_held_drew (S := fun wx => wx.cell? ⟨t, 1, none⟩ = some (.map (some m2)) ∧ wx.cell? ⟨w.heap.size, 0, none⟩ = some (.slice (some ⟨k, 0, none⟩) 1 1) ∧ wx.cell? ⟨w.heap.size, 1, none⟩ = some (.slice none 0 0) ∧ wx.cell? ⟨k, 0, none⟩ = some (.int .u8 1)) (by kernel_rfl) ⟨p0, p1, p2, p3⟩ (fun hHeld => ?_)
  refine wpAnyH_take (i := 0) (v := ?_) rfl (by kernel_rfl) (by kernel_rfl) (by kernel_rfl) (fun _ _ _ h => h) (Or.inl ⟨by rfl, ?_⟩) (by assumption) ?_
  rotate_left 1
  · first | (intro w hSw; go_simp; done) | (intro w hSw; go_simp; with_reducible rfl)
  try simp only [Act.put, List.getElem_toArray, List.getElem_cons_zero, List.getElem_cons_succ, List.setIfInBounds_toArray, List.set_cons_zero, List.set_cons_succ]
  refine wpAnyH_take (i := 1) (v := ?_) rfl (by kernel_rfl) (by kernel_rfl) (by kernel_rfl) (fun _ _ _ h => h) (Or.inl ⟨by rfl, ?_⟩) (by assumption) ?_
  rotate_left 1
  · first | (intro w hSw; go_simp; done) | (intro w hSw; go_simp; with_reducible rfl)
  try simp only [Act.put, List.getElem_toArray, List.getElem_cons_zero, List.getElem_cons_succ, List.setIfInBounds_toArray, List.set_cons_zero, List.set_cons_succ]
  refine wpAnyH_take (i := 2) (v := ?_) rfl (by kernel_rfl) (by kernel_rfl) (by kernel_rfl) (fun _ _ _ h => h) (Or.inl ⟨by rfl, ?_⟩) (by assumption) ?_
  rotate_left 1
  · first | (intro w hSw; go_simp; done) | (intro w hSw; go_simp; with_reducible rfl)
  try simp only [Act.put, List.getElem_toArray, List.getElem_cons_zero, List.getElem_cons_succ, List.setIfInBounds_toArray, List.set_cons_zero, List.set_cons_succ]
  refine wpAnyH_take (i := 3) (v := ?_) rfl (by kernel_rfl) (by kernel_rfl) (by kernel_rfl) (fun _ _ _ h => h) (Or.inl ⟨by rfl, ?_⟩) (by assumption) ?_
  rotate_left 1
  · first | (intro w hSw; obtain ⟨s0, s1, s2, s3⟩ := hSw; go_simp; done) | (intro w hSw; obtain ⟨s0, s1, s2, s3⟩ := hSw; go_simp; with_reducible rfl)
  try simp only [Act.put, List.getElem_toArray, List.getElem_cons_zero, List.getElem_cons_succ, List.setIfInBounds_toArray, List.set_cons_zero, List.set_cons_succ]
  refine wpAnyH_take (i := 4) (v := ?_) rfl (by kernel_rfl) (by kernel_rfl) (by kernel_rfl) (fun _ _ _ h => h) (Or.inl ⟨by rfl, ?_⟩) (by assumption) ?_
  rotate_left 1
  · first | (intro w hSw; go_simp; done) | (intro w hSw; go_simp; with_reducible rfl)
  try simp only [Act.put, List.getElem_toArray, List.getElem_cons_zero, List.getElem_cons_succ, List.setIfInBounds_toArray, List.set_cons_zero, List.set_cons_succ]
  refine wpAnyH_take (i := 5) (v := ?_) rfl (by kernel_rfl) (by kernel_rfl) (by kernel_rfl) (fun _ _ _ h => h) (Or.inl ⟨by rfl, ?_⟩) (by assumption) ?_
  rotate_left 1
  · first | (intro w hSw; obtain ⟨s0, s1, s2, s3⟩ := hSw; go_simp; done) | (intro w hSw; obtain ⟨s0, s1, s2, s3⟩ := hSw; go_simp; with_reducible rfl)
  try simp only [Act.put, List.getElem_toArray, List.getElem_cons_zero, List.getElem_cons_succ, List.setIfInBounds_toArray, List.set_cons_zero, List.set_cons_succ]
  refine wpAnyH_take (i := 6) (v := ?_) rfl (by kernel_rfl) (by kernel_rfl) (by kernel_rfl) (fun _ _ _ h => h) (Or.inl ⟨by rfl, ?_⟩) (by assumption) ?_
  rotate_left 1
  · first | (intro w hSw; obtain ⟨s0, s1, s2, s3⟩ := hSw; have s4 := conv_str (n := 1) (c := 1) (key_at s3); clear s0 s1 s2; go_simp; done) | (intro w hSw; obtain ⟨s0, s1, s2, s3⟩ := hSw; have s4 := conv_str (n := 1) (c := 1) (key_at s3); clear s0 s1 s2; go_simp; with_reducible rfl)
  try simp only [Act.put, List.getElem_toArray, List.getElem_cons_zero, List.getElem_cons_succ, List.setIfInBounds_toArray, List.set_cons_zero, List.set_cons_succ]
  refine wpAnyH_take (i := 7) (v := ?_) rfl (by kernel_rfl) (by kernel_rfl) (by kernel_rfl) (fun _ _ _ h => h) (Or.inl ⟨by rfl, ?_⟩) (by assumption) ?_
  rotate_left 1
  · first | (intro w hSw; go_simp; done) | (intro w hSw; go_simp; with_reducible rfl)
  try simp only [Act.put, List.getElem_toArray, List.getElem_cons_zero, List.getElem_cons_succ, List.setIfInBounds_toArray, List.set_cons_zero, List.set_cons_succ]
  refine wpAnyH_take (i := 8) (v := ?_) rfl (by kernel_rfl) (by kernel_rfl) (by kernel_rfl) (fun _ _ _ h => h) (Or.inl ⟨by rfl, ?_⟩) (by assumption) ?_
  rotate_left 1
  · first | (intro w hSw; obtain ⟨s0, s1, s2, s3⟩ := hSw; go_simp; done) | (intro w hSw; obtain ⟨s0, s1, s2, s3⟩ := hSw; go_simp; with_reducible rfl)
  try simp only [Act.put, List.getElem_toArray, List.getElem_cons_zero, List.getElem_cons_succ, List.setIfInBounds_toArray, List.set_cons_zero, List.set_cons_succ]
  refine wpAnyH_ready (rs := [9]) (by kernel_rfl) (by simp) ?_
  refine AllReadyH.cons rfl (fun K hK => ?_) AllReadyH.nil
  go_simp
  (refine (cloneB_calls _ none 0 [] (C_none _) (by decide)).mono ?_; intro e w2 hn; obtain ⟨A2, c2, rfl, _, _, _, hb2⟩ := hn.open_; have HB2 := Aside0.mk (show Below w1.heap.size w1 w2 from (Below.refl _ _).drew.trans hb2); clear hn hb2)
  go_simp
  refine hK.out _ _ ⟨keeps HB2.out p0 K1.out.1, keeps HB2.out p1 K1.out.2.1, keeps HB2.out p2 K1.out.2.1, keeps HB2.out p3 K1.out.2.2⟩ (fun hHeld => ?_)
  clear hK K
  try simp only [Act.put, List.getElem_toArray, List.getElem_cons_zero, List.getElem_cons_succ, List.setIfInBounds_toArray, List.set_cons_zero, List.set_cons_succ]
  refine wpAnyH_take (i := 10) (v := ?_) rfl (by kernel_rfl) (by kernel_rfl) (by kernel_rfl) (fun _ _ _ h => h) (Or.inl ⟨by rfl, ?_⟩) (by assumption) ?_
  rotate_left 1
  · first | (intro w hSw; go_simp; done) | (intro w hSw; go_simp; with_reducible rfl)
  try simp only [Act.put, List.getElem_toArray, List.getElem_cons_zero, List.getElem_cons_succ, List.setIfInBounds_toArray, List.set_cons_zero, List.set_cons_succ]
  have hm2 := (HB2.out.block m2 (by omega)).trans hm1
  refine wpAnyH_ready (rs := [11]) (by kernel_rfl) (by simp) ?_
  refine AllReadyH.cons rfl (fun K hK => ?_) AllReadyH.nil
  go_simp
  rw [sk_upd0 _ hm2]
  go_simp
  refine hK.out _ _ ⟨sb_cell hm2 (keeps HB2.out p0 K1.out.1), sb_cell hm2 (keeps HB2.out p1 K1.out.2.1), sb_cell hm2 (keeps HB2.out p2 K1.out.2.1), sb_cell hm2 (keeps HB2.out p3 K1.out.2.2)⟩ (fun hHeld => ?_)
  clear hK K
  try simp only [Act.put, List.getElem_toArray, List.getElem_cons_zero, List.getElem_cons_succ, List.setIfInBounds_toArray, List.set_cons_zero, List.set_cons_succ]
  refine wpAnyH_done (by kernel_rfl) ?_ _
  refine NoPanic.normal ?_
  exact bodyPost_end (v := .tuple #[]) (by simp [results, Tryz.results52, go_sem]) rfl ⟨rfl, ⟨_, sb_same hm2⟩, sb_below (((HB1.out.trans (HB2.out.mono (by omega))) : Below w.heap.size w w2).mono (by omega)) hlo, ((Kept.refl _ _).below (HB1.out.trans (HB2.out.mono (by omega)))).then_ (sb_kept _ _ _) (fun k hk => .inl hk)⟩
set_option maxRecDepth 100000 in
theorem tabLen_calls (w : World) (t l m2 : Nat) (v : MapEntry) (c : Nat) (ht : w.heap[t]? = some (.cells #[.pointer (some ⟨l, 0, none⟩), .map (some m2)] 116 (0, 0))) (hm : w.heap[m2]? = some (.map #[v] c)) :
    Calls Tryz.prog 30 #[.pointer (some ⟨t, 0, none⟩)] w fun e w' => e = .returned (.int .i64 1) ∧ w' = w := by
  have c1 := blk_cell ht 1
  simp at c1
  have hln : (Builtin.len_ #[114] 3 #[.map (some m2)]).run Tryz.prog w = .ok (.int .i64 1) w := by
    simp [Builtin.len_, run_underlying under114, MapKept.run_getObj_map hm, Result.andThen, goInt]
  go_enter Tryz.func30, Tryz.ntmps30
  go_wp2
  go_ret
  exact ⟨by simp, rfl⟩
set_option maxRecDepth 100000 in
set_option maxHeartbeats 2000000 in
theorem apply_calls (w : World) (lo t l m2 d m s k : Nat) (z : Tb0 w t l m2 d m) (b : Bt w s k) (hm : m2 ≠ m) (hl : lo ≤ l) (hd : lo ≤ d) (hm1 : lo ≤ m) (hm2 : lo ≤ m2) :
    Calls Tryz.prog 25 #[.pointer (some ⟨t, 0, none⟩), .slice (some ⟨s, 0, none⟩) 1 1] w fun e w' => e = .returned .nilIface ∧ w'.heap[t]? = some (.cells #[.pointer (some ⟨l, 0, none⟩), .map (some m2)] 116 (0, 0)) ∧ (∃ v, w'.heap[m2]? = some (.map #[v] 1)) ∧ Fr w w' lo (fun k => k = l ∨ k = d ∨ k = m ∨ k = m2) := by
  have no : ∀ j, (j = t ∨ j = m2 ∨ j = s ∨ j = k) → ¬ (j = l ∨ j = d ∨ j = m) := by
    have h1 := z.tab
    have h2 := z.log
    have h3 := z.at_
    have h4 := z.dk.cell
    have h5 := z.dk.map
    have h6 := b.row
    have h7 := b.key
    rintro j (rfl | rfl | rfl | rfl) (rfl | rfl | rfl) <;> simp_all [logCells]
  have NO := Lib.hid no
  have HZ := Aside0.mk z
  have HBt := Aside0.mk b
  have LT := Lib.hid (And.intro (blk_lt z.tab) (And.intro (blk_lt z.at_) (And.intro (blk_lt b.row) (blk_lt b.key))))
  have c0 := blk_cell z.tab 0
  simp at c0
  clear no z b
  go_enter Tryz.func25, Tryz.ntmps25
  go_wp2_with (first
    | (go_at_call 48; refine (kvCheck_calls _ s k HBt.out).mono ?_; rintro e w1 ⟨rfl, hb1⟩; have HB1 := Aside0.mk hb1; clear hb1)
    | (go_at_call 49; refine (pack_calls _ s k (HBt.out.below HB1.out)).mono ?_; rintro e w2 ⟨A2, c2, rfl, hr2, hb2⟩; have HB2 := Aside0.mk (HB1.out.trans (hb2.mono HB1.out.size)); have HC2 := Aside0.mk (Kd.R_reads' hr2).2.2; have c0 := keeps HB2.out c0 LT.out.1; clear hr2 hb2)
    | (go_at_call 51; refine (walAppend_calls _ lo l d m A2 c2 (HZ.out.dk.below HB2.out) ((HB2.out.block _ (blk_lt HZ.out.log)).trans HZ.out.log) hl hd hm1 HC2.out).mono ?_; rintro e w3 ⟨rfl, hf3⟩; have HF3 := Aside0.mk (show Fr w w3 lo (fun k => k = l ∨ k = d ∨ k = m) from (Fr.of HB2.out (Nat.le_of_lt (Nat.lt_of_le_of_lt hl (blk_lt HZ.out.log)))).trans hf3 (fun k hk => .inl hk)); clear hf3))
  clear c0
  have tt : w3.heap[t]? = some (.cells #[.pointer (some ⟨l, 0, none⟩), .map (some m2)] 116 (0, 0)) := (HF3.out.kept.2 t LT.out.1 (NO.out t (.inl rfl))).trans HZ.out.tab
  have tm : w3.heap[m2]? = some (.map #[] 0) := (HF3.out.kept.2 m2 LT.out.2.1 (NO.out m2 (.inr (.inl rfl)))).trans HZ.out.at_
  have hbt : Bt w3 s k := ⟨(HF3.out.kept.2 s LT.out.2.2.1 (NO.out s (.inr (.inr (.inl rfl))))).trans HBt.out.row, (HF3.out.kept.2 k LT.out.2.2.2 (NO.out k (.inr (.inr (.inr rfl))))).trans HBt.out.key⟩
  have T3 := Aside0.mk (And.intro tt (And.intro tm hbt))
  have hf0 : Fr w w3 lo (fun k => k = l ∨ k = d ∨ k = m ∨ k = m2) := HF3.out.mono (fun j h => by rcases h with h | h | h <;> simp [h])
  have F0 := Aside0.mk hf0
  have ne2 : t ≠ m2 := by rintro rfl; rw [tt] at tm; cases tm
  have NE2 := Lib.hid ne2
  clear tt tm hbt hf0 ne2
  go_loopw [42] (fun v wr => (v = .int .i64 0 ∧ wr = w3) ∨ (v = .int .i64 1 ∧ wr.heap[t]? = some (.cells #[.pointer (some ⟨l, 0, none⟩), .map (some m2)] 116 (0, 0)) ∧ (∃ v, wr.heap[m2]? = some (.map #[v] 1)) ∧ Fr w wr lo (fun k => k = l ∨ k = d ∨ k = m ∨ k = m2))) (fun v _ => 1 - (intOf v).toNat)
  case atStart => exact .inl ⟨rfl, rfl⟩
  case round =>
    rcases hrel with ⟨rfl, rfl⟩ | ⟨rfl, ht, hv, hf⟩
    · have q0 := blk_cell T3.out.2.2.row 0
      have q1 := blk_cell T3.out.2.2.row 1
      have q2 := blk_cell T3.out.2.2.row 2
      simp at q0 q1 q2
      go_wp2_with (go_at_call 52; refine (tabPut_calls _ lo t l m2 k (al_old T3.out.1) (al_old T3.out.2.1) (al_old T3.out.2.2.key) hm2).mono ?_; rintro e w5 ⟨rfl, hv5, hf5⟩; have HV5 := Aside0.mk hv5; have HF5 := Aside0.mk hf5; clear hv5 hf5)
      go_roundw
      case rel =>
        have hlw : lo ≤ wr.heap.size := Nat.le_of_lt (Nat.lt_of_le_of_lt hm2 (blk_lt T3.out.2.1))
        refine .inr ⟨rfl, (HF5.out.kept.2 t (by rw [al_size]; have := blk_lt T3.out.1; omega) NE2.out).trans (al_old T3.out.1), HV5.out, (F0.out.alloc _ (Nat.le_of_lt (Nat.lt_of_le_of_lt hm2 LT.out.2.1))).trans HF5.out (fun j h => .inl (.inr (.inr (.inr h))))⟩
      case measure => simp [intOf]
    · have H := Aside0.mk (And.intro ht (And.intro hv hf))
      clear ht hv hf
      go_wp2
      go_ret
      exact ⟨by simp, H.out.1, H.out.2.1, H.out.2.2⟩
end Go.Proofs.YtadaoplmicghcaaGreatDoor.Aw
namespace Go.Proofs.YtadaoplmicghcaaGreatDoor.Aw
open Go.RowKit Go.ChangeMaps Go.Proofs.YtadaoplmicghcaaGreatDoor.Lk Go.Proofs.YtadaoplmicghcaaGreatDoorW.PrintWords Go.Proofs.YtadaoplmicghcaaGreatDoorW.PrintLast Go.Proofs.YtadaoplmicghcaaGreatDoorW.PrintMore
set_option linter.unusedVariables false
set_option linter.unusedSimpArgs false
theorem row_one {w : World} {base : Nat} {G : Option Addr} {c : Nat} {p : List UInt8} (h : kBs.R 68 w base (fun _ => True) (.slice G 1 c) [p]) :
    ∃ g cur A c0, G = some ⟨g, 0, none⟩ ∧ w.heap[g]? = some (.cells cur 68 (0, 0)) ∧ cur[0]? = some (.slice A p.length c0) ∧ kB.R 5 w base (fun k => k ≠ g) (.slice A p.length c0) p ∧ p.length ≤ c0 ∧ base ≤ g ∧ 1 ≤ c ∧ c ≤ 9223372036854775807 := by
  obtain ⟨h0, inner, ho, hr⟩ := h
  rcases ho.2 with ⟨_, h⟩ | ⟨g, cap, cur, hv, hg, hh, h1, h2, h3⟩
  · simp at h
  · injection hv with e1 e2 e3
    subst e1 e3
    obtain ⟨v, hv, hR⟩ := hr.2 0 p rfl
    obtain ⟨A, c0, rfl, hle, _⟩ := Kd.R_reads hR
    have e1 : inner[0]? = some (.slice A p.length c0) := by
      have h1 : (inner.drop 0).take 1 = [.slice A p.length c0] := hv
      rw [List.drop_zero] at h1
      have h2 : (inner.take 1)[0]? = some (.slice A p.length c0) := by rw [h1]; rfl
      simpa [List.getElem?_take] using h2
    have e4 : cur[0]? = some (.slice A p.length c0) := by
      have h2 : (cur.toList.take (1 * kBs.sz))[0]? = some (.slice A p.length c0) := by rw [show (1 * kBs.sz) = ([p] : List (List UInt8)).length * kBs.sz from rfl, h3.2]; exact e1
      have e5 : 1 * kBs.sz = 1 := rfl
      rw [e5] at h2
      simpa [List.getElem?_take] using h2
    exact ⟨g, cur, A, c0, rfl, hh, e4, Kd.R_mono hR (fun k hk e => hk.2 (by rw [e]; rfl)), hle, hg, h1, by simpa [maxLen] using h2⟩
theorem rises_nil : Rises [] := fun j hj => by simp at hj
theorem up0 : Cm.Up [0] := by
  intro j hj
  obtain rfl : j = 0 := by simpa using hj
  simp [Cm.okB, Go.Proofs.YtadaoplmicghcaaGreatDoorW.PrintWords.rd]
theorem begin0 : Cm.Dk.new.beginR [0] = (1, 0, ⟨1, [0], [0], [0]⟩) := by rw [Cm.Dk.beginR_ok rfl (by simp) up0]; rfl
theorem enFine_new (n : Nat) (h1 : 1 ≤ n) (h2 : n ≤ 64) : EnFine (En.new n) := ⟨h1, h2, by simp [En.new], by simp [En.new], by simp [En.new], by simp [En.new], by simp [En.new]⟩
def en1 : En := (En.new 2).push [1]
theorem en1_fine : EnFine en1 := (enFine_new 2 (by decide) (by decide)).push _ (by decide)
theorem en1_pkt : pkt en1.commit = putAll (uintsF 0 ++ uintsF 0) [[1]] := by rfl
theorem en1_len : (pkt en1.commit).length ≤ 1000 := by rw [en1_pkt]; simp [Lk.putAll, uintsF_small]
/-- Each part, as it was made. -/
structure S0 (w : World) (lo pa pb m n wl wh pw dm d t l m2 : Nat) : Prop where
  a : IsEnd w lo (fun k => k = pa) (En.new 2) pa
  b : IsEnd w lo (fun k => k = pb) (En.new 2) pb
  net : w.heap[n]? = some (.cells #[.map (some m)] 107 (0, 0))
  nm : w.heap[m]? = some (.map #[] 0)
  wv : IsWave w wl wh ⟨[], [], [], false⟩ pw
  tb : Tb0 w t l m2 d dm
  ord : lo ≤ pa ∧ pa < pb ∧ pb < m ∧ m < n ∧ n < wl ∧ wl ≤ wh ∧ wh ≤ dm ∧ dm < d ∧ d < t ∧ d < l ∧ d < m2 ∧ d < w.heap.size ∧ n < w.heap.size
set_option maxRecDepth 100000 in
set_option maxHeartbeats 4000000 in
theorem awake11_calls (w : World) : Calls Tryz.prog 4 #[] w fun e w' => e = .returned (.bool true) ∧ Below w.heap.size w w' := by
  go_enter Tryz.func4, Tryz.ntmps4
  go_wp2_with fail
  refine (linkNew_calls w 2 (by decide) (by decide)).mono ?_
  rintro e w1 ⟨rfl, hE, hs, hb⟩
  have E1 := Aside0.mk hE
  have Z1 := Lib.hid hs
  have B1 := Aside0.mk hb
  clear hE hs hb
  go_wp2_with fail
  refine (linkNew_calls w1 2 (by decide) (by decide)).mono ?_
  rintro e w2 ⟨rfl, hE, hs, hb⟩
  have E2 := Aside0.mk (E1.out.stay hb)
  have E2' := Aside0.mk hE
  have Z2 := Lib.hid hs
  have B2 := Aside0.mk hb
  clear hE hs hb
  go_wp2_with fail
  refine (netNew_calls w2).mono ?_
  rintro e w3 ⟨rfl, hN, hM, hs, hb⟩
  have N3 := Aside0.mk (And.intro hN hM)
  have Z3 := Lib.hid hs
  have B3 := Aside0.mk hb
  clear hN hM hs hb
  go_wp2_with fail
  refine (new_calls w3 none 0 [] (Kd.R_reads' (Kd.R_nil (Kd.int .i64) 3 w3 0 (fun _ => True))).2.2 (by decide)).mono ?_
  intro e w4 hp
  obtain ⟨pw, rfl, hW, hb⟩ := hp.1 rises_nil
  have W4 := Aside0.mk hW
  have B4 := Aside0.mk hb
  clear hp hW hb
  go_wp2_with fail
  refine (disk_new w4).mono ?_
  rintro e w5 ⟨rfl, hD, hs, hb⟩
  have D5 := Aside0.mk hD
  have Z5 := Lib.hid hs
  have B5 := Aside0.mk hb
  clear hD hs hb
  go_wp2_with fail
  refine (kvOpen_calls w5 _ _ D5.out).mono ?_
  rintro e w6 ⟨t, l, m2, rfl, hT, ht, hl, hm2, hb⟩
  have B6 := Aside0.mk hb
  clear hb
  have hs3 := B3.out.size
  have hs4 := B4.out.size
  have hs5 := B5.out.size
  have hs6 := B6.out.size
  have z1 := Z1.out
  have z2 := Z2.out
  have z3 := Z3.out
  have z5 := Z5.out
  have lt := blk_lt hT.tab
  have S6 := Aside0.mk (show S0 w6 w.heap.size w.heap.size w1.heap.size w2.heap.size (w2.heap.size + 1) w3.heap.size w4.heap.size pw w4.heap.size (w4.heap.size + 1) t l m2 from
    ⟨E2.out.stay (B3.out.trans ((B4.out.mono (by omega)).trans ((B5.out.mono (by omega)).trans (B6.out.mono (by omega))))),
      (E2'.out.lower (by omega)).stay (B3.out.trans ((B4.out.mono (by omega)).trans ((B5.out.mono (by omega)).trans (B6.out.mono (by omega))))),
      (((B4.out.mono (by omega)).trans ((B5.out.mono (by omega)).trans (B6.out.mono (by omega))) : Below (w2.heap.size + 2) w3 w6).block _ (by omega)).trans N3.out.1,
      (((B4.out.mono (by omega)).trans ((B5.out.mono (by omega)).trans (B6.out.mono (by omega))) : Below (w2.heap.size + 2) w3 w6).block _ (by omega)).trans N3.out.2,
      W4.out.below (B5.out.trans (B6.out.mono (by omega))), hT, by omega⟩)
  have BL6 := Aside0.mk (show Below w.heap.size w w6 from B1.out.trans ((B2.out.mono (by omega)).trans ((B3.out.mono (by omega)).trans ((B4.out.mono (by omega)).trans ((B5.out.mono (by omega)).trans (B6.out.mono (by omega)))))))
  clear hs3 hs4 hs5 hs6 z1 z2 z3 z5 lt hT ht hl hm2 E1 E2 E2' N3 W4 D5 B1 B2 B3 B4 B5 B6 Z1 Z2 Z3 Z5
  obtain ⟨lo, hlo⟩ : ∃ lo, lo = w.heap.size := ⟨_, rfl⟩
  obtain ⟨pb, hpb⟩ : ∃ pb, pb = w1.heap.size := ⟨_, rfl⟩
  obtain ⟨m, hm⟩ : ∃ m, m = w2.heap.size := ⟨_, rfl⟩
  obtain ⟨wl, hwl⟩ : ∃ wl, wl = w3.heap.size := ⟨_, rfl⟩
  obtain ⟨wh, hwh⟩ : ∃ wh, wh = w4.heap.size := ⟨_, rfl⟩
  rw [← hlo, ← hpb, ← hm, ← hwl, ← hwh] at S6
  rw [← hlo] at BL6
  simp only [← hlo, ← hpb, ← hm, ← hwl, ← hwh]
  have HLO := Lib.hid hlo
  clear hlo hpb hm hwl hwh
  have LOH := Lib.hid (show lo ≤ w6.heap.size by have := S6.out.ord; omega)
  obtain ⟨H, hH⟩ : ∃ H, Hid (H = w6.heap.size) := ⟨_, rfl⟩
  go_wp2_with fail
  refine (linkPush_calls _ lo (fun k => k = lo) (En.new 2) lo _ 1 [1] (enFine_new 2 (by decide) (by decide)) (S6.out.a.stay (below_alloc (Below.refl _ _) _)) (B_litC _ [1] (by decide) rfl rfl rfl) (by decide) (by decide)).mono ?_
  rintro e w7 ⟨rfl, K7, hz, hm⟩
  have A7 := Aside0.mk (show IsEnd w7 lo K7 en1 lo from hz)
  have BL7 := Aside0.mk ((BL6.out.trans ((below_alloc (Below.refl _ _) _).mono LOH.out)).trans hm.below)
  have KP7 := Aside0.mk (((Kept.refl w6 (fun k => k = lo)).below (below_alloc (Below.refl _ _) _)).then_ hm.kept (fun k hk => .inl hk))
  have KK := Lib.hid (show ∀ k, K7 k → k = lo ∨ H ≤ k from fun k hk => (hm.new k hk).imp id (fun h => by rw [hH.out]; rw [al_size] at h; omega))
  clear hz hm
  go_wp2_with fail
  refine (linkCommit_calls _ lo K7 en1 _ en1_fine A7.out).mono ?_
  rintro e w8 ⟨rfl, hz, hm⟩
  have A8 := Aside0.mk hz
  have BL8 := Aside0.mk (BL7.out.trans hm.below)
  have KP8 := Aside0.mk (KP7.out.then_ hm.kept (fun k hk => (KK.out k hk).imp id (fun h => by rw [← hH.out]; exact h)))
  clear hz hm A7 BL7 KP7
  go_wp2_with fail
  have hs8 : w6.heap.size ≤ w8.heap.size := KP8.out.1
  have tb8 : Tb0 w8 t l m2 (wh + 1) wh := by
    have o := S6.out.ord
    have z := S6.out.tb
    have k := fun j h1 h2 => KP8.out.2 j h1 h2
    exact ⟨(k t (blk_lt z.tab) (by omega)).trans z.tab, (k l (blk_lt z.log) (by omega)).trans z.log, (k m2 (blk_lt z.at_) (by omega)).trans z.at_, ⟨(k _ (blk_lt z.dk.cell) (by omega)).trans z.dk.cell, (k _ (blk_lt z.dk.map) (by omega)).trans z.dk.map⟩⟩
  obtain ⟨wb, hwb⟩ : ∃ wb, wb = (w8.alloc (.cells #[.int .u8 1] 5)).alloc (.cells #[.slice (some ⟨w8.heap.size, 0, none⟩) 1 1, .slice none 0 0, .bool false] 72) := ⟨_, rfl⟩
  rw [← hwb]
  have hb8 : Below w8.heap.size w8 wb := by rw [hwb]; exact below_alloc (below_alloc (Below.refl _ _) _) _
  have bt : Bt wb (w8.heap.size + 1) w8.heap.size := by rw [hwb]; exact ⟨al_new (al_size _ _), al_old (al_new rfl)⟩
  have tbb : Tb0 wb t l m2 (wh + 1) wh := ⟨(hb8.block _ (blk_lt tb8.tab)).trans tb8.tab, (hb8.block _ (blk_lt tb8.log)).trans tb8.log, (hb8.block _ (blk_lt tb8.at_)).trans tb8.at_, tb8.dk.below hb8⟩
  have TB := Aside0.mk tbb
  have BT := Aside0.mk bt
  have HB8 := Aside0.mk hb8
  have HS8 := Lib.hid hs8
  clear hs8 tb8 hwb hb8 bt tbb
  refine (apply_calls wb lo t l m2 (wh + 1) wh (w8.heap.size + 1) w8.heap.size TB.out BT.out (by have := S6.out.ord; omega) (by have := S6.out.ord; omega) (by have := S6.out.ord; omega) (by have := S6.out.ord; omega) (by have := S6.out.ord; omega)).mono ?_
  rintro e w9 ⟨rfl, ht, hv, hf⟩
  have o := S6.out.ord
  have hll : l < H := by rw [hH.out]; exact blk_lt S6.out.tb.log
  have hlm : m2 < H := by rw [hH.out]; exact blk_lt S6.out.tb.at_
  have hlt : t < H := by rw [hH.out]; exact blk_lt S6.out.tb.tab
  have hh : w6.heap.size = H := hH.out.symm
  have O := Lib.hid (show (lo < pb ∧ pb < m ∧ m + 1 < wl ∧ wl ≤ wh ∧ wh + 1 < t ∧ wh + 1 < l ∧ wh + 1 < m2) ∧ l < H ∧ m2 < H ∧ t < H by omega)
  have hs8 := HS8.out
  have A9 := Aside0.mk ((A8.out.stay HB8.out).move (fun k hk => hf.kept.2 k (((A8.out.stay HB8.out).kb k hk).2) (by have := KK.out k hk; omega)) hf.kept.1)
  have T9 := Aside0.mk (And.intro ht hv)
  have KP9 := Aside0.mk (show Kept w6 w9 (fun k => k = lo ∨ k = l ∨ k = wh + 1 ∨ k = wh ∨ k = m2) from ((KP8.out.mono (fun k hk => .inl hk)).below HB8.out).then_ hf.kept (fun k hk => .inl (.inr hk)))
  have BL9 := Aside0.mk ((BL8.out.trans (HB8.out.mono (by omega))).trans hf.below)
  clear o hll hlm hlt hh hs8 ht hv hf A8 KP8 BL8 HB8 HS8 TB BT
  go_wp2_with fail
  refine (linkPacket_calls w9 lo K7 en1.commit lo en1_fine.commit A9.out (by decide) (.inl (by decide))).mono ?_
  rintro e w10 ⟨A10, c10, rfl, hp, hz, hm⟩
  have P10 := Aside0.mk hp
  have KQ10 := Aside0.mk (show Kept w9 w10 (fun k => k = lo ∨ H ≤ k) from hm.kept.mono KK.out)
  have BL10 := Aside0.mk (BL9.out.trans hm.below)
  clear hp hz hm A9 BL9
  go_wp2_with fail
  have hH9 : H ≤ w9.heap.size := by rw [hH.out]; exact KP9.out.1
  have N10 : w10.heap[m + 1]? = some (.cells #[.map (some m)] 107 (0, 0)) := by
    have o := O.out
    exact (KQ10.out.2 _ (by omega) (by omega)).trans ((KP9.out.2 _ (blk_lt S6.out.net) (by omega)).trans S6.out.net)
  have M10 : w10.heap[m]? = some (.map #[] 0) := by
    have o := O.out
    have hlm := blk_lt S6.out.nm
    have h6 := KP9.out.1
    exact (KQ10.out.2 _ (by omega) (by omega)).trans ((KP9.out.2 _ hlm (by omega)).trans S6.out.nm)
  refine (netSend_calls w10 lo (m + 1) m (by have := O.out; omega) A10 c10 (pkt en1.commit) N10 M10 (Kd.R_reads' P10.out).2.2 en1_len).mono ?_
  rintro e w11 ⟨rfl, ⟨G, c11, hM, hR⟩, hf⟩
  have N11 := (hf.kept.2 (m + 1) (blk_lt N10) (by omega)).trans N10
  obtain ⟨g, cur, A11, d11, rfl, hg, hcur, hRp, hle, hbg, hc1, hc2⟩ := row_one hR
  have G11 := Aside0.mk (And.intro N11 (And.intro hM (And.intro hg (And.intro hcur (Kd.R_lower hRp (show lo ≤ w10.heap.size by have := KQ10.out.1; have := O.out; have := LOH.out; have := KP9.out.1; omega))))))
  have Q11 := Lib.hid (And.intro hle (And.intro (show H ≤ g by have := KQ10.out.1; omega) (And.intro hc1 hc2)))
  have KQ11 := Aside0.mk (show Kept w9 w11 (fun k => k = lo ∨ k = m ∨ H ≤ k) from (KQ10.out.mono (fun k hk => hk.imp id .inr)).then_ hf.kept (fun k hk => .inl (.inr (.inl hk))))
  have BL11 := Aside0.mk (BL10.out.trans hf.below)
  have LOM := Lib.hid (show lo ≤ m by have := S6.out.ord; omega)
  have LOHH := Lib.hid (show lo ≤ H by rw [hH.out]; exact LOH.out)
  clear hM hR hf N11 hg hcur hRp hle hbg hc1 hc2 N10 M10 hH9 P10 KQ10 BL10
  go_wp2_with fail
  refine (netDeliver_calls w11 lo (m + 1) m g c11 cur A11 d11 (pkt en1.commit) G11.out.1 G11.out.2.1 G11.out.2.2.1 G11.out.2.2.2.1 G11.out.2.2.2.2 (Nat.le_trans LOHH.out Q11.out.2.1) LOM.out Q11.out.2.2.1 Q11.out.2.2.2).mono ?_
  rintro e w12 ⟨rfl, hC, hf⟩
  have C12 := Aside0.mk hC
  have KQ12 := Aside0.mk (KQ11.out.then_ hf.kept (fun k hk => .inl (hk.elim (fun h => .inr (.inl h)) (fun h => .inr (.inr (by have := Q11.out.2.1; omega))))))
  have BL12 := Aside0.mk (BL11.out.trans hf.below)
  have b12 : IsEnd w12 lo (fun k => k = pb) (En.new 2) pb := by
    have o := O.out
    have hb6 : pb < w6.heap.size := (S6.out.b.kb pb rfl).2
    have h6 := KP9.out.1
    refine (S6.out.b.move (w1 := w9) (fun k hk => KP9.out.2 k (by omega) (by omega)) h6).move (fun k hk => KQ12.out.2 k (by omega) (by have := hH.out; omega)) KQ12.out.1
  have E12 := Aside0.mk b12
  clear hC hf b12 KQ11 BL11 G11
  go_wp2_with fail
  refine (linkReceive_calls w12 lo (fun k => k = pb) (En.new 2) pb 0 0 d11 A11 [[1]] (pkt en1.commit) 1 (enFine_new 2 (by decide) (by decide)) E12.out en1_pkt C12.out Q11.out.1 (by decide) (by decide) (by decide) (by decide)).mono ?_
  rintro e w13 ⟨A13, c13, rfl, hq, hz, hm⟩
  have hr : rcvd (En.new 2).got 0 1 [[1]] = [[1]] := rfl
  rw [hr]
  have hl1 : ([[1]] : List (List UInt8)).length = 1 := rfl
  rw [hl1]
  have KQ13 := Aside0.mk (show Kept w9 w13 (fun k => k = lo ∨ k = m ∨ k = pb ∨ H ≤ k) from (KQ12.out.mono (fun k hk => by rcases hk with h | h | h <;> simp [h])).then_ hm.kept (fun k hk => .inl (.inr (.inr (.inl hk)))))
  have BL13 := Aside0.mk (BL12.out.trans hm.below)
  have W13 := Aside0.mk (show IsWave w13 wl wh ⟨[], [], [], false⟩ pw from by
    have o := O.out
    have h6 := KP9.out.1
    have hw : wh ≤ w6.heap.size := by have := S6.out.ord; omega
    exact S6.out.wv.move (fun k hk => (KQ13.out.2 k (by have := hk.2; omega) (by have := hk.1; have := hk.2; have := hH.out; omega)).trans (KP9.out.2 k (by have := hk.2; omega) (by have := hk.1; have := hk.2; omega))))
  clear hq hz hm hr hl1 E12 C12 KQ12 BL12 Q11
  go_wp2_with fail
  refine (begin_calls w13 wl wh pw ⟨[], [], [], false⟩ rises_nil.fine W13.out rfl).mono ?_
  rintro e w14 ⟨v14, rfl, hv, hW, hb, hk⟩
  obtain ⟨A14, c14, rfl⟩ := Kd.R_slice hv
  have W14 := Aside0.mk (show IsWave w14 wl wh ⟨[], [], [], true⟩ pw from hW)
  have KQ14 := Aside0.mk (show Kept w9 w14 (fun k => k = lo ∨ k = m ∨ k = pb ∨ In wl wh k ∨ H ≤ k) from (KQ13.out.mono (fun k hk => by rcases hk with h | h | h | h <;> simp [h])).then_ hk (fun k hk => .inl (.inr (.inr (.inr (.inl hk))))))
  have BL14 := Aside0.mk (BL13.out.trans (hb.mono (by have := S6.out.ord; omega)))
  clear hv hW hb hk W13 KQ13 BL13
  go_wp2_with fail
  refine (Cm.new_calls w14).mono ?_
  rintro e w15 ⟨pd, K15, rfl, hD, hb, _⟩
  have D15 := Aside0.mk hD
  have B15 := Aside0.mk hb
  clear hD hb
  go_wp2_with fail
  refine (Cm.begin_calls (D15.out.stay (below_alloc (Below.refl _ _) _)) Cm.Fine.new (by simp [Cm.Dk.new]) _ _ [0] (lit_at _ _ [0] (by simp) (by simp) rfl rfl) (by simp)).mono ?_
  rintro e w16 ⟨he, hl⟩
  rw [begin0] at he hl
  obtain rfl : e = .returned (.tuple #[.int .i64 1, .nilIface]) := he
  obtain ⟨K16, _, hm⟩ := hl
  have B16 := Aside0.mk (show Below w14.heap.size w14 w16 from B15.out.trans (((below_alloc (Below.refl _ _) _).mono B15.out.size).trans hm.below))
  clear hm D15 B15
  have W16 := Aside0.mk (W14.out.below B16.out)
  have BL16 := Aside0.mk (BL14.out.trans (B16.out.mono (by have := KQ14.out.1; have := KP9.out.1; have := LOH.out; omega)))
  have T16 := Aside0.mk (show w16.heap[t]? = some (.cells #[.pointer (some ⟨l, 0, none⟩), .map (some m2)] 116 (0, 0)) ∧ ∃ v, w16.heap[m2]? = some (.map #[v] 1) from by
    have o := O.out
    have h1 := blk_lt T9.out.1
    obtain ⟨v, hv⟩ := T9.out.2
    have h2 := blk_lt hv
    have h3 := KQ14.out.1
    exact ⟨(B16.out.block t (by omega)).trans ((KQ14.out.2 t h1 (by unfold In; omega)).trans T9.out.1), v, (B16.out.block m2 (by omega)).trans ((KQ14.out.2 m2 h2 (by unfold In; omega)).trans hv)⟩)
  clear W14 KQ14 BL14 B16 T9 KP9
  obtain ⟨v16, h16⟩ := T16.out.2
  have V16 := Aside0.mk h16
  clear h16
  go_wp2_with (first
    | (go_at_call 15; refine (done_calls w16 wl wh pw ⟨[], [], [], true⟩ rises_nil.fine.begun W16.out).mono ?_; rintro e w17 ⟨rfl, ⟨⟨j, rfl⟩⟩⟩)
    | (go_at_call 30; refine (tabLen_calls _ t l m2 v16 1 (show (w16.drewN j).heap[t]? = _ from T16.out.1) (show (w16.drewN j).heap[m2]? = _ from V16.out)).mono ?_; rintro e w18 ⟨rfl, hw⟩; subst w18))
  go_ret
  rw [← HLO.out]
  exact ⟨by simp, pw_below_drewN BL16.out _⟩
end Go.Proofs.YtadaoplmicghcaaGreatDoor.Aw
