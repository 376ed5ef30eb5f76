/- A net of one packet; a batch of one put; a file's first bytes. -/
import Derived.Test.YtadaoplmicghcaaGreatDoorM8
import Derived.WideKeyEntry
import Derived.Lib.SliceRun
import Derived.Test.YtadaoplmicghcaaGreatDoorM7
namespace Go.Proofs.YtadaoplmicghcaaGreatDoor.Aw
open Go.RowKit Go.ChangeMaps Go.Proofs.YtadaoplmicghcaaGreatDoor.Lk Go.Proofs.YtadaoplmicghcaaGreatDoorW.PrintWords Go.Proofs.YtadaoplmicghcaaGreatDoorW.PrintLast Go.Proofs.YtadaoplmicghcaaGreatDoorW.PrintMore
set_option linter.unusedVariables false
set_option linter.unusedSimpArgs false
theorem under105 : Tryz.prog.underlying 105 = some (.map 128 79) := by kernel_rfl
theorem wk_check (e : Bool) (W : World) : (Instr.checkKey e 10000 128 (.agg #[.int .i64 0, .int .i64 1])).run Tryz.prog W = .ok () W := by
  cases e <;> kernel_rfl
theorem wk_none (W : World) : (Instr.findKey 128 (.agg #[.int .i64 0, .int .i64 1]) []).run Tryz.prog W = .ok none W := by kernel_rfl
theorem wk_some (v : Value) (b : Nat) (W : World) : (Instr.findKey 128 (.agg #[.int .i64 0, .int .i64 1]) [⟨(.agg #[.int .i64 0, .int .i64 1]), v, b⟩]).run Tryz.prog W = .ok (some (0, v)) W := by kernel_rfl
theorem wk_stays (W : World) : (Instr.keyThatStays (.agg #[.int .i64 0, .int .i64 1]) (.agg #[.int .i64 0, .int .i64 1])).run Tryz.prog W = .ok (.agg #[.int .i64 0, .int .i64 1]) W := by kernel_rfl
theorem zero79 (W : World) : (zeroValue 79).run Tryz.prog W = .ok (.slice none 0 0) W := by kernel_rfl
section
variable {W : World} {m c b : Nat} {v v0 : Value}
theorem wk_look0 (hb : W.heap[m]? = some (.map #[] c)) : (Instr.lookup 105 (.map (some m)) (.agg #[.int .i64 0, .int .i64 1]) false).run Tryz.prog W = .ok (.slice none 0 0) W := by
  simp [Instr.lookup, run_underlying under105, MapKept.run_getObj_map hb, wk_check, wk_none, zero79, Result.andThen]
theorem wk_look1 (hb : W.heap[m]? = some (.map #[⟨(.agg #[.int .i64 0, .int .i64 1]), v, b⟩] c)) : (Instr.lookup 105 (.map (some m)) (.agg #[.int .i64 0, .int .i64 1]) false).run Tryz.prog W = .ok v W := by
  simp [Instr.lookup, run_underlying under105, MapKept.run_getObj_map hb, wk_check, wk_some, Result.andThen]
theorem wk_entry0 (hb : W.heap[m]? = some (.map #[] 0)) : (Instr.mapEntry 105 (.map (some m)) (.agg #[.int .i64 0, .int .i64 1])).run Tryz.prog W = .ok (.tuple #[.slice none 0 0, .int .i64 0]) (setBlock W m (.map #[⟨(.agg #[.int .i64 0, .int .i64 1]), .slice none 0 0, 0⟩] 1)) := by
  simp [Instr.mapEntry, run_underlying under105, MapKept.run_getObj_map hb, wk_check, wk_none, zero79, MapKept.run_setObj_map _ hb, Result.andThen, setBlock, goInt]
theorem wk_store (hb : W.heap[m]? = some (.map #[⟨(.agg #[.int .i64 0, .int .i64 1]), v0, 0⟩] c)) : (Instr.entryStore 105 (.map (some m)) (.int .i64 0) v).run Tryz.prog W = .ok () (setBlock W m (.map #[⟨(.agg #[.int .i64 0, .int .i64 1]), v, 0⟩] c)) := by
  simp [Instr.entryStore, MapKept.run_getObj_map hb, asInt, asIntOf, goInt, MapKept.run_setObj_map _ hb, Result.andThen, setBlock]
theorem wk_upd (hb : W.heap[m]? = some (.map #[⟨(.agg #[.int .i64 0, .int .i64 1]), v0, b⟩] c)) : (Instr.mapUpdate 105 (.map (some m)) (.agg #[.int .i64 0, .int .i64 1]) v).run Tryz.prog W = .ok () (setBlock W m (.map #[⟨(.agg #[.int .i64 0, .int .i64 1]), v, b⟩] c)) := by
  simp [Instr.mapUpdate, run_underlying under105, MapKept.run_getObj_map hb, wk_check, wk_some, wk_stays, MapKept.run_setObj_map _ hb, Result.andThen, setBlock]
theorem wk_del (ty : TypeId) (hb : W.heap[m]? = some (.map #[⟨(.agg #[.int .i64 0, .int .i64 1]), v0, b⟩] c)) : (Builtin.delete_ #[105, 128] ty #[.map (some m), (.agg #[.int .i64 0, .int .i64 1])]).run Tryz.prog W = .ok (.tuple #[]) (setBlock W m (.map #[] c)) := by
  simp [Builtin.delete_, run_underlying under105, MapKept.run_getObj_map hb, wk_check, wk_some, MapKept.run_setObj_map _ hb, Result.andThen, setBlock]
end
theorem sb_size (w : World) (m : Nat) (o : Obj) : (setBlock w m o).heap.size = w.heap.size := by simp [setBlock]
theorem sb_same {w : World} {m : Nat} {o x : Obj} (h : w.heap[m]? = some x) : (setBlock w m o).heap[m]? = some o := by
  have := blk_lt h
  simp [setBlock, this]
theorem sb_other {w : World} {m k : Nat} {o : Obj} (h : k ≠ m) : (setBlock w m o).heap[k]? = w.heap[k]? := by
  simp [setBlock, Ne.symm h]
theorem sb_cell {w : World} {m c : Nat} {es : Array MapEntry} {o : Obj} {p : Addr} {v : Value} (hb : w.heap[m]? = some (.map es c)) (h : w.cell? p = some v) : (setBlock w m o).cell? p = some v := by
  have hne : p.block ≠ m := by
    rintro rfl
    simp [World.cell?, hb] at h
  unfold World.cell? at h ⊢
  rw [sb_other hne]
  exact h
theorem sb_below {lo m : Nat} {w w1 : World} {o : Obj} (h : Below lo w w1) (hlo : lo ≤ m) : Below lo w (setBlock w1 m o) :=
  h.trans ⟨rfl, rfl, rfl, by rw [sb_size]; exact Nat.le_refl _, fun k hk => sb_other (by omega)⟩
theorem sb_kept (w : World) (m : Nat) (o : Obj) : Kept w (setBlock w m o) (fun k => k = m) := ⟨by rw [sb_size]; exact Nat.le_refl _, fun k _ hn => sb_other hn⟩
theorem sb_alloc {w : World} {m : Nat} {o x : Obj} (h : m < w.heap.size) : setBlock (w.alloc o) m x = (setBlock w m x).alloc o := by
  show ({ w with heap := (w.heap.push o).setIfInBounds m x } : World) = { w with heap := (w.heap.setIfInBounds m x).push o }
  congr 1
  refine Array.ext_getElem? fun k => ?_
  simp only [Array.getElem?_setIfInBounds, Array.getElem?_push, Array.size_push, Array.size_setIfInBounds]
  split <;> split <;> simp_all <;> omega
attribute [local go_sem] wk_look0 wk_look1 wk_entry0 wk_store wk_upd wk_del
set_option maxRecDepth 100000 in
theorem netNew_calls (w : World) : Calls Tryz.prog 20 #[] w fun e w' => e = .returned (.pointer (some ⟨w.heap.size + 1, 0, none⟩)) ∧ w'.heap[w.heap.size + 1]? = some (.cells #[.map (some w.heap.size)] 107 (0, 0)) ∧ w'.heap[w.heap.size]? = some (.map #[] 0) ∧ w'.heap.size = w.heap.size + 2 ∧ Below w.heap.size w w' := by
  have hmm := @run_makeMap Tryz.prog
  go_enter Tryz.func20, Tryz.ntmps20
  go_wp2
  go_ret
  exact ⟨by simp, al_new (al_size _ _), al_old (al_new rfl), by rw [al_size, al_size], below_alloc (below_alloc (Below.refl _ _) _) _⟩
set_option maxRecDepth 100000 in
theorem node_calls (w : World) (n : Nat) (hn : n < 8) : Calls Tryz.prog 77 #[.int .i64 n] w fun e w' => e = .returned (.bool true) ∧ w' = w := by
  have b0 : (0 : Int) ≤ n := by omega
  have b1 : (n : Int) < 8 := by omega
  go_enter Tryz.func77, Tryz.ntmps77
  go_wp2
  go_ret
  exact ⟨rfl, rfl⟩
theorem node0 (w : World) : Calls Tryz.prog 77 #[.int .i64 0] w fun e w' => e = .returned (.bool true) ∧ w' = w := node_calls w 0 (by decide)
theorem node1 (w : World) : Calls Tryz.prog 77 #[.int .i64 1] w fun e w' => e = .returned (.bool true) ∧ w' = w := node_calls w 1 (by decide)
set_option maxRecDepth 100000 in
set_option maxHeartbeats 1000000 in
theorem netCheck_calls (w : World) (n : Nat) : Calls Tryz.prog 55 #[.pointer (some ⟨n, 0, none⟩), .agg #[.int .i64 0, .int .i64 1]] w fun e w' => e = .returned .nilIface ∧ Below w.heap.size w w' := by
  go_enter Tryz.func55, Tryz.ntmps55
  go_wp2_with (first
    | (go_at_call 77; refine (node0 _).mono ?_; rintro e w1 ⟨rfl, hw⟩; subst w1)
    | (go_at_call 77; refine (node1 _).mono ?_; rintro e w1 ⟨rfl, hw⟩; subst w1))
  go_ret
  exact ⟨by simp, below_alloc (Below.refl _ _) _⟩
set_option maxRecDepth 100000 in
set_option maxHeartbeats 2000000 in
theorem netSend_calls (w : World) (lo n m : Nat) (hlo : lo ≤ m) (A : Option Addr) (c : Nat) (p : List UInt8) (hn : w.heap[n]? = some (.cells #[.map (some m)] 107 (0, 0))) (hm : w.heap[m]? = some (.map #[] 0)) (hp : kB.C w A p.length p) (hl : p.length ≤ 1000) :
    Calls Tryz.prog 27 #[.pointer (some ⟨n, 0, none⟩), .int .i64 0, .int .i64 1, .slice A p.length c] w fun e w' => e = .returned .nilIface ∧ (∃ G c, w'.heap[m]? = some (.map #[⟨.agg #[.int .i64 0, .int .i64 1], .slice G 1 c, 0⟩] 1) ∧ kBs.R 68 w' w.heap.size (fun _ => True) (.slice G 1 c) [p]) ∧ Fr w w' lo (fun k => k = m) := by
  have n0 := blk_cell hn 0
  have b0 : (p.length : Int) ≤ 1000 := by omega
  have HP := Aside0.mk hp
  have HL := Lib.hid hl
  clear hp hl
  go_enter Tryz.func27, Tryz.ntmps27
  go_wp2_with (first
    | (go_at_call 55; refine (netCheck_calls _ _).mono ?_; rintro e w1 ⟨rfl, hb⟩; have HB := Aside0.mk hb; clear hb))
  have hs1 : w.heap.size + 1 ≤ w1.heap.size := by have := HB.out.size; rw [al_size] at this; exact this
  have k0 : w1.heap[w.heap.size]? = some (.cells #[.int .i64 0, .int .i64 1] 128 (0, 0)) := (HB.out.block _ (by rw [al_size]; omega)).trans (al_new rfl)
  have k1 : w1.heap[n]? = some (.cells #[.map (some m)] 107 (0, 0)) := (HB.out.block _ (by have := blk_lt hn; rw [al_size]; omega)).trans (al_old hn)
  have k2 : w1.heap[m]? = some (.map #[] 0) := (HB.out.block _ (by have := blk_lt hm; rw [al_size]; omega)).trans (al_old hm)
  have g0 := blk_cell k0 0
  have g1 := blk_cell k0 1
  have n1 := blk_cell k1 0
  simp at n1 g0 g1
  clear n0
  have HB0 := Aside0.mk (show Below w.heap.size w w1 from below_alloc (Below.refl _ _) _ |>.trans (HB.out.mono (by rw [al_size]; omega)))
  have K0 := Lib.hid (And.intro (blk_lt k1) (And.intro (blk_lt k0) (blk_lt k2)))
  have MW2 := Lib.hid (blk_lt hm)
  have K1 := Lib.hid (And.intro (show n ≠ m by rintro rfl; rw [k1] at k2; cases k2) (show w.heap.size ≠ m by have := MW2.out; omega))
  have MW := Lib.hid hlo
  go_quiet (fail)
  go_wp2
  refine wp_region_noPanic ?_
  refine wp_region_held_drew (S := fun wr => wr.cell? ⟨n, 0, none⟩ = some (.map (some m)) ∧ wr.cell? ⟨w.heap.size, 0, none⟩ = some (.int .i64 0) ∧ wr.cell? ⟨w.heap.size, 1, none⟩ = some (.int .i64 1)) (by kernel_rfl) ⟨n1, g0, g1⟩ (fun hHeld => ?_)
  refine wpAnyH_take (i := 0) (v := ?_) rfl (by kernel_rfl) (by kernel_rfl) (by kernel_rfl) (fun _ _ _ h => h) (Or.inl ⟨by rfl, ?_⟩) (by assumption) ?_
  rotate_left 1
  · first | (intro w hSw; go_simp; done) | (intro w hSw; go_simp; with_reducible rfl)
  try simp only [Act.put, List.getElem_toArray, List.getElem_cons_zero, List.getElem_cons_succ, List.setIfInBounds_toArray, List.set_cons_zero, List.set_cons_succ]
  refine wpAnyH_take (i := 1) (v := ?_) rfl (by kernel_rfl) (by kernel_rfl) (by kernel_rfl) (fun _ _ _ h => h) (Or.inl ⟨by rfl, ?_⟩) (by assumption) ?_
  rotate_left 1
  · first | (intro w hSw; go_simp; done) | (intro w hSw; go_simp; with_reducible rfl)
  try simp only [Act.put, List.getElem_toArray, List.getElem_cons_zero, List.getElem_cons_succ, List.setIfInBounds_toArray, List.set_cons_zero, List.set_cons_succ]
  refine wpAnyH_take (i := 2) (v := ?_) rfl (by kernel_rfl) (by kernel_rfl) (by kernel_rfl) (fun _ _ _ h => h) (Or.inl ⟨by rfl, ?_⟩) (by assumption) ?_
  rotate_left 1
  · first | (intro w hSw; go_simp; done) | (intro w hSw; go_simp; with_reducible rfl)
  try simp only [Act.put, List.getElem_toArray, List.getElem_cons_zero, List.getElem_cons_succ, List.setIfInBounds_toArray, List.set_cons_zero, List.set_cons_succ]
  refine wpAnyH_take (i := 3) (v := ?_) rfl (by kernel_rfl) (by kernel_rfl) (by kernel_rfl) (fun _ _ _ h => h) (Or.inl ⟨by rfl, ?_⟩) (by assumption) ?_
  rotate_left 1
  · first | (intro w hSw; obtain ⟨s0, s1, s2⟩ := hSw; go_simp; done) | (intro w hSw; obtain ⟨s0, s1, s2⟩ := hSw; go_simp; with_reducible rfl)
  try simp only [Act.put, List.getElem_toArray, List.getElem_cons_zero, List.getElem_cons_succ, List.setIfInBounds_toArray, List.set_cons_zero, List.set_cons_succ]
  refine wpAnyH_take (i := 4) (v := ?_) rfl (by kernel_rfl) (by kernel_rfl) (by kernel_rfl) (fun _ _ _ h => h) (Or.inl ⟨by rfl, ?_⟩) (by assumption) ?_
  rotate_left 1
  · first | (intro w hSw; obtain ⟨s0, s1, s2⟩ := hSw; go_simp; done) | (intro w hSw; obtain ⟨s0, s1, s2⟩ := hSw; go_simp; with_reducible rfl)
  try simp only [Act.put, List.getElem_toArray, List.getElem_cons_zero, List.getElem_cons_succ, List.setIfInBounds_toArray, List.set_cons_zero, List.set_cons_succ]
  refine wpAnyH_take (i := 5) (v := ?_) rfl (by kernel_rfl) (by kernel_rfl) (by kernel_rfl) (fun _ _ _ h => h) (Or.inl ⟨by rfl, ?_⟩) (by assumption) ?_
  rotate_left 1
  · first | (intro w hSw; go_simp; done) | (intro w hSw; go_simp; with_reducible rfl)
  try simp only [Act.put, List.getElem_toArray, List.getElem_cons_zero, List.getElem_cons_succ, List.setIfInBounds_toArray, List.set_cons_zero, List.set_cons_succ]
  refine wpAnyH_ready (rs := [6]) (by kernel_rfl) (by simp) ?_
  refine AllReadyH.cons rfl (fun K hK => ?_) AllReadyH.nil
  go_simp
  (refine (cloneB_calls _ _ _ p (Kd.C_below HP.out (pw_below_drewN HB0.out _).drew) (by have := HL.out; omega)).mono ?_; intro e w2 hn2; obtain ⟨A1, c1', rfl, hcl, hR, hC, hb⟩ := hn2.open_; have HB2 := Aside0.mk (show Below w.heap.size w w2 from (pw_below_drewN HB0.out _).drew.trans (hb.mono HB0.out.size)); have HR2 := Aside0.mk hR; have HBB := Aside0.mk (show Below w1.heap.size w1 w2 from (pw_below_drewN (Below.refl _ _) _).drew.trans hb); clear hn2 hcl hR hC hb)
  go_simp
  refine hK.out _ _ ⟨keeps HBB.out n1 K0.out.1, keeps HBB.out g0 K0.out.2.1, keeps HBB.out g1 K0.out.2.1⟩ (fun hHeld => ?_)
  clear hK K
  try simp only [Act.put, List.getElem_toArray, List.getElem_cons_zero, List.getElem_cons_succ, List.setIfInBounds_toArray, List.set_cons_zero, List.set_cons_succ]
  refine wpAnyH_ready (rs := [7]) (by kernel_rfl) (by simp) ?_
  refine AllReadyH.cons rfl (fun K hK => ?_) AllReadyH.nil
  go_simp
  skip
  go_simp
  refine hK.out _ _ ⟨keeps (below_alloc HBB.out _) n1 K0.out.1, keeps (below_alloc HBB.out _) g0 K0.out.2.1, keeps (below_alloc HBB.out _) g1 K0.out.2.1⟩ (fun hHeld => ?_)
  clear hK K
  try simp only [Act.put, List.getElem_toArray, List.getElem_cons_zero, List.getElem_cons_succ, List.setIfInBounds_toArray, List.set_cons_zero, List.set_cons_succ]
  have hm2 : w2.heap[m]? = some (.map #[] 0) := (HBB.out.block _ K0.out.2.2).trans k2
  have hm3 : (w2.alloc (.cells #[.slice A1 p.length c1'] 68)).heap[m]? = some (.map #[] 0) := al_old hm2
  have HM4 := Aside0.mk (show kBs.M (setBlock w2 m (.map #[⟨.agg #[.int .i64 0, .int .i64 1], .slice none 0 0, 0⟩] 1)) w.heap.size (fun _ => True) p [.slice A1 p.length c1'] from ⟨_, rfl, Kd.R_mono (Kd.R_step (Kd.R_bound (Kd.R_lower HR2.out HB0.out.size)) (fun k hk _ => sb_other (by have := MW2.out; have := hk.2.1; omega))) (fun _ _ => trivial)⟩)
  refine wpAnyH_ready (rs := [8]) (by kernel_rfl) (by simp) ?_
  refine AllReadyH.cons rfl (fun K hK => ?_) AllReadyH.nil
  go_simp
  skip
  go_simp
  refine hK.out _ _ ⟨sb_cell hm3 (keeps (below_alloc HBB.out _) n1 K0.out.1), sb_cell hm3 (keeps (below_alloc HBB.out _) g0 K0.out.2.1), sb_cell hm3 (keeps (below_alloc HBB.out _) g1 K0.out.2.1)⟩ (fun hHeld => ?_)
  clear hK K
  try simp only [Act.put, List.getElem_toArray, List.getElem_cons_zero, List.getElem_cons_succ, List.setIfInBounds_toArray, List.set_cons_zero, List.set_cons_succ]
  refine wpAnyH_take (i := 9) (v := ?_) rfl (by kernel_rfl) (by kernel_rfl) (by kernel_rfl) (fun _ _ _ h => h) (Or.inl ⟨by rfl, ?_⟩) (by assumption) ?_
  rotate_left 1
  · first | (intro w hSw; go_simp; done) | (intro w hSw; go_simp; with_reducible rfl)
  try simp only [Act.put, List.getElem_toArray, List.getElem_cons_zero, List.getElem_cons_succ, List.setIfInBounds_toArray, List.set_cons_zero, List.set_cons_succ]
  refine wpAnyH_take (i := 11) (v := ?_) rfl (by kernel_rfl) (by kernel_rfl) (by kernel_rfl) (fun _ _ _ h => h) (Or.inl ⟨by rfl, ?_⟩) (by assumption) ?_
  rotate_left 1
  · first | (intro w hSw; go_simp; done) | (intro w hSw; go_simp; with_reducible rfl)
  try simp only [Act.put, List.getElem_toArray, List.getElem_cons_zero, List.getElem_cons_succ, List.setIfInBounds_toArray, List.set_cons_zero, List.set_cons_succ]
  refine wpAnyH_ready (rs := [10]) (by kernel_rfl) (by simp) ?_
  refine AllReadyH.cons rfl (fun K hK => ?_) AllReadyH.nil
  (rw [sb_alloc (blk_lt hm2)]; refine Kd.R_append_step kBs (w0 := setBlock w2 m (.map #[⟨.agg #[.int .i64 0, .int .i64 1], .slice none 0 0, 0⟩] 1)) w.heap.size rfl _ _ 79 68 (.slice none 0 0) 24 rfl Tryz.underlying79 info6 rfl (by decide) (by decide) (.slice none 0 0) [] p [.slice A1 p.length c1'] (fun _ => True) (fun _ => True) rfl (by rw [sb_size]; rfl) HM4.out (fun k _ => ⟨trivial, by simp [Value.ownBlock]⟩) (fun _ _ => trivial) (Kd.R_nil _ _ _ _ _) (Below.refl _ _) (by rw [sb_size]; exact HB2.out.size) (by decide) ?_; intro v1 w4 hr4 hb4 hg4 hat4; obtain ⟨A4, c4, rfl⟩ := Kd.R_slice hr4; have hm4 : w4.heap[m]? = some (.map #[⟨.agg #[.int .i64 0, .int .i64 1], .slice none 0 0, 0⟩] 1) := (hg4.block m (by rw [sb_size]; exact blk_lt hm2) (by simp [Value.ownBlock])).trans (sb_same hm2); have HR4 := Aside0.mk hr4; have HB4 := Aside0.mk ((HB2.out.mono (Nat.le_trans MW.out (Nat.le_of_lt MW2.out))).trans (sb_below (Below.refl _ _) MW.out |>.trans (hb4.mono (Nat.le_trans MW.out (Nat.le_of_lt MW2.out))))); have HK4 := Lib.hid (show ∀ k, k < w1.heap.size → k ≠ m → w4.heap[k]? = w1.heap[k]? from fun k hk hn => (hg4.block k (by rw [sb_size]; exact Nat.lt_of_lt_of_le hk HBB.out.size) (by simp [Value.ownBlock])).trans ((sb_other hn).trans (HBB.out.block k hk))); clear hr4 hb4 hg4 hat4)
  refine hK.out _ _ ⟨blk_cell ((HK4.out n K0.out.1 K1.out.1).trans k1) 0, blk_cell ((HK4.out w.heap.size K0.out.2.1 K1.out.2).trans k0) 0, blk_cell ((HK4.out w.heap.size K0.out.2.1 K1.out.2).trans k0) 1⟩ (fun hHeld => ?_)
  clear hK K
  try simp only [Act.put, List.getElem_toArray, List.getElem_cons_zero, List.getElem_cons_succ, List.setIfInBounds_toArray, List.set_cons_zero, List.set_cons_succ]
  refine wpAnyH_ready (rs := [12]) (by kernel_rfl) (by simp) ?_
  refine AllReadyH.cons rfl (fun K hK => ?_) AllReadyH.nil
  go_simp
  rw [wk_store hm4]
  go_simp
  refine hK.out _ _ ⟨sb_cell hm4 (blk_cell ((HK4.out n K0.out.1 K1.out.1).trans k1) 0), sb_cell hm4 (blk_cell ((HK4.out w.heap.size K0.out.2.1 K1.out.2).trans k0) 0), sb_cell hm4 (blk_cell ((HK4.out w.heap.size K0.out.2.1 K1.out.2).trans k0) 1)⟩ (fun hHeld => ?_)
  clear hK K
  try simp only [Act.put, List.getElem_toArray, List.getElem_cons_zero, List.getElem_cons_succ, List.setIfInBounds_toArray, List.set_cons_zero, List.set_cons_succ]
  refine wpAnyH_done (by kernel_rfl) ?_ _
  refine NoPanic.normal ?_
  go_wp2
  go_ret
  refine ⟨by simp, ⟨A4, c4, sb_same hm4, ?_⟩, sb_below HB4.out MW.out, ?_⟩
  · exact Kd.R_mono (Kd.R_step (Kd.R_bound HR4.out) (fun k hk _ => sb_other (by have := MW2.out; have := hk.2.1; omega))) (fun _ _ => trivial)
  · refine ⟨by rw [sb_size]; exact HB4.out.size, fun k hk hn => (sb_other hn).trans ((HK4.out k (Nat.lt_of_lt_of_le hk HB0.out.size) hn).trans (HB0.out.block k hk))⟩
end Go.Proofs.YtadaoplmicghcaaGreatDoor.Aw
namespace Go.Proofs.YtadaoplmicghcaaGreatDoor.Aw
open Go.RowKit Go.ChangeMaps Go.Proofs.YtadaoplmicghcaaGreatDoor.Lk Go.Proofs.YtadaoplmicghcaaGreatDoorW.PrintWords Go.Proofs.YtadaoplmicghcaaGreatDoorW.PrintLast Go.Proofs.YtadaoplmicghcaaGreatDoorW.PrintMore
set_option linter.unusedVariables false
set_option linter.unusedSimpArgs false
attribute [local go_sem] wk_look0 wk_look1 wk_entry0 wk_store wk_upd wk_del
set_option maxRecDepth 100000 in
set_option maxHeartbeats 1000000 in
theorem netPlace_calls (w : World) (n m : Nat) (G : Option Addr) (c : Nat) (hn : w.heap[n]? = some (.cells #[.map (some m)] 107 (0, 0))) (hm : w.heap[m]? = some (.map #[⟨.agg #[.int .i64 0, .int .i64 1], .slice G 1 c, 0⟩] 1)) :
    Calls Tryz.prog 57 #[.pointer (some ⟨n, 0, none⟩), .agg #[.int .i64 0, .int .i64 1], .int .i64 0] w fun e w' => e = .returned .nilIface ∧ Below w.heap.size w w' := by
  have ln := blk_lt hn
  have lm := blk_lt hm
  go_enter Tryz.func57, Tryz.ntmps57
  go_wp2_with (first
    | (go_at_call 55; refine (netCheck_calls _ _).mono ?_; rintro e w1 ⟨rfl, hb⟩; have HB := Aside0.mk hb; clear hb))
  have k0 : w1.heap[w.heap.size]? = some (.cells #[.int .i64 0, .int .i64 1] 128 (0, 0)) := (HB.out.block _ (by rw [al_size]; omega)).trans (al_new rfl)
  have k1 : w1.heap[n]? = some (.cells #[.map (some m)] 107 (0, 0)) := (HB.out.block _ (by rw [al_size]; omega)).trans (al_old hn)
  have k2 : w1.heap[m]? = some (.map #[⟨.agg #[.int .i64 0, .int .i64 1], .slice G 1 c, 0⟩] 1) := (HB.out.block _ (by rw [al_size]; omega)).trans (al_old hm)
  have g0 := blk_cell k0 0
  have g1 := blk_cell k0 1
  have n1 := blk_cell k1 0
  simp at n1 g0 g1
  have hlk := wk_look1 (W := w1.drew) k2
  go_region
  go_wp2
  go_ret
  exact ⟨by simp, (below_alloc (Below.refl _ _) _ |>.trans (HB.out.mono (by rw [al_size]; omega)) : Below w.heap.size w w1).drew⟩
set_option maxRecDepth 100000 in
set_option maxHeartbeats 1000000 in
theorem delete_calls (w : World) (lo g c : Nat) (cur : Array Value) (u : Value) (hg : w.heap[g]? = some (.cells cur 68 (0, 0))) (h0 : cur[0]? = some u) (hlo : lo ≤ g) (hc : 1 ≤ c) (hc2 : c ≤ 9223372036854775807) :
    Calls Tryz.prog 58 #[.slice (some ⟨g, 0, none⟩) 1 c, .int .i64 0, .int .i64 1] w fun e w' => e = .returned (.slice (some ⟨g, 0, none⟩) 0 c) ∧ Fr w w' lo (fun k => k = g) := by
  have c0 : w.cell? ⟨g, 0, none⟩ = some u := by rw [blk_cell hg 0]; exact h0
  have z0 := blk_frozen hg 0
  have zero68 : ∀ W : World, (zeroValue 68).run Tryz.prog W = .ok (.slice none 0 0) W := fun W => by kernel_rfl
  have hclr : ∀ (ty : TypeId) (d : Nat), (Builtin.clear_ #[79] ty #[.slice (some ⟨g, 0, none⟩) 1 d]).run Tryz.prog w.drew = .ok (.tuple #[]) (w.drew.setCell ⟨g, 0, none⟩ (.slice none 0 0)) := fun ty d => by
    have q1 : ∀ j, j < 1 → (w.drew.cell? ⟨g, 0 + j, none⟩).isSome = true := fun j hj => by
      obtain rfl : j = 0 := by omega
      rw [show w.drew.cell? ⟨g, 0 + 0, none⟩ = some u from c0]
      rfl
    have q2 : ∀ j, j < 1 → w.drew.frozen? ⟨g, 0 + j, none⟩ = false := fun j hj => by
      obtain rfl : j = 0 := by omega
      exact z0
    have := Lib.run_clear_slice (P := Tryz.prog) w.drew 79 68 ty (.slice none 0 0) Tryz.underlying79 zero68 rfl rfl g 0 1 d (by decide) q1 q2
    simpa [World.setCells] using this
  rcases Nat.eq_or_lt_of_le hc with rfl | hc1
  · go_enter Tryz.func58, Tryz.ntmps58
    go_wp2
    go_region
    go_wp2
    go_ret
    exact ⟨by simp, ((Fr.refl w lo _).drewN 1 (by have := blk_lt hg; omega)).set _ _ (.inl rfl) hlo⟩
  · have hne : ¬ c = 1 := by omega
    go_enter Tryz.func58, Tryz.ntmps58
    go_wp2
    go_region
    go_wp2
    go_ret
    exact ⟨by simp, ((Fr.refl w lo _).drewN 1 (by have := blk_lt hg; omega)).set _ _ (.inl rfl) hlo⟩
end Go.Proofs.YtadaoplmicghcaaGreatDoor.Aw
namespace Go.Proofs.YtadaoplmicghcaaGreatDoor.Aw
open Go.RowKit Go.ChangeMaps Go.Proofs.YtadaoplmicghcaaGreatDoor.Lk Go.Proofs.YtadaoplmicghcaaGreatDoorW.PrintWords Go.Proofs.YtadaoplmicghcaaGreatDoorW.PrintLast Go.Proofs.YtadaoplmicghcaaGreatDoorW.PrintMore
set_option linter.unusedVariables false
set_option linter.unusedSimpArgs false
set_option maxRecDepth 100000 in
set_option maxHeartbeats 4000000 in
theorem netDeliver_calls (w : World) (lo n m g c : Nat) (cur : Array Value) (A : Option Addr) (c0 : Nat) (p : List UInt8) (hn : w.heap[n]? = some (.cells #[.map (some m)] 107 (0, 0))) (hm : w.heap[m]? = some (.map #[⟨.agg #[.int .i64 0, .int .i64 1], .slice (some ⟨g, 0, none⟩) 1 c, 0⟩] 1))
    (hg : w.heap[g]? = some (.cells cur 68 (0, 0))) (h0 : cur[0]? = some (.slice A p.length c0)) (hR : kB.R 5 w lo (fun k => k ≠ g) (.slice A p.length c0) p) (hlo : lo ≤ g) (hlm : lo ≤ m) (hc : 1 ≤ c) (hc2 : c ≤ 9223372036854775807) :
    Calls Tryz.prog 28 #[.pointer (some ⟨n, 0, none⟩), .int .i64 0, .int .i64 1, .int .i64 0] w fun e w' => e = .returned (.tuple #[.slice A p.length c0, .nilIface]) ∧ kB.C w' A p.length p ∧ Fr w w' lo (fun k => k = m ∨ k = g) := by
  have ln := blk_lt hn
  have lm := blk_lt hm
  have lg := blk_lt hg
  have HC := Lib.hid hc
  have HC2 := Lib.hid hc2
  clear hc hc2
  go_enter Tryz.func28, Tryz.ntmps28
  go_wp2_with (first
    | (go_at_call 57; refine (netPlace_calls _ n m (some ⟨g, 0, none⟩) c (al_old hn) (al_old hm)).mono ?_; rintro e w1 ⟨rfl, hb⟩; have HB := Aside0.mk hb; clear hb))
  have k0 : w1.heap[w.heap.size]? = some (.cells #[.int .i64 0, .int .i64 1] 128 (0, 0)) := (HB.out.block _ (by rw [al_size]; omega)).trans (al_new rfl)
  have k1 : w1.heap[n]? = some (.cells #[.map (some m)] 107 (0, 0)) := (HB.out.block _ (by rw [al_size]; omega)).trans (al_old hn)
  have k2 : w1.heap[m]? = some (.map #[⟨.agg #[.int .i64 0, .int .i64 1], .slice (some ⟨g, 0, none⟩) 1 c, 0⟩] 1) := (HB.out.block _ (by rw [al_size]; omega)).trans (al_old hm)
  have k3 : w1.heap[g]? = some (.cells cur 68 (0, 0)) := (HB.out.block _ (by rw [al_size]; omega)).trans (al_old hg)
  have g0 := blk_cell k0 0
  have g1 := blk_cell k0 1
  have n1 := blk_cell k1 0
  have a0 : w1.cell? ⟨g, 0, none⟩ = some (.slice A p.length c0) := by rw [blk_cell k3 0]; exact h0
  simp at n1 g0 g1
  have K0 := Lib.hid (And.intro (blk_lt k1) (And.intro (blk_lt k0) (blk_lt k2)))
  have K3 := Lib.hid (blk_lt k3)
  have K1 := Lib.hid (And.intro (show n ≠ g by rintro rfl; rw [k1] at k3; cases k3) (And.intro (show w.heap.size ≠ g by omega) (show m ≠ g by rintro rfl; rw [k2] at k3; cases k3)))
  have hlk := wk_look1 (W := w1.drew) k2
  clear ln lm
  go_region
  clear hlk
  go_wp2
  refine wp_region_noPanic ?_
  refine wp_region_held_drew (S := fun wr => wr.cell? ⟨n, 0, none⟩ = some (.map (some m)) ∧ wr.cell? ⟨w.heap.size, 0, none⟩ = some (.int .i64 0) ∧ wr.cell? ⟨w.heap.size, 1, none⟩ = some (.int .i64 1)) (by kernel_rfl) ⟨n1, g0, g1⟩ (fun hHeld => ?_)
  refine wpAnyH_take (i := 0) (v := ?_) rfl (by kernel_rfl) (by kernel_rfl) (by kernel_rfl) (fun _ _ _ h => h) (Or.inl ⟨by rfl, ?_⟩) (by assumption) ?_
  rotate_left 1
  · first | (intro w hSw; go_simp; done) | (intro w hSw; go_simp; with_reducible rfl)
  try simp only [Act.put, List.getElem_toArray, List.getElem_cons_zero, List.getElem_cons_succ, List.setIfInBounds_toArray, List.set_cons_zero, List.set_cons_succ]
  refine wpAnyH_take (i := 1) (v := ?_) rfl (by kernel_rfl) (by kernel_rfl) (by kernel_rfl) (fun _ _ _ h => h) (Or.inl ⟨by rfl, ?_⟩) (by assumption) ?_
  rotate_left 1
  · first | (intro w hSw; go_simp; done) | (intro w hSw; go_simp; with_reducible rfl)
  try simp only [Act.put, List.getElem_toArray, List.getElem_cons_zero, List.getElem_cons_succ, List.setIfInBounds_toArray, List.set_cons_zero, List.set_cons_succ]
  refine wpAnyH_take (i := 2) (v := ?_) rfl (by kernel_rfl) (by kernel_rfl) (by kernel_rfl) (fun _ _ _ h => h) (Or.inl ⟨by rfl, ?_⟩) (by assumption) ?_
  rotate_left 1
  · first | (intro w hSw; go_simp; done) | (intro w hSw; go_simp; with_reducible rfl)
  try simp only [Act.put, List.getElem_toArray, List.getElem_cons_zero, List.getElem_cons_succ, List.setIfInBounds_toArray, List.set_cons_zero, List.set_cons_succ]
  refine wpAnyH_take (i := 3) (v := ?_) rfl (by kernel_rfl) (by kernel_rfl) (by kernel_rfl) (fun _ _ _ h => h) (Or.inl ⟨by rfl, ?_⟩) (by assumption) ?_
  rotate_left 1
  · first | (intro w hSw; obtain ⟨s0, s1, s2⟩ := hSw; go_simp; done) | (intro w hSw; obtain ⟨s0, s1, s2⟩ := hSw; go_simp; with_reducible rfl)
  try simp only [Act.put, List.getElem_toArray, List.getElem_cons_zero, List.getElem_cons_succ, List.setIfInBounds_toArray, List.set_cons_zero, List.set_cons_succ]
  refine wpAnyH_take (i := 4) (v := ?_) rfl (by kernel_rfl) (by kernel_rfl) (by kernel_rfl) (fun _ _ _ h => h) (Or.inl ⟨by rfl, ?_⟩) (by assumption) ?_
  rotate_left 1
  · first | (intro w hSw; obtain ⟨s0, s1, s2⟩ := hSw; go_simp; done) | (intro w hSw; obtain ⟨s0, s1, s2⟩ := hSw; go_simp; with_reducible rfl)
  try simp only [Act.put, List.getElem_toArray, List.getElem_cons_zero, List.getElem_cons_succ, List.setIfInBounds_toArray, List.set_cons_zero, List.set_cons_succ]
  refine wpAnyH_take (i := 5) (v := ?_) rfl (by kernel_rfl) (by kernel_rfl) (by kernel_rfl) (fun _ _ _ h => h) (Or.inl ⟨by rfl, ?_⟩) (by assumption) ?_
  rotate_left 1
  · first | (intro w hSw; go_simp; done) | (intro w hSw; go_simp; with_reducible rfl)
  try simp only [Act.put, List.getElem_toArray, List.getElem_cons_zero, List.getElem_cons_succ, List.setIfInBounds_toArray, List.set_cons_zero, List.set_cons_succ]
  refine wpAnyH_take (i := 6) (v := ?_) rfl (by kernel_rfl) (by kernel_rfl) (by kernel_rfl) (fun _ _ _ h => h) (Or.inl ⟨by rfl, ?_⟩) (by assumption) ?_
  rotate_left 1
  · first | (intro w hSw; go_simp; done) | (intro w hSw; go_simp; with_reducible rfl)
  try simp only [Act.put, List.getElem_toArray, List.getElem_cons_zero, List.getElem_cons_succ, List.setIfInBounds_toArray, List.set_cons_zero, List.set_cons_succ]
  refine wpAnyH_take (i := 7) (v := ?_) rfl (by kernel_rfl) (by kernel_rfl) (by kernel_rfl) (fun _ _ _ h => h) (Or.inl ⟨by rfl, ?_⟩) (by assumption) ?_
  rotate_left 1
  · first | (intro w hSw; go_simp; done) | (intro w hSw; go_simp; with_reducible rfl)
  try simp only [Act.put, List.getElem_toArray, List.getElem_cons_zero, List.getElem_cons_succ, List.setIfInBounds_toArray, List.set_cons_zero, List.set_cons_succ]
  refine wpAnyH_take (i := 8) (v := ?_) rfl (by kernel_rfl) (by kernel_rfl) (by kernel_rfl) (fun _ _ _ h => h) (Or.inl ⟨by rfl, ?_⟩) (by assumption) ?_
  rotate_left 1
  · first | (intro w hSw; obtain ⟨s0, s1, s2⟩ := hSw; go_simp; done) | (intro w hSw; obtain ⟨s0, s1, s2⟩ := hSw; go_simp; with_reducible rfl)
  try simp only [Act.put, List.getElem_toArray, List.getElem_cons_zero, List.getElem_cons_succ, List.setIfInBounds_toArray, List.set_cons_zero, List.set_cons_succ]
  refine wpAnyH_take (i := 9) (v := ?_) rfl (by kernel_rfl) (by kernel_rfl) (by kernel_rfl) (fun _ _ _ h => h) (Or.inl ⟨by rfl, ?_⟩) (by assumption) ?_
  rotate_left 1
  · first | (intro w hSw; obtain ⟨s0, s1, s2⟩ := hSw; go_simp; done) | (intro w hSw; obtain ⟨s0, s1, s2⟩ := hSw; go_simp; with_reducible rfl)
  try simp only [Act.put, List.getElem_toArray, List.getElem_cons_zero, List.getElem_cons_succ, List.setIfInBounds_toArray, List.set_cons_zero, List.set_cons_succ]
  refine wpAnyH_take (i := 11) (v := ?_) rfl (by kernel_rfl) (by kernel_rfl) (by kernel_rfl) (fun _ _ _ h => h) (Or.inl ⟨by rfl, ?_⟩) (by assumption) ?_
  rotate_left 1
  · first | (intro w hSw; go_simp; done) | (intro w hSw; go_simp; with_reducible rfl)
  try simp only [Act.put, List.getElem_toArray, List.getElem_cons_zero, List.getElem_cons_succ, List.setIfInBounds_toArray, List.set_cons_zero, List.set_cons_succ]
  refine wpAnyH_take (i := 12) (v := ?_) rfl (by kernel_rfl) (by kernel_rfl) (by kernel_rfl) (fun _ _ _ h => h) (Or.inl ⟨by rfl, ?_⟩) (by assumption) ?_
  rotate_left 1
  · first | (intro w hSw; go_simp; done) | (intro w hSw; go_simp; with_reducible rfl)
  try simp only [Act.put, List.getElem_toArray, List.getElem_cons_zero, List.getElem_cons_succ, List.setIfInBounds_toArray, List.set_cons_zero, List.set_cons_succ]
  refine wpAnyH_take (i := 13) (v := ?_) rfl (by kernel_rfl) (by kernel_rfl) (by kernel_rfl) (fun _ _ _ h => h) (Or.inl ⟨by rfl, ?_⟩) (by assumption) ?_
  rotate_left 1
  · first | (intro w hSw; go_simp; done) | (intro w hSw; go_simp; with_reducible rfl)
  try simp only [Act.put, List.getElem_toArray, List.getElem_cons_zero, List.getElem_cons_succ, List.setIfInBounds_toArray, List.set_cons_zero, List.set_cons_succ]
  refine wpAnyH_ready (rs := [10]) (by kernel_rfl) (by simp) ?_
  refine AllReadyH.cons rfl (fun K hK => ?_) AllReadyH.nil
  go_simp
  have s4 := wk_look1 (W := w1.drew.drew) k2; rw [s4]; clear s4
  go_simp
  refine hK.out _ _ ⟨n1, g0, g1⟩ (fun hHeld => ?_)
  clear hK K
  try simp only [Act.put, List.getElem_toArray, List.getElem_cons_zero, List.getElem_cons_succ, List.setIfInBounds_toArray, List.set_cons_zero, List.set_cons_succ]
  refine wpAnyH_ready (rs := [14]) (by kernel_rfl) (by simp) ?_
  refine AllReadyH.cons rfl (fun K hK => ?_) AllReadyH.nil
  go_simp
  (rw [show IntKind.i64.wrap 1 = 1 from by decide]; refine (delete_calls w1.drew.drew lo g c cur _ k3 h0 hlo HC.out HC2.out).mono ?_; rintro e w2 ⟨rfl, hf⟩; have HF := Aside0.mk (show Fr w1 w2 lo (fun k => k = g) from ((Fr.refl w1 lo (fun k => k = g)).drewN 2 (Nat.le_of_lt (Nat.lt_of_le_of_lt hlo K3.out))).trans hf (fun k hk => .inl hk)); clear hf)
  go_simp
  refine hK.out _ _ ⟨blk_cell ((HF.out.kept.2 n K0.out.1 K1.out.1).trans k1) 0, blk_cell ((HF.out.kept.2 w.heap.size K0.out.2.1 K1.out.2.1).trans k0) 0, blk_cell ((HF.out.kept.2 w.heap.size K0.out.2.1 K1.out.2.1).trans k0) 1⟩ (fun hHeld => ?_)
  clear hK K
  try simp only [Act.put, List.getElem_toArray, List.getElem_cons_zero, List.getElem_cons_succ, List.setIfInBounds_toArray, List.set_cons_zero, List.set_cons_succ]
  have hm2 : w2.heap[m]? = some (.map #[⟨.agg #[.int .i64 0, .int .i64 1], .slice (some ⟨g, 0, none⟩) 1 c, 0⟩] 1) := (HF.out.kept.2 m K0.out.2.2 K1.out.2.2).trans k2
  refine wpAnyH_ready (rs := [15]) (by kernel_rfl) (by simp) ?_
  refine AllReadyH.cons rfl (fun K hK => ?_) AllReadyH.nil
  go_simp
  rw [wk_upd hm2]
  go_simp
  refine hK.out _ _ ⟨sb_cell hm2 (blk_cell ((HF.out.kept.2 n K0.out.1 K1.out.1).trans k1) 0), sb_cell hm2 (blk_cell ((HF.out.kept.2 w.heap.size K0.out.2.1 K1.out.2.1).trans k0) 0), sb_cell hm2 (blk_cell ((HF.out.kept.2 w.heap.size K0.out.2.1 K1.out.2.1).trans k0) 1)⟩ (fun hHeld => ?_)
  clear hK K
  try simp only [Act.put, List.getElem_toArray, List.getElem_cons_zero, List.getElem_cons_succ, List.setIfInBounds_toArray, List.set_cons_zero, List.set_cons_succ]
  refine wpAnyH_done (by kernel_rfl) ?_ _
  refine NoPanic.normal ?_
  obtain ⟨w3, hw3⟩ : ∃ w3, w3 = setBlock w2 m (.map #[⟨.agg #[.int .i64 0, .int .i64 1], .slice (some ⟨g, 0, none⟩) 0 c, 0⟩] 1) := ⟨_, rfl⟩
  rw [← hw3]
  have HF3 := Aside0.mk (show Fr w w3 lo (fun k => k = m ∨ k = g) from by
    have f1 : Fr w w1 lo (fun k => k = m ∨ k = g) := Fr.of (below_alloc (Below.refl _ _) _ |>.trans (HB.out.mono (by rw [al_size]; omega))) (by omega)
    have f2 := f1.trans HF.out (fun k hk => .inl (.inr hk))
    rw [hw3]
    exact ⟨sb_below f2.below hlm, f2.kept.then_ (sb_kept _ _ _) (fun k hk => .inl (.inl hk))⟩)
  have m3 : w3.heap[m]? = some (.map #[⟨.agg #[.int .i64 0, .int .i64 1], .slice (some ⟨g, 0, none⟩) 0 c, 0⟩] 1) := by rw [hw3]; exact sb_same hm2
  have q0 : w3.cell? ⟨n, 0, none⟩ = some (.map (some m)) := by rw [hw3]; exact sb_cell hm2 (blk_cell ((HF.out.kept.2 n K0.out.1 K1.out.1).trans k1) 0)
  have q1 : w3.cell? ⟨w.heap.size, 0, none⟩ = some (.int .i64 0) := by rw [hw3]; exact sb_cell hm2 (blk_cell ((HF.out.kept.2 w.heap.size K0.out.2.1 K1.out.2.1).trans k0) 0)
  have q2 : w3.cell? ⟨w.heap.size, 1, none⟩ = some (.int .i64 1) := by rw [hw3]; exact sb_cell hm2 (blk_cell ((HF.out.kept.2 w.heap.size K0.out.2.1 K1.out.2.1).trans k0) 1)
  clear n1 g0 g1 a0 hw3 hm2
  have hlk := wk_look1 (W := w3.drew) m3
  have hdl := fun ty => wk_del (W := w3.drew.drew) ty m3
  go_wp2
  go_region
  clear hlk
  go_wp2
  go_region
  clear hdl
  go_wp2
  go_ret2
  have hk : ∀ k, k ≠ g → k ≠ m → k < w.heap.size → (setBlock w3.drew.drew m (.map #[] 1)).heap[k]? = w.heap[k]? := fun k h1 h2 h3 => (sb_other h2).trans (HF3.out.kept.2 k h3 (fun h => h.elim h2 h1))
  have hC : kB.C (setBlock w3.drew.drew m (.map #[] 1)) A p.length p := by
    refine (Kd.R_reads' (Kd.R_step (Kd.R_bound hR) (fun k hk2 hl => hk k hk2.1 ?_ hl))).2.2
    rintro rfl
    obtain ⟨_, _, _, q, hq, cells, hcl⟩ := hk2
    rw [hm] at hcl
    cases hcl
  have f3 : Fr w w3.drew.drew lo (fun k => k = m ∨ k = g) := HF3.out.drewN 2 (by omega)
  exact ⟨by simp, hC, sb_below f3.below hlm, f3.kept.then_ (sb_kept _ _ _) (fun k hk => .inl (.inl hk))⟩
end Go.Proofs.YtadaoplmicghcaaGreatDoor.Aw
namespace Go.Proofs.YtadaoplmicghcaaGreatDoor.Aw
open Go.RowKit Go.ChangeMaps Go.Proofs.YtadaoplmicghcaaGreatDoor.Lk Go.Proofs.YtadaoplmicghcaaGreatDoorW.PrintWords Go.Proofs.YtadaoplmicghcaaGreatDoorW.PrintLast Go.Proofs.YtadaoplmicghcaaGreatDoorW.PrintMore
set_option linter.unusedVariables false
set_option linter.unusedSimpArgs false
/-- A batch of one put, of the key [1], in the block s. -/
structure Bt (w : World) (s k : Nat) : Prop where
  row : w.heap[s]? = some (.cells #[.slice (some ⟨k, 0, none⟩) 1 1, .slice none 0 0, .bool false] 72 (0, 0))
  key : w.heap[k]? = some (.cells #[.int .u8 1] 5 (0, 0))
theorem Bt.below {w w' : World} {s k : Nat} (z : Bt w s k) (h : Below w.heap.size w w') : Bt w' s k := ⟨(h.block _ (blk_lt z.row)).trans z.row, (h.block _ (blk_lt z.key)).trans z.key⟩
theorem Bt.keyC {w : World} {s k : Nat} (z : Bt w s k) : kB.C w (some ⟨k, 0, none⟩) 1 [1] := by
  refine Kd.C_of_reads (enc := encB) (d := 0) ⟨rfl, by decide, fun _ => ⟨_, rfl, fun j hj => ?_⟩⟩
  obtain rfl : j = 0 := by simpa using hj
  exact blk_cell z.key 0
set_option maxRecDepth 100000 in
set_option maxHeartbeats 1000000 in
theorem kvCheck_calls (w : World) (s k : Nat) (z : Bt w s k) :
    Calls Tryz.prog 48 #[.slice (some ⟨s, 0, none⟩) 1 1] w fun e w' => e = .returned .nilIface ∧ Below w.heap.size w w' := by
  have HZ := Aside0.mk z
  clear z
  go_enter Tryz.func48, Tryz.ntmps48
  go_wp2
  go_loopw [13] (fun v wr => (v = .int .i64 0 ∨ v = .int .i64 1) ∧ Below w.heap.size w wr) (fun v _ => 1 - (intOf v).toNat)
  case atStart => exact ⟨.inl rfl, Below.refl _ _⟩
  case round =>
    obtain ⟨hv, hb⟩ := hrel
    have hz := HZ.out.below hb
    have c0 := blk_cell hz.row 0
    have c1 := blk_cell hz.row 1
    have c2 := blk_cell hz.row 2
    have HB := Aside0.mk hb
    simp at c0 c1 c2
    clear hb hz
    rcases hv with rfl | rfl
    · go_wp2
      go_roundw
      case rel => exact ⟨.inr rfl, below_alloc HB.out _⟩
      case measure => simp [intOf]
    · go_wp2
      clear c0 c1 c2
      go_loopw [34] (fun v wr => (v = .int .i64 0 ∨ v = .int .i64 1) ∧ Below w.heap.size w wr) (fun v _ => 1 - (intOf v).toNat)
      case atStart => exact ⟨.inl rfl, HB.out⟩
      case round =>
        obtain ⟨hv, hb⟩ := hrel
        have hz := HZ.out.below hb
        have c0 := blk_cell hz.row 0
        have c1 := blk_cell hz.row 1
        have c2 := blk_cell hz.row 2
        have HB := Aside0.mk hb
        simp at c0 c1 c2
        clear hb hz
        rcases hv with rfl | rfl
        · go_wp2
          go_roundw
          case rel => exact ⟨.inr rfl, below_alloc HB.out _⟩
          case measure => simp [intOf]
        · go_wp2
          go_ret
          exact ⟨by simp, HB.out⟩
theorem C_none (w : World) : kB.C w none ([] : List UInt8).length [] := (Kd.R_reads' (Kd.R_nil kB 5 w 0 (fun _ => True))).2.2
set_option maxRecDepth 100000 in
set_option maxHeartbeats 2000000 in
theorem pack_calls (w : World) (s k : Nat) (z : Bt w s k) :
    Calls Tryz.prog 49 #[.slice (some ⟨s, 0, none⟩) 1 1] w fun e w' => ∃ A c, e = .returned (.slice A 4 c) ∧ kB.R 5 w' w.heap.size (fun _ => True) (.slice A 4 c) [0, 1, 1, 0] ∧ Below w.heap.size w w' := by
  have HZ := Aside0.mk z
  clear z
  go_enter Tryz.func49, Tryz.ntmps49
  go_wp2
  go_loopw [3, 9] (fun b v wr => ((v = .int .i64 0 ∧ b = .slice none 0 0) ∨ (v = .int .i64 1 ∧ ∃ A c, b = .slice A 4 c ∧ kB.R 5 wr w.heap.size (fun _ => True) (.slice A 4 c) [0, 1, 1, 0])) ∧ Below w.heap.size w wr) (fun _ v _ => 1 - (intOf v).toNat)
  case atStart => exact ⟨.inl ⟨rfl, rfl⟩, Below.refl _ _⟩
  case round =>
    obtain ⟨hv, hb⟩ := hrel
    have hz := HZ.out.below hb
    have c0 := blk_cell hz.row 0
    have c1 := blk_cell hz.row 1
    have c2 := blk_cell hz.row 2
    have HK := Aside0.mk hz.keyC
    have HB := Aside0.mk hb
    simp at c0 c1 c2
    clear hb hz
    rcases hv with ⟨rfl, rfl⟩ | ⟨rfl, A, c, rfl, hR⟩
    · have d0 : (wr.alloc (.cells #[.slice (some ⟨k, 0, none⟩) 1 1, .slice none 0 0, .bool false] 72)).cell? ⟨wr.heap.size, 0, none⟩ = some (.slice (some ⟨k, 0, none⟩) 1 1) := blk_cell (blk_new _ _) 0
      have d1 : (wr.alloc (.cells #[.slice (some ⟨k, 0, none⟩) 1 1, .slice none 0 0, .bool false] 72)).cell? ⟨wr.heap.size, 1, none⟩ = some (.slice none 0 0) := blk_cell (blk_new _ _) 1
      have SZ := Lib.hid (show wr.heap.size < (wr.alloc (.cells #[.slice (some ⟨k, 0, none⟩) 1 1, .slice none 0 0, .bool false] 72)).heap.size by rw [al_size]; omega)
      have E0 := Lib.hid (show ([] : List UInt8) ++ uintsF 0 = [0] by simp [uintsF_small])
      have E1 := Lib.hid (show [0] ++ uintsF ([1] : List UInt8).length ++ [1] = [0, 1, 1] by simp [uintsF_small])
      have E2 := Lib.hid (show [0, 1, 1] ++ uintsF ([] : List UInt8).length ++ [] = [0, 1, 1, 0] by simp [uintsF_small])
      have HBr := Aside0.mk (below_alloc (Below.refl wr.heap.size wr) (.cells #[.slice (some ⟨k, 0, none⟩) 1 1, .slice none 0 0, .bool false] 72))
      go_wp2
      refine wp_region_noPanic ?_
      refine wp_region_held_drew (S := fun wx => wx.cell? ⟨wr.heap.size, 0, none⟩ = some (.slice (some ⟨k, 0, none⟩) 1 1) ∧ wx.cell? ⟨wr.heap.size, 1, none⟩ = some (.slice none 0 0)) (by kernel_rfl) ⟨d0, d1⟩ (fun hHeld => ?_)
      refine wpAnyH_take (i := 0) (v := ?_) rfl (by kernel_rfl) (by kernel_rfl) (by kernel_rfl) (fun _ _ _ h => h) (Or.inl ⟨by rfl, ?_⟩) (by assumption) ?_
      rotate_left 1
      · first | (intro w hSw; go_simp; done) | (intro w hSw; go_simp; with_reducible rfl)
      try simp only [Act.put, List.getElem_toArray, List.getElem_cons_zero, List.getElem_cons_succ, List.setIfInBounds_toArray, List.set_cons_zero, List.set_cons_succ]
      refine wpAnyH_take (i := 1) (v := ?_) rfl (by kernel_rfl) (by kernel_rfl) (by kernel_rfl) (fun _ _ _ h => h) (Or.inl ⟨by rfl, ?_⟩) (by assumption) ?_
      rotate_left 1
      · first | (intro w hSw; go_simp; done) | (intro w hSw; go_simp; with_reducible rfl)
      try simp only [Act.put, List.getElem_toArray, List.getElem_cons_zero, List.getElem_cons_succ, List.setIfInBounds_toArray, List.set_cons_zero, List.set_cons_succ]
      refine wpAnyH_take (i := 3) (v := ?_) rfl (by kernel_rfl) (by kernel_rfl) (by kernel_rfl) (fun _ _ _ h => h) (Or.inl ⟨by rfl, ?_⟩) (by assumption) ?_
      rotate_left 1
      · first | (intro w hSw; go_simp; done) | (intro w hSw; go_simp; with_reducible rfl)
      try simp only [Act.put, List.getElem_toArray, List.getElem_cons_zero, List.getElem_cons_succ, List.setIfInBounds_toArray, List.set_cons_zero, List.set_cons_succ]
      refine wpAnyH_take (i := 4) (v := ?_) rfl (by kernel_rfl) (by kernel_rfl) (by kernel_rfl) (fun _ _ _ h => h) (Or.inl ⟨by rfl, ?_⟩) (by assumption) ?_
      rotate_left 1
      · first | (intro w hSw; obtain ⟨s0, s1⟩ := hSw; go_simp; done) | (intro w hSw; obtain ⟨s0, s1⟩ := hSw; go_simp; with_reducible rfl)
      try simp only [Act.put, List.getElem_toArray, List.getElem_cons_zero, List.getElem_cons_succ, List.setIfInBounds_toArray, List.set_cons_zero, List.set_cons_succ]
      refine wpAnyH_take (i := 6) (v := ?_) rfl (by kernel_rfl) (by kernel_rfl) (by kernel_rfl) (fun _ _ _ h => h) (Or.inl ⟨by rfl, ?_⟩) (by assumption) ?_
      rotate_left 1
      · first | (intro w hSw; go_simp; done) | (intro w hSw; go_simp; with_reducible rfl)
      try simp only [Act.put, List.getElem_toArray, List.getElem_cons_zero, List.getElem_cons_succ, List.setIfInBounds_toArray, List.set_cons_zero, List.set_cons_succ]
      refine wpAnyH_take (i := 7) (v := ?_) rfl (by kernel_rfl) (by kernel_rfl) (by kernel_rfl) (fun _ _ _ h => h) (Or.inl ⟨by rfl, ?_⟩) (by assumption) ?_
      rotate_left 1
      · first | (intro w hSw; obtain ⟨s0, s1⟩ := hSw; go_simp; done) | (intro w hSw; obtain ⟨s0, s1⟩ := hSw; go_simp; with_reducible rfl)
      try simp only [Act.put, List.getElem_toArray, List.getElem_cons_zero, List.getElem_cons_succ, List.setIfInBounds_toArray, List.set_cons_zero, List.set_cons_succ]
      refine wpAnyH_ready (rs := [2]) (by kernel_rfl) (by simp) ?_
      refine AllReadyH.cons rfl (fun K hK => ?_) AllReadyH.nil
      go_simp
      (refine (putUint_calls _ none 0 [] 0 (C_none _) (by decide) (by decide)).mono ?_; intro e w1 hn; rw [E0.out] at hn; obtain ⟨A1, c1, rfl, hl1, hR1, hC1, hb1⟩ := hn.open_; have HB1 := Aside0.mk (show Below (wr.alloc (.cells #[.slice (some ⟨k, 0, none⟩) 1 1, .slice none 0 0, .bool false] 72)).heap.size (wr.alloc (.cells #[.slice (some ⟨k, 0, none⟩) 1 1, .slice none 0 0, .bool false] 72)) w1 from (Below.refl _ _).drew.trans hb1); have HC1 := Aside0.mk hC1; clear hn hR1 hC1 hb1 hl1)
      go_simp
      refine hK.out _ _ ⟨keeps HB1.out d0 SZ.out, keeps HB1.out d1 SZ.out⟩ (fun hHeld => ?_)
      clear hK K
      try simp only [Act.put, List.getElem_toArray, List.getElem_cons_zero, List.getElem_cons_succ, List.setIfInBounds_toArray, List.set_cons_zero, List.set_cons_succ]
      refine wpAnyH_ready (rs := [5]) (by kernel_rfl) (by simp) ?_
      refine AllReadyH.cons rfl (fun K hK => ?_) AllReadyH.nil
      go_simp
      (refine (putBytes_calls _ A1 c1 [0] (some ⟨k, 0, none⟩) 1 [1] HC1.out (Kd.C_below HK.out (HBr.out.trans (HB1.out.mono (Nat.le_of_lt SZ.out)))) (by decide) (by decide)).mono ?_; intro e w2 hn; rw [E1.out] at hn; obtain ⟨A2, c2, rfl, hl2, hR2, hC2, hb2⟩ := hn.open_; have HB2 := Aside0.mk (HB1.out.trans (hb2.mono HB1.out.size)); have HC2 := Aside0.mk hC2; clear hn hR2 hC2 hb2 hl2)
      go_simp
      refine hK.out _ _ ⟨keeps HB2.out d0 SZ.out, keeps HB2.out d1 SZ.out⟩ (fun hHeld => ?_)
      clear hK K
      try simp only [Act.put, List.getElem_toArray, List.getElem_cons_zero, List.getElem_cons_succ, List.setIfInBounds_toArray, List.set_cons_zero, List.set_cons_succ]
      refine wpAnyH_ready (rs := [8]) (by kernel_rfl) (by simp) ?_
      refine AllReadyH.cons rfl (fun K hK => ?_) AllReadyH.nil
      go_simp
      (refine (putBytes_calls _ A2 c2 [0, 1, 1] none 0 [] HC2.out (C_none _) (by decide) (by decide)).mono ?_; intro e w3 hn; rw [E2.out] at hn; obtain ⟨A3, c3, rfl, hl3, hR3, hC3, hb3⟩ := hn.open_; have HB3 := Aside0.mk (HB2.out.trans (hb3.mono HB2.out.size)); have HR3 := Aside0.mk (Kd.R_lower hR3 HB2.out.size); clear hn hR3 hC3 hb3 hl3)
      go_simp
      refine hK.out _ _ ⟨keeps HB3.out d0 SZ.out, keeps HB3.out d1 SZ.out⟩ (fun hHeld => ?_)
      clear hK K
      try simp only [Act.put, List.getElem_toArray, List.getElem_cons_zero, List.getElem_cons_succ, List.setIfInBounds_toArray, List.set_cons_zero, List.set_cons_succ]
      refine wpAnyH_take (i := 9) (v := ?_) rfl (by kernel_rfl) (by kernel_rfl) (by kernel_rfl) (fun _ _ _ h => h) (Or.inl ⟨by rfl, ?_⟩) (by assumption) ?_
      rotate_left 1
      · first | (intro w hSw; go_simp; done) | (intro w hSw; go_simp; with_reducible rfl)
      try simp only [Act.put, List.getElem_toArray, List.getElem_cons_zero, List.getElem_cons_succ, List.setIfInBounds_toArray, List.set_cons_zero, List.set_cons_succ]
      refine wpAnyH_done (by kernel_rfl) ?_ _
      refine NoPanic.normal ?_
      go_wp2
      go_roundw
      case rel => exact ⟨.inr ⟨rfl, A3, c3, rfl, Kd.R_lower HR3.out (Nat.le_trans HB.out.size (Nat.le_of_lt SZ.out))⟩, (below_alloc HB.out _).trans (HB3.out.mono (Nat.le_trans HB.out.size (Nat.le_of_lt SZ.out)))⟩
      case measure => simp [intOf]
    · have HR := Aside0.mk hR
      go_wp2
      go_ret
      exact ⟨A, c, by simp, HR.out, HB.out⟩
end Go.Proofs.YtadaoplmicghcaaGreatDoor.Aw
namespace Go.Proofs.YtadaoplmicghcaaGreatDoor.Aw
open Go.RowKit Go.ChangeMaps Go.Proofs.YtadaoplmicghcaaGreatDoor.Lk Go.Proofs.YtadaoplmicghcaaGreatDoorW.PrintWords Go.Proofs.YtadaoplmicghcaaGreatDoorW.PrintLast Go.Proofs.YtadaoplmicghcaaGreatDoorW.PrintMore
set_option linter.unusedVariables false
set_option linter.unusedSimpArgs false
theorem under118 : Tryz.prog.underlying 118 = some (.map 9 185) := by kernel_rfl
theorem fk_check (e : Bool) (W : World) : (Instr.checkKey e 10000 9 (.string fileName)).run Tryz.prog W = .ok () W := by
  cases e <;> kernel_rfl
theorem fk_none (W : World) : (Instr.findKey 9 (.string fileName) []).run Tryz.prog W = .ok none W := by kernel_rfl
theorem zeroFile (W : World) : (zeroValue 185).run Tryz.prog W = .ok (.pointer none) W := by kernel_rfl
theorem fk_look0 {W : World} {m c : Nat} (hb : W.heap[m]? = some (.map #[] c)) : (Instr.lookup 118 (.map (some m)) (.string fileName) false).run Tryz.prog W = .ok (.pointer none) W := by
  simp [Instr.lookup, run_underlying under118, MapKept.run_getObj_map hb, fk_check, fk_none, zeroFile, Result.andThen]
theorem fk_upd0 {W : World} {m c : Nat} {v : Value} (hb : W.heap[m]? = some (.map #[] c)) : (Instr.mapUpdate 118 (.map (some m)) (.string fileName) v).run Tryz.prog W = .ok () (setBlock W m (.map #[⟨.string fileName, v, c⟩] (c + 1))) := by
  simp [Instr.mapUpdate, run_underlying under118, MapKept.run_getObj_map hb, fk_check, fk_none, MapKept.run_setObj_map _ hb, Result.andThen, setBlock]
theorem C_sb {w : World} {m c n : Nat} {es : Array MapEntry} {o : Obj} {A : Option Addr} {xs : List UInt8} (h : kB.C w A n xs) (hm : w.heap[m]? = some (.map es c)) : kB.C (setBlock w m o) A n xs := by
  have h1 := Kd.reads_of_C (enc := encB) (d := 0) h
  refine Kd.C_of_reads (enc := encB) (d := 0) ⟨h1.1, h1.2.1, fun hn => ?_⟩
  obtain ⟨ad, e, hc⟩ := h1.2.2 hn
  exact ⟨ad, e, fun j hj => sb_cell hm (hc j hj)⟩
theorem infoPiece : (Tryz.prog.info? 202).map (fun i => (i.zero, i.size, i.bytes)) = some (some (.agg #[.int .i64 0, .int .i64 0]), 2, 16) := by kernel_rfl
theorem own_slice {w : World} {base e size n : Nat} {v : Value} {xs : List Value} (h : w.ownsRow base e size v n xs) : ∃ A c, v = .slice A n c := by
  rcases h.2 with ⟨rfl, rfl⟩ | ⟨g, cap, cur, rfl, _⟩
  · exact ⟨none, 0, rfl⟩
  · exact ⟨_, _, rfl⟩
theorem set_cell_other {w : World} {p q : Addr} {u v : Value} (h : w.cell? p = some v) (hne : ¬ p.block = q.block) : (w.setCell q u).cell? p = some v := by
  have := Below.heap_setCell w q u p.block hne
  unfold World.cell? at h ⊢
  rw [this]
  exact h
attribute [local go_sem] fk_look0 fk_upd0
set_option maxRecDepth 100000 in
set_option maxHeartbeats 4000000 in
theorem diskAppend_calls (w : World) (lo d m : Nat) (A : Option Addr) (c : Nat) (q : List UInt8) (z : Dk0 w d m) (hld : lo ≤ d) (hlm : lo ≤ m) (hq : kB.C w A q.length q) (h1 : 1 ≤ q.length) (h2 : q.length ≤ 1000) :
    Calls Tryz.prog 93 #[.pointer (some ⟨d, 0, none⟩), .string fileName, .slice A q.length c] w fun e w' => e = .returned .nilIface ∧ Fr w w' lo (fun k => k = d ∨ k = m) := by
  have ld := blk_lt z.cell
  have lm := blk_lt z.map
  have hm := z.map
  have hdm : d ≠ m := by rintro rfl; have := z.cell; rw [z.map] at this; cases this
  have c0 := blk_cell z.cell 0
  have c1 := blk_cell z.cell 1
  simp at c0 c1
  have HQ := Aside0.mk hq
  have b1 : (1 : Int) ≤ q.length := by omega
  have b2 : (q.length : Int) ≤ 1000 := by omega
  have hlk := fk_look0 hm
  have hln : (Builtin.len_ #[118] 3 #[.map (some m)]).run Tryz.prog w = .ok (.int .i64 0) w := by
    simp [Builtin.len_, run_underlying under118, MapKept.run_getObj_map hm, Result.andThen, goInt]
  have hup := fk_upd0 (W := w.alloc (.cells #[.slice none 0 0, .slice none 0 0] 191)) (v := .pointer (some ⟨w.heap.size, 0, none⟩)) (al_old hm)
  clear hq
  go_enter Tryz.func93, Tryz.ntmps93
  go_upto_region 13 with (first
    | (go_at_call 109; refine (name_file _).mono ?_; rintro e w1 ⟨rfl, hw⟩; subst w1))
  clear hlk hln hup c0 c1
  obtain ⟨w1, hw1⟩ : ∃ w1, w1 = setBlock (w.alloc (.cells #[.slice none 0 0, .slice none 0 0] 191)) m (.map #[⟨.string fileName, .pointer (some ⟨w.heap.size, 0, none⟩), 0⟩] (0 + 1)) := ⟨_, rfl⟩
  rw [← hw1]
  have HF1 := Aside0.mk (show Fr w w1 lo (fun k => k = d ∨ k = m) from by
    rw [hw1]
    exact ⟨sb_below ((below_alloc (Below.refl _ _) _).mono (by omega)) hlm, (Kept.refl _ _ |>.below (below_alloc (Below.refl _ _) _)).then_ (sb_kept _ _ _) (fun k hk => .inl (.inr hk))⟩)
  have hf : w1.heap[w.heap.size]? = some (.cells #[.slice none 0 0, .slice none 0 0] 191 (0, 0)) := by rw [hw1]; exact (sb_other (by omega)).trans (al_new rfl)
  have hd : w1.heap[d]? = some (.cells #[.map (some m), .int .i64 0] 120 (0, 0)) := by rw [hw1]; exact (sb_other hdm).trans (al_old z.cell)
  have hs1 : w1.heap.size = w.heap.size + 1 := by rw [hw1, sb_size, al_size]
  have f0 := blk_cell hf 0
  have z0 := blk_frozen hf 0
  simp at f0
  have HQ1 := Aside0.mk (show kB.C w1 A q.length q from by rw [hw1]; exact C_sb (Kd.C_alloc HQ.out _) (al_old hm))
  clear hw1
  go_upto_region 14 with (first
    | (at_builtin; refine app_bytes w1.heap.size rfl _ _ rfl (.slice none 0 0) [] q A q.length c rfl rfl (Kd.R_nil _ _ _ _ _) HQ1.out (Nat.le_refl _) (by simp; omega) ?_; intro v2 w2 ho2 hb2; obtain ⟨A2, k2, rfl⟩ := Kd.R_slice ho2; have HO2 := Aside0.mk ho2; have HB2 := Aside0.mk hb2; have f0 := keeps hb2 f0 (blk_lt hf); have hf2 := (hb2.block _ (blk_lt hf)).trans hf; have z0 := blk_frozen hf2 0; clear ho2 hb2))
  obtain ⟨w3, hw3⟩ : ∃ w3, w3 = w2.setCell ⟨w.heap.size, 0, none⟩ (.slice A2 q.length k2) := ⟨_, rfl⟩
  rw [← hw3]
  have HF3 := Aside0.mk (show Fr w w3 lo (fun k => k = d ∨ k = m) from by
    rw [hw3]
    exact (HF1.out.then_ HB2.out (by omega)).set _ _ (.inr (Nat.le_refl _)) (by show lo ≤ w.heap.size; omega))
  have hf3 : w3.heap[w.heap.size]? = some (.cells #[.slice A2 q.length k2, .slice none 0 0] 191 (0, 0)) := by rw [hw3]; exact blk_put hf2 0 _ rfl
  have hd3 : w3.heap[d]? = some (.cells #[.map (some m), .int .i64 0] 120 (0, 0)) := by rw [hw3]; exact blk_far ((HB2.out.block _ (by omega)).trans hd) (by show d ≠ w.heap.size; omega) _
  have d1 := blk_cell hd3 1
  have y1 := blk_frozen hd3 1
  simp at d1
  clear hw3 f0 z0
  go_wp2
  obtain ⟨w4, hw4⟩ : ∃ w4, w4 = w3.setCell ⟨d, 1, none⟩ (.int .i64 1) := ⟨_, rfl⟩
  rw [← hw4]
  have HF4 := Aside0.mk (show Fr w w4 lo (fun k => k = d ∨ k = m) from by
    rw [hw4]
    exact HF3.out.set _ _ (.inl (.inl rfl)) hld)
  have hf4 : w4.heap[w.heap.size]? = some (.cells #[.slice A2 q.length k2, .slice none 0 0] 191 (0, 0)) := by rw [hw4]; exact blk_far hf3 (by show w.heap.size ≠ d; omega) _
  have hd4 : w4.heap[d]? = some (.cells #[.map (some m), .int .i64 1] 120 (0, 0)) := by rw [hw4]; exact blk_put hd3 1 _ rfl
  have t1 : w4.cell? ⟨d, 1, none⟩ = some (.int .i64 1) := blk_cell hd4 1
  have f1 : w4.cell? ⟨w.heap.size, 1, none⟩ = some (.slice none 0 0) := blk_cell hf4 1
  have DLT := Lib.hid (blk_lt hd4)
  have FLT := Lib.hid (blk_lt hf4)
  have nfd := Lib.hid (show ¬ d = w.heap.size by omega)
  clear hw4 d1 y1
  refine wp_region_noPanic ?_
  refine wp_region_held_drew (S := fun wx => wx.cell? ⟨d, 1, none⟩ = some (.int .i64 1)) (by kernel_rfl) t1 (fun hHeld => ?_)
  refine wpAnyH_take (i := 0) (v := ?_) rfl (by kernel_rfl) (by kernel_rfl) (by kernel_rfl) (fun _ _ _ h => h) (Or.inl ⟨by rfl, ?_⟩) (by assumption) ?_
  rotate_left 1
  · first | (intro w hSw; go_simp; done) | (intro w hSw; go_simp; with_reducible rfl)
  try simp only [Act.put, List.getElem_toArray, List.getElem_cons_zero, List.getElem_cons_succ, List.setIfInBounds_toArray, List.set_cons_zero, List.set_cons_succ]
  refine wpAnyH_take (i := 1) (v := ?_) rfl (by kernel_rfl) (by kernel_rfl) (by kernel_rfl) (fun _ _ _ h => h) (Or.inl ⟨by rfl, ?_⟩) (by assumption) ?_
  rotate_left 1
  · first | (intro w hSw; go_simp; done) | (intro w hSw; go_simp; with_reducible rfl)
  try simp only [Act.put, List.getElem_toArray, List.getElem_cons_zero, List.getElem_cons_succ, List.setIfInBounds_toArray, List.set_cons_zero, List.set_cons_succ]
  refine wpAnyH_take (i := 2) (v := ?_) rfl (by kernel_rfl) (by kernel_rfl) (by kernel_rfl) (fun _ _ _ h => h) (Or.inl ⟨by rfl, ?_⟩) (by assumption) ?_
  rotate_left 1
  · first | (intro w hSw; go_simp; done) | (intro w hSw; go_simp; with_reducible rfl)
  try simp only [Act.put, List.getElem_toArray, List.getElem_cons_zero, List.getElem_cons_succ, List.setIfInBounds_toArray, List.set_cons_zero, List.set_cons_succ]
  refine wpAnyH_take (i := 3) (v := ?_) rfl (by kernel_rfl) (by kernel_rfl) (by kernel_rfl) (fun _ _ _ h => h) (Or.inl ⟨by rfl, ?_⟩) (by assumption) ?_
  rotate_left 1
  · first | (intro w hSw; go_simp; done) | (intro w hSw; go_simp; with_reducible rfl)
  try simp only [Act.put, List.getElem_toArray, List.getElem_cons_zero, List.getElem_cons_succ, List.setIfInBounds_toArray, List.set_cons_zero, List.set_cons_succ]
  refine wpAnyH_take (i := 5) (v := ?_) rfl (by kernel_rfl) (by kernel_rfl) (by kernel_rfl) (fun _ _ _ h => h) (Or.inl ⟨by rfl, ?_⟩) (by assumption) ?_
  rotate_left 1
  · first | (intro w hSw; go_simp; done) | (intro w hSw; go_simp; with_reducible rfl)
  try simp only [Act.put, List.getElem_toArray, List.getElem_cons_zero, List.getElem_cons_succ, List.setIfInBounds_toArray, List.set_cons_zero, List.set_cons_succ]
  refine wpAnyH_take (i := 6) (v := ?_) rfl (by kernel_rfl) (by kernel_rfl) (by kernel_rfl) (fun _ _ _ h => h) (Or.inl ⟨by rfl, ?_⟩) (by assumption) ?_
  rotate_left 1
  · first | (intro w hSw; go_simp; done) | (intro w hSw; go_simp; with_reducible rfl)
  try simp only [Act.put, List.getElem_toArray, List.getElem_cons_zero, List.getElem_cons_succ, List.setIfInBounds_toArray, List.set_cons_zero, List.set_cons_succ]
  refine wpAnyH_take (i := 7) (v := ?_) rfl (by kernel_rfl) (by kernel_rfl) (by kernel_rfl) (fun _ _ _ h => h) (Or.inl ⟨by rfl, ?_⟩) (by assumption) ?_
  rotate_left 1
  · first | (intro w hSw; go_simp; done) | (intro w hSw; go_simp; with_reducible rfl)
  try simp only [Act.put, List.getElem_toArray, List.getElem_cons_zero, List.getElem_cons_succ, List.setIfInBounds_toArray, List.set_cons_zero, List.set_cons_succ]
  refine wpAnyH_take (i := 8) (v := ?_) rfl (by kernel_rfl) (by kernel_rfl) (by kernel_rfl) (fun _ _ _ h => h) (Or.inl ⟨by rfl, ?_⟩) (by assumption) ?_
  rotate_left 1
  · first | (intro w hSw; go_simp; done) | (intro w hSw; go_simp; with_reducible rfl)
  try simp only [Act.put, List.getElem_toArray, List.getElem_cons_zero, List.getElem_cons_succ, List.setIfInBounds_toArray, List.set_cons_zero, List.set_cons_succ]
  refine wpAnyH_take (i := 9) (v := ?_) rfl (by kernel_rfl) (by kernel_rfl) (by kernel_rfl) (fun _ _ _ h => h) (Or.inl ⟨by rfl, ?_⟩) (by assumption) ?_
  rotate_left 1
  · first | (intro w hSw; go_simp; done) | (intro w hSw; go_simp; with_reducible rfl)
  try simp only [Act.put, List.getElem_toArray, List.getElem_cons_zero, List.getElem_cons_succ, List.setIfInBounds_toArray, List.set_cons_zero, List.set_cons_succ]
  refine wpAnyH_take (i := 10) (v := ?_) rfl (by kernel_rfl) (by kernel_rfl) (by kernel_rfl) (fun _ _ _ h => h) (Or.inl ⟨by rfl, ?_⟩) (by assumption) ?_
  rotate_left 1
  · first | (intro w hSw; go_simp; done) | (intro w hSw; go_simp; with_reducible rfl)
  try simp only [Act.put, List.getElem_toArray, List.getElem_cons_zero, List.getElem_cons_succ, List.setIfInBounds_toArray, List.set_cons_zero, List.set_cons_succ]
  refine wpAnyH_take (i := 11) (v := ?_) rfl (by kernel_rfl) (by kernel_rfl) (by kernel_rfl) (fun _ _ _ h => h) (Or.inl ⟨by rfl, ?_⟩) (by assumption) ?_
  rotate_left 1
  · first | (intro w hSw; go_simp; done) | (intro w hSw; go_simp; with_reducible rfl)
  try simp only [Act.put, List.getElem_toArray, List.getElem_cons_zero, List.getElem_cons_succ, List.setIfInBounds_toArray, List.set_cons_zero, List.set_cons_succ]
  refine wpAnyH_ready (rs := [4, 12]) (by kernel_rfl) (by simp) ?_
  refine AllReadyH.cons rfl (fun K hK => ?_) (AllReadyH.cons rfl (fun K hK => ?_) AllReadyH.nil)
  · go_simp
    refine hK.out _ _ t1 (fun hHeld => ?_)
    clear hK K
    try simp only [Act.put, List.getElem_toArray, List.getElem_cons_zero, List.getElem_cons_succ, List.setIfInBounds_toArray, List.set_cons_zero, List.set_cons_succ]
    refine wpAnyH_ready (rs := [12]) (by kernel_rfl) (by simp) ?_
    refine AllReadyH.cons rfl (fun K hK => ?_) AllReadyH.nil
    go_simp
    refine hK.out _ _ (keeps (below_alloc (Below.refl _ _) _) t1 DLT.out) (fun hHeld => ?_)
    clear hK K
    try simp only [Act.put, List.getElem_toArray, List.getElem_cons_zero, List.getElem_cons_succ, List.setIfInBounds_toArray, List.set_cons_zero, List.set_cons_succ]
    refine wpAnyH_ready (rs := [13]) (by kernel_rfl) (by simp) ?_
    refine AllReadyH.cons rfl (fun K hK => ?_) AllReadyH.nil
    refine step_append_cells (W := w4.drew) (w0 := w4) w4.heap.size rfl _ _ 189 202 (.agg #[.int .i64 0, .int .i64 0]) 2 16 rfl Tryz.underlying189 infoPiece rfl (by decide) (by decide) (.slice none 0 0) 0 [] [.int .i64 1, .int .i64 q.length] rfl rfl rfl (by simp [Value.oneCell']) ⟨rfl, .inl ⟨rfl, rfl⟩⟩ (Below.refl _ _).drew (Nat.le_refl _) (by decide) ?_
    intro v5 w5 ho5 hb5 hg5 hat5
    obtain ⟨A5, n5, rfl⟩ := own_slice ho5
    have HB5 := Aside0.mk hb5
    have u1 : w5.cell? ⟨w.heap.size, 1, none⟩ = some (.slice none 0 0) := keeps hb5 f1 FLT.out
    have z1 : w5.frozen? ⟨w.heap.size, 1, none⟩ = false := blk_frozen ((hb5.block _ FLT.out).trans hf4) 1
    have t5 : w5.cell? ⟨d, 1, none⟩ = some (.int .i64 1) := keeps hb5 t1 DLT.out
    have NE := nfd.out
    clear ho5 hb5 hg5 hat5
    refine hK.out _ _ t5 (fun hHeld => ?_)
    clear hK K
    try simp only [Act.put, List.getElem_toArray, List.getElem_cons_zero, List.getElem_cons_succ, List.setIfInBounds_toArray, List.set_cons_zero, List.set_cons_succ]
    refine wpAnyH_take (i := 14) (v := ?_) rfl (by kernel_rfl) (by kernel_rfl) (by kernel_rfl) (fun _ _ _ h => h) (Or.inl ⟨by rfl, ?_⟩) (by assumption) ?_
    rotate_left 1
    · first | (intro w hSw; go_simp; done) | (intro w hSw; go_simp; with_reducible rfl)
    try simp only [Act.put, List.getElem_toArray, List.getElem_cons_zero, List.getElem_cons_succ, List.setIfInBounds_toArray, List.set_cons_zero, List.set_cons_succ]
    refine wpAnyH_take (i := 15) (v := ?_) rfl (by kernel_rfl) (by kernel_rfl) (by kernel_rfl) (fun _ _ _ h => h) (Or.inl ⟨by rfl, ?_⟩) (by assumption) ?_
    rotate_left 1
    · first | (intro w hSw; go_simp; done) | (intro w hSw; go_simp; with_reducible rfl)
    try simp only [Act.put, List.getElem_toArray, List.getElem_cons_zero, List.getElem_cons_succ, List.setIfInBounds_toArray, List.set_cons_zero, List.set_cons_succ]
    refine wpAnyH_ready (rs := [16]) (by kernel_rfl) (by simp) ?_
    refine AllReadyH.cons rfl (fun K hK => ?_) AllReadyH.nil
    go_simp
    refine hK.out _ _ (set_cell_other t5 (fun e => NE e)) (fun hHeld => ?_)
    clear hK K
    try simp only [Act.put, List.getElem_toArray, List.getElem_cons_zero, List.getElem_cons_succ, List.setIfInBounds_toArray, List.set_cons_zero, List.set_cons_succ]
    refine wpAnyH_done (by kernel_rfl) ?_ _
    refine NoPanic.normal ?_
    go_wp2
    go_ret
    exact ⟨by simp, (HF4.out.then_ HB5.out (by omega)).set _ _ (.inr (Nat.le_refl _)) (by show lo ≤ w.heap.size; omega)⟩
  · go_simp
    refine hK.out _ _ (keeps (below_alloc (Below.refl _ _) _) t1 DLT.out) (fun hHeld => ?_)
    clear hK K
    try simp only [Act.put, List.getElem_toArray, List.getElem_cons_zero, List.getElem_cons_succ, List.setIfInBounds_toArray, List.set_cons_zero, List.set_cons_succ]
    refine wpAnyH_ready (rs := [4]) (by kernel_rfl) (by simp) ?_
    refine AllReadyH.cons rfl (fun K hK => ?_) AllReadyH.nil
    have f1' := keeps (below_alloc (Below.refl w4.heap.size w4) (.cells #[.int .i64 1, .int .i64 q.length] 202)) f1 FLT.out
    go_simp
    refine hK.out _ _ (keeps (below_alloc (Below.refl _ _) _) t1 DLT.out) (fun hHeld => ?_)
    clear hK K
    try simp only [Act.put, List.getElem_toArray, List.getElem_cons_zero, List.getElem_cons_succ, List.setIfInBounds_toArray, List.set_cons_zero, List.set_cons_succ]
    clear f1'
    refine wpAnyH_ready (rs := [13]) (by kernel_rfl) (by simp) ?_
    refine AllReadyH.cons rfl (fun K hK => ?_) AllReadyH.nil
    refine step_append_cells (W := w4.drew) (w0 := w4) w4.heap.size rfl _ _ 189 202 (.agg #[.int .i64 0, .int .i64 0]) 2 16 rfl Tryz.underlying189 infoPiece rfl (by decide) (by decide) (.slice none 0 0) 0 [] [.int .i64 1, .int .i64 q.length] rfl rfl rfl (by simp [Value.oneCell']) ⟨rfl, .inl ⟨rfl, rfl⟩⟩ (Below.refl _ _).drew (Nat.le_refl _) (by decide) ?_
    intro v5 w5 ho5 hb5 hg5 hat5
    obtain ⟨A5, n5, rfl⟩ := own_slice ho5
    have HB5 := Aside0.mk hb5
    have u1 : w5.cell? ⟨w.heap.size, 1, none⟩ = some (.slice none 0 0) := keeps hb5 f1 FLT.out
    have z1 : w5.frozen? ⟨w.heap.size, 1, none⟩ = false := blk_frozen ((hb5.block _ FLT.out).trans hf4) 1
    have t5 : w5.cell? ⟨d, 1, none⟩ = some (.int .i64 1) := keeps hb5 t1 DLT.out
    have NE := nfd.out
    clear ho5 hb5 hg5 hat5
    refine hK.out _ _ t5 (fun hHeld => ?_)
    clear hK K
    try simp only [Act.put, List.getElem_toArray, List.getElem_cons_zero, List.getElem_cons_succ, List.setIfInBounds_toArray, List.set_cons_zero, List.set_cons_succ]
    refine wpAnyH_take (i := 14) (v := ?_) rfl (by kernel_rfl) (by kernel_rfl) (by kernel_rfl) (fun _ _ _ h => h) (Or.inl ⟨by rfl, ?_⟩) (by assumption) ?_
    rotate_left 1
    · first | (intro w hSw; go_simp; done) | (intro w hSw; go_simp; with_reducible rfl)
    try simp only [Act.put, List.getElem_toArray, List.getElem_cons_zero, List.getElem_cons_succ, List.setIfInBounds_toArray, List.set_cons_zero, List.set_cons_succ]
    refine wpAnyH_take (i := 15) (v := ?_) rfl (by kernel_rfl) (by kernel_rfl) (by kernel_rfl) (fun _ _ _ h => h) (Or.inl ⟨by rfl, ?_⟩) (by assumption) ?_
    rotate_left 1
    · first | (intro w hSw; go_simp; done) | (intro w hSw; go_simp; with_reducible rfl)
    try simp only [Act.put, List.getElem_toArray, List.getElem_cons_zero, List.getElem_cons_succ, List.setIfInBounds_toArray, List.set_cons_zero, List.set_cons_succ]
    refine wpAnyH_ready (rs := [16]) (by kernel_rfl) (by simp) ?_
    refine AllReadyH.cons rfl (fun K hK => ?_) AllReadyH.nil
    go_simp
    refine hK.out _ _ (set_cell_other t5 (fun e => NE e)) (fun hHeld => ?_)
    clear hK K
    try simp only [Act.put, List.getElem_toArray, List.getElem_cons_zero, List.getElem_cons_succ, List.setIfInBounds_toArray, List.set_cons_zero, List.set_cons_succ]
    refine wpAnyH_done (by kernel_rfl) ?_ _
    refine NoPanic.normal ?_
    go_wp2
    go_ret
    exact ⟨by simp, (HF4.out.then_ HB5.out (by omega)).set _ _ (.inr (Nat.le_refl _)) (by show lo ≤ w.heap.size; omega)⟩
end Go.Proofs.YtadaoplmicghcaaGreatDoor.Aw
