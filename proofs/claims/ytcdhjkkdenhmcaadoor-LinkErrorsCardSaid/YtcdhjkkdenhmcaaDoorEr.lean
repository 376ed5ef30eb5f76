/- The document's errors, told plainly (aviaryref01.E): N, Same; fails. -/
import Derived.Test.YtcdhjkkdenhmcaaDoorOf
namespace Go.Proofs.YtcdhjkkdenhmcaaDoor
open Go.RowKit Go.Proofs.YtcdhjkkdenhmcaaDoorW.PrintWords Go.Proofs.YtcdhjkkdenhmcaaDoorW.PrintLast Go.Proofs.YtcdhjkkdenhmcaaDoorW.PrintMore
set_option linter.unusedVariables false
set_option linter.unusedSimpArgs false
def okE : Value := .agg #[.bool false, .slice none 0 0, .int .i64 0]
def IsE (w : World) : Er → Value → Prop
  | .ok, v => v = .agg #[.bool false, .slice none 0 0, .int .i64 0]
  | .num c, v => v = .agg #[.bool true, .slice none 0 0, .int .i64 c]
  | .at_ kind k c, v => ∃ g cap, v = .agg #[.bool true, .slice (some ⟨g, 0, none⟩) 1 cap, .int .i64 c] ∧ w.cell? ⟨g, 0, none⟩ = some (.int .i64 kind) ∧ w.cell? ⟨g, 1, none⟩ = some (.int .i64 k)
theorem IsE.below {w w1 : World} {er : Er} {v : Value} (h : IsE w er v) (hb : Below w.heap.size w w1) : IsE w1 er v := by
  cases er with
  | ok => exact h
  | num c => exact h
  | at_ kind k c =>
    obtain ⟨g, cap, rfl, h1, h2⟩ := h
    refine ⟨g, cap, rfl, ?_, ?_⟩
    · rw [← h1]; unfold World.cell?; rw [hb.block _ (World.block_lt_of_cell? _ _ h1)]
    · rw [← h2]; unfold World.cell?; rw [hb.block _ (World.block_lt_of_cell? _ _ h2)]
set_option maxRecDepth 100000 in
theorem refN_calls (w : World) (n : Int) :
    Calls Tryd.prog 9 #[.int .i64 n] w fun e w' => e = .returned (.agg #[.bool true, .slice none 0 0, .int .i64 n]) ∧ w' = w.alloc (.cells #[.bool true, .slice none 0 0, .int .i64 n] 34) := by
  go_enter Tryd.func9, Tryd.ntmps9
  go_wp2
  (try simp only [Exit.inBlock, Exit.then])
  exact bodyPost_ret (v := .agg #[.bool true, .slice none 0 0, .int .i64 n]) (by simp [results, Tryd.results9, go_sem]) rfl ⟨rfl, rfl⟩
theorem own_one {W : World} {base : Nat} {e : TypeId} {size : Nat} {v : Value} {k : Nat} {xs : List Value} (h : W.ownsRow base e size v (k + 1) xs) : ∃ g cap, v = .slice (some ⟨g, 0, none⟩) (k + 1) cap := by
  rcases h.2 with ⟨_, h0⟩ | ⟨g, cap, _, rfl, _⟩
  · omega
  · exact ⟨g, cap, rfl⟩
set_option maxRecDepth 100000 in
/-- Two errors alike: the same. -/
theorem same_calls (w : World) (er : Er) (v1 v2 : Value) (h1 : IsE w er v1) (h2 : IsE w er v2) :
    Calls Tryd.prog 20 #[v1, v2] w fun e w' => e = .returned (.bool true) ∧ Below w.heap.size w w' := by
  cases er with
  | ok =>
    cases h1; cases h2
    go_enter Tryd.func20, Tryd.ntmps20
    go_wp2
    refine wp_loop_rounds 1 ?_
    rw [rounds_succ]
    go_wp2
    go_ret
    refine ⟨rfl, ?_⟩
    repeat (first | exact Below.refl _ _ | refine below_alloc ?_ _)
  | num c =>
    cases h1; cases h2
    go_enter Tryd.func20, Tryd.ntmps20
    go_wp2
    refine wp_loop_rounds 1 ?_
    rw [rounds_succ]
    go_wp2
    go_ret
    refine ⟨rfl, ?_⟩
    repeat (first | exact Below.refl _ _ | refine below_alloc ?_ _)
  | at_ kind k c =>
    obtain ⟨g, cap, rfl, a1, a2⟩ := h1
    obtain ⟨g', cap', rfl, b1, b2⟩ := h2
    have two : ∀ (o1 o2 : Obj) (p : Addr) (v : Value), w.cell? p = some v → ((w.alloc o1).alloc o2).cell? p = some v := fun o1 o2 p v h => by
      have hl := World.block_lt_of_cell? _ _ h
      rw [World.cell?_alloc_lt _ _ p (by rw [alloc_size]; omega), World.cell?_alloc_lt _ _ p hl]; exact h
    have A1 := fun o1 o2 => two o1 o2 _ _ a1
    have A2 := fun o1 o2 => two o1 o2 _ _ a2
    have B1 := fun o1 o2 => two o1 o2 _ _ b1
    have B2 := fun o1 o2 => two o1 o2 _ _ b2
    clear a1 a2 b1 b2 two
    go_enter Tryd.func20, Tryd.ntmps20
    go_wp2
    refine wp_loop_rounds 2 ?_
    rw [rounds_succ]
    go_wp2
    go_quiet (fail)
    go_wp2
    rw [rounds_succ]
    go_wp2
    go_ret
    exact ⟨rfl, below_weaken (below_alloc (below_alloc (Below.refl _ _) _) _) (Nat.le_refl _) ⟨rfl, rfl, rfl, Nat.le_refl _, fun _ _ => rfl⟩⟩
set_option maxRecDepth 100000 in
theorem of_calls (w : World) (b : Nat) (er : Er) (v : Value) (hg : Laid w) (h : IsEr w b er v) :
    Calls Tryd.prog 21 #[v] w fun e w' => ∃ v1, e = .returned v1 ∧ IsE w' er v1 ∧ Below w.heap.size w w' := by
  cases er with
  | ok =>
    cases h
    refine (of_nil w).mono ?_
    rintro e w1 ⟨rfl, hb⟩
    exact ⟨_, rfl, rfl, hb⟩
  | num c =>
    cases h
    refine (of_num c w hg).mono ?_
    rintro e w1 ⟨rfl, hb⟩
    exact ⟨_, rfl, rfl, hb⟩
  | at_ kind k c =>
    obtain ⟨g, rfl, _, hf⟩ := h
    refine (of_at g kind k c w hg hf).mono ?_
    rintro e w1 ⟨sv, rfl, hr, hb⟩
    refine ⟨_, rfl, ?_, hb⟩
    obtain ⟨inner, ho⟩ := Kd.R_own hr
    obtain ⟨g1, cap, rfl⟩ := own_one ho
    have hC := (Kd.R_reads' hr).2.2
    obtain ⟨ad, cs, e1, hM, hK, hc⟩ := Kd.C_get hC ((0 : Int), (0 : Int)) (0 : Int) (by omega) (by simp)
    cases e1
    obtain ⟨x, y, rfl, hx, hy⟩ := hK
    cases hx
    cases hy
    exact ⟨g1, cap, rfl, hc 0 _ rfl, hc 1 _ rfl⟩
theorem below_first {w W : World} {o : Obj} (h : Below (w.alloc o).heap.size (w.alloc o) W) : Below w.heap.size w W := below_weaken (below_alloc (Below.refl _ _) o) (by rw [alloc_size]; omega) h
set_option maxRecDepth 100000 in
set_option maxHeartbeats 1000000 in
/-- What a call answered is this error. -/
theorem fails_calls (w : World) (b : Nat) (er : Er) (v ve : Value) (hg : Laid w) (h : IsEr w b er v) (he : IsE w er ve) :
    Calls Tryd.prog 8 #[v, ve] w fun e w' => e = .returned (.bool true) ∧ Below w.heap.size w w' := by
  obtain ⟨b0, s0, c0, rfl⟩ : ∃ b0 s0 c0, ve = .agg #[b0, s0, c0] := by
    cases er with
    | ok => exact ⟨_, _, _, he⟩
    | num c => exact ⟨_, _, _, he⟩
    | at_ kind k c => obtain ⟨g, cap, rfl, _, _⟩ := he; exact ⟨_, _, _, rfl⟩
  have HG := Lib.hid hg
  have HV := Aside0.mk h
  have HE := Aside0.mk he
  clear hg h he
  go_enter Tryd.func8, Tryd.ntmps8
  go_wp2
  have HZ0 := Aside0.mk (fun (W : World) (h : Below (w.alloc (.cells #[b0, s0, c0] 34)).heap.size (w.alloc (.cells #[b0, s0, c0] 34)) W) => (show W.cell? ⟨w.heap.size, 0, none⟩ = some b0 by unfold World.cell?; rw [h.block _ (by rw [alloc_size]; exact Nat.lt_succ_self _), heap_alloc_new]; rfl))
  have HZ1 := Aside0.mk (fun (W : World) (h : Below (w.alloc (.cells #[b0, s0, c0] 34)).heap.size (w.alloc (.cells #[b0, s0, c0] 34)) W) => (show W.cell? ⟨w.heap.size, 1, none⟩ = some s0 by unfold World.cell?; rw [h.block _ (by rw [alloc_size]; exact Nat.lt_succ_self _), heap_alloc_new]; rfl))
  have HZ2 := Aside0.mk (fun (W : World) (h : Below (w.alloc (.cells #[b0, s0, c0] 34)).heap.size (w.alloc (.cells #[b0, s0, c0] 34)) W) => (show W.cell? ⟨w.heap.size, 2, none⟩ = some c0 by unfold World.cell?; rw [h.block _ (by rw [alloc_size]; exact Nat.lt_succ_self _), heap_alloc_new]; rfl))
  refine wp_region_noPanic ?_
  refine wp_region_held_drew (S := fun W => Below (w.alloc (.cells #[b0, s0, c0] 34)).heap.size (w.alloc (.cells #[b0, s0, c0] 34)) W) (by kernel_rfl) ((Below.refl _ _).drew) (fun hHeld => ?_)
  refine wpAnyH_take (i := 0) (v := ?_) rfl (by kernel_rfl) (by kernel_rfl) (by kernel_rfl) (fun _ _ _ h => h) (Or.inl ⟨by rfl, ?_⟩) (by assumption) ?_
  rotate_left 1
  · first | (intro w hSw; go_simp; done) | (intro w hSw; go_simp; with_reducible rfl)
  try simp only [Act.put, List.getElem_toArray, List.getElem_cons_zero, List.getElem_cons_succ, List.setIfInBounds_toArray, List.set_cons_zero, List.set_cons_succ]
  refine wpAnyH_take (i := 2) (v := ?_) rfl (by kernel_rfl) (by kernel_rfl) (by kernel_rfl) (fun _ _ _ h => h) (Or.inl ⟨by rfl, ?_⟩) (by assumption) ?_
  rotate_left 1
  · first | (intro w hSw; have q0 := HZ0.out w hSw; have q1 := HZ1.out w hSw; have q2 := HZ2.out w hSw; go_simp; done) | (intro w hSw; have q0 := HZ0.out w hSw; have q1 := HZ1.out w hSw; have q2 := HZ2.out w hSw; go_simp; with_reducible rfl)
  try simp only [Act.put, List.getElem_toArray, List.getElem_cons_zero, List.getElem_cons_succ, List.setIfInBounds_toArray, List.set_cons_zero, List.set_cons_succ]
  refine wpAnyH_ready (rs := [1]) (by kernel_rfl) (by simp) ?_
  refine AllReadyH.cons rfl (fun K hK => ?_) AllReadyH.nil
  go_simp
  refine (of_calls _ _ er v (HG.out.below (below_first hHeld)) (HV.out.below (below_first hHeld))).mono ?_; rintro e w1 ⟨v1, rfl, hv, hb⟩; have HV1 := Aside0.mk hv; have hHeld1 := below_step hHeld hb; have HB1 := Aside0.mk hb; clear hv
  go_simp
  refine hK.out _ _ hHeld1 (fun hHeld => ?_)
  clear hK K
  try simp only [Act.put, List.getElem_toArray, List.getElem_cons_zero, List.getElem_cons_succ, List.setIfInBounds_toArray, List.set_cons_zero, List.set_cons_succ]
  refine wpAnyH_ready (rs := [3]) (by kernel_rfl) (by simp) ?_
  refine AllReadyH.cons rfl (fun K hK => ?_) AllReadyH.nil
  go_simp
  refine (same_calls _ er _ _ (HV1.out) (HE.out.below (below_first hHeld))).mono ?_; rintro e w2 ⟨rfl, hb⟩; have hHeld2 := below_step hHeld hb; clear hb
  go_simp
  refine hK.out _ _ hHeld2 (fun hHeld => ?_)
  clear hK K
  try simp only [Act.put, List.getElem_toArray, List.getElem_cons_zero, List.getElem_cons_succ, List.setIfInBounds_toArray, List.set_cons_zero, List.set_cons_succ]
  refine wpAnyH_take (i := 4) (v := ?_) rfl (by kernel_rfl) (by kernel_rfl) (by kernel_rfl) (fun _ _ _ h => h) (Or.inl ⟨by rfl, ?_⟩) (by assumption) ?_
  rotate_left 1
  · first | (intro w hSw; go_simp; done) | (intro w hSw; go_simp; with_reducible rfl)
  try simp only [Act.put, List.getElem_toArray, List.getElem_cons_zero, List.getElem_cons_succ, List.setIfInBounds_toArray, List.set_cons_zero, List.set_cons_succ]
  refine wpAnyH_done (by kernel_rfl) ?_ _
  refine NoPanic.normal ?_
  all_goals (go_wp2; go_ret; exact ⟨rfl, below_first hHeld⟩)
end Go.Proofs.YtcdhjkkdenhmcaaDoor
