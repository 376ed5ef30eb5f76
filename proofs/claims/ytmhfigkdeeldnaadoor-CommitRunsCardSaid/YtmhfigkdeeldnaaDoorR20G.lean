/- CommitRuns: holds. Printed by wip/mk20g.py. -/
import Derived.Test.YtmhfigkdeeldnaaDoorR20F
namespace Go.Proofs.YtmhfigkdeeldnaaDoor
open Go.RowKit Go.Proofs.YtmhfigkdeeldnaaDoorW.PrintWords Go.Proofs.YtmhfigkdeeldnaaDoorW.PrintLast Go.Proofs.YtmhfigkdeeldnaaDoorW.PrintMore
set_option linter.unusedVariables false
set_option linter.unusedSimpArgs false
set_option maxRecDepth 100000 in
set_option maxHeartbeats 4000000 in
theorem holds_calls {w : World} {lo p : Nat} {K : Nat → Prop} {D : Dk} {M : RD} {v : Value} (hW : IsDesk w lo K D p) (hR : Rel D M) (hv : RdR w lo (fun k => ¬ K k) v M) (change : Int) :
    Calls Tryd.prog 8 #[.pointer (some ⟨p, 0, none⟩), v, .int .i64 change] w fun e w' => e = .returned (.bool true) ∧ Below w.heap.size w w' := by
  obtain ⟨An, cn, As, cs, Ad, cd, rfl, hv⟩ := hv
  have HW := Lib.hid hW
  have HR := Lib.hid hR
  have HV := Lib.hid hv
  have hs1 := hR.st
  have hl1 := hR.len1
  obtain ⟨st, hst⟩ : ∃ st, st = M.st := ⟨_, rfl⟩
  obtain ⟨ld, hld⟩ : ∃ ld : Nat, ld = M.dc.length := ⟨_, rfl⟩
  have HST := Lib.hid (show D.st = st by rw [hst]; exact hs1)
  have HLD := Lib.hid (show (D.dc.length : Int) = (ld : Int) by rw [hld, hl1])
  obtain ⟨av, hav⟩ : ∃ av, av = D.at_ change := ⟨_, rfl⟩
  have HAV := Lib.hid (show (if 1 ≤ change ∧ change ≤ M.dc.length then rd M.dc ((change - 1).toNat : Nat) else 0) = av by rw [hav, hR.at_])
  have HAD := Lib.hid (show D.at_ change = av from hav.symm)
  have HC1 := Lib.hid (Kd.R_reads' hv.rn).2.2
  have HC2 := Lib.hid (Kd.R_reads' hv.rs).2.2
  have HC3 := Lib.hid (Kd.R_reads' hv.rd).2.2
  have HL2 := Lib.hid hld
  rw [← hst, ← hld]
  have e1 : (st == st) = true := by simp
  have e2 : ((ld : Int) == (ld : Int)) = true := by simp
  have e3 : (av == av) = true := by simp
  clear hW hR hv hs1 hl1 hst hld hav
  go_enter Tryd.func8, Tryd.ntmps8
  go_wp2
  have HBX := Aside0.mk (show (w.alloc (.cells #[.int .i64 st, .slice An M.ns.length cn, .slice As M.said.length cs, .slice Ad ld cd] 28)).heap[w.heap.size]? = some (.cells #[.int .i64 st, .slice An M.ns.length cn, .slice As M.said.length cs, .slice Ad ld cd] 28 (0, 0)) from heap_alloc_new _ _)
  have HB0 := Aside0.mk (below_alloc (Below.refl _ w) (.cells #[.int .i64 st, .slice An M.ns.length cn, .slice As M.said.length cs, .slice Ad ld cd] 28))
  obtain ⟨w0, hw0⟩ : ∃ w0, w0 = w.alloc (.cells #[.int .i64 st, .slice An M.ns.length cn, .slice As M.said.length cs, .slice Ad ld cd] 28) := ⟨_, rfl⟩
  rw [← hw0] at HBX HB0 ⊢
  clear hw0
  refine wp_region_noPanic ?_
  refine wp_region_held_drew (S := fun W => Below w0.heap.size w0 W) (by kernel_rfl) ((Below.refl _ _).drew) (fun hHeld => ?_)
  refine wpAnyH_take (i := 0) (v := ?_) rfl (by kernel_rfl) (by kernel_rfl) (by kernel_rfl) (fun _ _ _ h => h) (Or.inl ⟨by rfl, ?_⟩) (by assumption) ?_
  rotate_left 1
  · first | (intro w hSw; go_simp; done) | (intro w hSw; go_simp; with_reducible rfl)
  try simp only [Act.put, List.getElem_toArray, List.getElem_cons_zero, List.getElem_cons_succ, List.setIfInBounds_toArray, List.set_cons_zero, List.set_cons_succ]
  refine wpAnyH_take (i := 2) (v := ?_) rfl (by kernel_rfl) (by kernel_rfl) (by kernel_rfl) (fun _ _ _ h => h) (Or.inl ⟨by rfl, ?_⟩) (by assumption) ?_
  rotate_left 1
  · first | (intro w hSw; go_simp; done) | (intro w hSw; go_simp; with_reducible rfl)
  try simp only [Act.put, List.getElem_toArray, List.getElem_cons_zero, List.getElem_cons_succ, List.setIfInBounds_toArray, List.set_cons_zero, List.set_cons_succ]
  refine wpAnyH_take (i := 3) (v := ?_) rfl (by kernel_rfl) (by kernel_rfl) (by kernel_rfl) (fun _ _ _ h => h) (Or.inl ⟨by rfl, ?_⟩) (by assumption) ?_
  rotate_left 1
  · first | (intro w hSw; obtain ⟨⟨c0, c1, c2, c3⟩, _⟩ := M_cells ((hSw.block _ (blk_lt HBX.out)).trans HBX.out); go_simp; done) | (intro w hSw; obtain ⟨⟨c0, c1, c2, c3⟩, _⟩ := M_cells ((hSw.block _ (blk_lt HBX.out)).trans HBX.out); go_simp; with_reducible rfl)
  try simp only [Act.put, List.getElem_toArray, List.getElem_cons_zero, List.getElem_cons_succ, List.setIfInBounds_toArray, List.set_cons_zero, List.set_cons_succ]
  refine wpAnyH_ready (rs := [1]) (by kernel_rfl) (by simp) ?_
  refine AllReadyH.cons rfl (fun K hK => ?_) AllReadyH.nil
  go_simp
  refine (state_calls (HW.out.stay (HB0.out.trans (hHeld.mono HB0.out.size)))).mono ?_; rintro e w1 ⟨rfl, rfl⟩; rw [HST.out]
  go_simp
  refine hK.out _ _ hHeld (fun hHeld => ?_)
  clear hK K
  try simp only [Act.put, List.getElem_toArray, List.getElem_cons_zero, List.getElem_cons_succ, List.setIfInBounds_toArray, List.set_cons_zero, List.set_cons_succ]
  refine wpAnyH_take (i := 4) (v := ?_) rfl (by kernel_rfl) (by kernel_rfl) (by kernel_rfl) (fun _ _ _ h => h) (Or.inl ⟨by rfl, ?_⟩) (by assumption) ?_
  rotate_left 1
  · first | (intro w hSw; go_simp; done) | (intro w hSw; go_simp; with_reducible rfl)
  try simp only [Act.put, List.getElem_toArray, List.getElem_cons_zero, List.getElem_cons_succ, List.setIfInBounds_toArray, List.set_cons_zero, List.set_cons_succ]
  refine wpAnyH_take (i := 5) (v := ?_) rfl (by kernel_rfl) (by kernel_rfl) (by kernel_rfl) (fun _ _ _ h => h) (Or.inl ⟨by rfl, ?_⟩) (by assumption) ?_
  rotate_left 1
  · first | (intro w hSw; go_simp; done) | (intro w hSw; go_simp; with_reducible rfl)
  try simp only [Act.put, List.getElem_toArray, List.getElem_cons_zero, List.getElem_cons_succ, List.setIfInBounds_toArray, List.set_cons_zero, List.set_cons_succ]
  refine wpAnyH_take (i := 6) (v := ?_) rfl (by kernel_rfl) (by kernel_rfl) (by kernel_rfl) (fun _ _ _ h => h) (Or.inl ⟨by rfl, ?_⟩) (by assumption) ?_
  rotate_left 1
  · first | (intro w hSw; go_simp; done) | (intro w hSw; go_simp; with_reducible rfl)
  try simp only [Act.put, List.getElem_toArray, List.getElem_cons_zero, List.getElem_cons_succ, List.setIfInBounds_toArray, List.set_cons_zero, List.set_cons_succ]
  refine wpAnyH_take (i := 8) (v := ?_) rfl (by kernel_rfl) (by kernel_rfl) (by kernel_rfl) (fun _ _ _ h => h) (Or.inl ⟨by rfl, ?_⟩) (by assumption) ?_
  rotate_left 1
  · first | (intro w hSw; obtain ⟨⟨c0, c1, c2, c3⟩, _⟩ := M_cells ((hSw.block _ (blk_lt HBX.out)).trans HBX.out); go_simp; done) | (intro w hSw; obtain ⟨⟨c0, c1, c2, c3⟩, _⟩ := M_cells ((hSw.block _ (blk_lt HBX.out)).trans HBX.out); go_simp; with_reducible rfl)
  try simp only [Act.put, List.getElem_toArray, List.getElem_cons_zero, List.getElem_cons_succ, List.setIfInBounds_toArray, List.set_cons_zero, List.set_cons_succ]
  refine wpAnyH_ready (rs := [7]) (by kernel_rfl) (by simp) ?_
  refine AllReadyH.cons rfl (fun K hK => ?_) AllReadyH.nil
  go_simp
  refine (change_calls (HW.out.stay (HB0.out.trans (hHeld.mono HB0.out.size)))).mono ?_; rintro e w1 ⟨rfl, rfl⟩; rw [HLD.out]
  go_simp
  refine hK.out _ _ hHeld (fun hHeld => ?_)
  clear hK K
  try simp only [Act.put, List.getElem_toArray, List.getElem_cons_zero, List.getElem_cons_succ, List.setIfInBounds_toArray, List.set_cons_zero, List.set_cons_succ]
  refine wpAnyH_ready (rs := [9]) (by kernel_rfl) (by simp) ?_
  refine AllReadyH.cons rfl (fun K hK => ?_) AllReadyH.nil
  go_simp
  refine (refChange_calls _ _ _ _ _ _ _).mono ?_; rintro e w1 ⟨rfl, rfl⟩; have hbn := below_step hHeld (below_alloc (Below.refl _ _) (.cells #[.int .i64 st, .slice An M.ns.length cn, .slice As M.said.length cs, .slice Ad ld cd] 28))
  go_simp
  refine hK.out _ _ hbn (fun hHeld => ?_)
  clear hK K
  try simp only [Act.put, List.getElem_toArray, List.getElem_cons_zero, List.getElem_cons_succ, List.setIfInBounds_toArray, List.set_cons_zero, List.set_cons_succ]
  refine wpAnyH_take (i := 10) (v := ?_) rfl (by kernel_rfl) (by kernel_rfl) (by kernel_rfl) (fun _ _ _ h => h) (Or.inl ⟨by rfl, ?_⟩) (by assumption) ?_
  rotate_left 1
  · first | (intro w hSw; go_simp; done) | (intro w hSw; go_simp; with_reducible rfl)
  try simp only [Act.put, List.getElem_toArray, List.getElem_cons_zero, List.getElem_cons_succ, List.setIfInBounds_toArray, List.set_cons_zero, List.set_cons_succ]
  refine wpAnyH_take (i := 11) (v := ?_) rfl (by kernel_rfl) (by kernel_rfl) (by kernel_rfl) (fun _ _ _ h => h) (Or.inl ⟨by rfl, ?_⟩) (by assumption) ?_
  rotate_left 1
  · first | (intro w hSw; go_simp; done) | (intro w hSw; go_simp; with_reducible rfl)
  try simp only [Act.put, List.getElem_toArray, List.getElem_cons_zero, List.getElem_cons_succ, List.setIfInBounds_toArray, List.set_cons_zero, List.set_cons_succ]
  refine wpAnyH_take (i := 12) (v := ?_) rfl (by kernel_rfl) (by kernel_rfl) (by kernel_rfl) (fun _ _ _ h => h) (Or.inl ⟨by rfl, ?_⟩) (by assumption) ?_
  rotate_left 1
  · first | (intro w hSw; go_simp; done) | (intro w hSw; go_simp; with_reducible rfl)
  try simp only [Act.put, List.getElem_toArray, List.getElem_cons_zero, List.getElem_cons_succ, List.setIfInBounds_toArray, List.set_cons_zero, List.set_cons_succ]
  refine wpAnyH_take (i := 13) (v := ?_) rfl (by kernel_rfl) (by kernel_rfl) (by kernel_rfl) (fun _ _ _ h => h) (Or.inl ⟨by rfl, ?_⟩) (by assumption) ?_
  rotate_left 1
  · first | (intro w hSw; go_simp; done) | (intro w hSw; go_simp; with_reducible rfl)
  try simp only [Act.put, List.getElem_toArray, List.getElem_cons_zero, List.getElem_cons_succ, List.setIfInBounds_toArray, List.set_cons_zero, List.set_cons_succ]
  refine wpAnyH_take (i := 15) (v := ?_) rfl (by kernel_rfl) (by kernel_rfl) (by kernel_rfl) (fun _ _ _ h => h) (Or.inl ⟨by rfl, ?_⟩) (by assumption) ?_
  rotate_left 1
  · first | (intro w hSw; obtain ⟨⟨c0, c1, c2, c3⟩, _⟩ := M_cells ((hSw.block _ (blk_lt HBX.out)).trans HBX.out); go_simp; done) | (intro w hSw; obtain ⟨⟨c0, c1, c2, c3⟩, _⟩ := M_cells ((hSw.block _ (blk_lt HBX.out)).trans HBX.out); go_simp; with_reducible rfl)
  try simp only [Act.put, List.getElem_toArray, List.getElem_cons_zero, List.getElem_cons_succ, List.setIfInBounds_toArray, List.set_cons_zero, List.set_cons_succ]
  refine wpAnyH_ready (rs := [14]) (by kernel_rfl) (by simp) ?_
  refine AllReadyH.cons rfl (fun K hK => ?_) AllReadyH.nil
  go_simp
  refine (waits_calls (HW.out.stay (HB0.out.trans (hHeld.mono HB0.out.size))) HR.out.fine).mono ?_; rintro e w1 ⟨va, rfl, hr, hb⟩; rw [HR.out.ws] at hr; obtain ⟨Aa, ca, rfl⟩ := Kd.R_slice hr; have HCa := Lib.hid (Kd.R_reads' hr).2.2; have HBa := Lib.hid hb; have hbn := below_step hHeld hb; clear hr hb
  go_simp
  refine hK.out _ _ hbn (fun hHeld => ?_)
  clear hK K
  try simp only [Act.put, List.getElem_toArray, List.getElem_cons_zero, List.getElem_cons_succ, List.setIfInBounds_toArray, List.set_cons_zero, List.set_cons_succ]
  refine wpAnyH_ready (rs := [16]) (by kernel_rfl) (by simp) ?_
  refine AllReadyH.cons rfl (fun K hK => ?_) AllReadyH.nil
  go_simp
  refine (refWaits_calls _ st An As Ad cn cs ld cd M.ns M.said HR.out.mf.n9 (Kd.C_below HC1.out (HB0.out.trans (hHeld.mono HB0.out.size))) (Kd.C_below HC2.out (HB0.out.trans (hHeld.mono HB0.out.size)))).mono ?_; rintro e w2 ⟨vb, rfl, hr, hb⟩; obtain ⟨Ab, cb, rfl⟩ := Kd.R_slice hr; have HCb := Lib.hid (Kd.R_reads' hr).2.2; have HBb := Lib.hid hb; have hbn := below_step hHeld hb; clear hr hb
  go_simp
  refine hK.out _ _ hbn (fun hHeld => ?_)
  clear hK K
  try simp only [Act.put, List.getElem_toArray, List.getElem_cons_zero, List.getElem_cons_succ, List.setIfInBounds_toArray, List.set_cons_zero, List.set_cons_succ]
  refine wpAnyH_ready (rs := [17]) (by kernel_rfl) (by simp) ?_
  refine AllReadyH.cons rfl (fun K hK => ?_) AllReadyH.nil
  go_simp
  first | (refine (ints_calls _ _ _ (waitsOf M.ns M.said) _ _ (waitsOf M.ns M.said) (Kd.C_below HCa.out HBb.out) HCb.out).mono ?_) | (refine (ints_calls _ _ _ (waitsOf M.ns M.said) _ _ (waitsOf M.ns M.said) HCa.out (Kd.C_below HCb.out HBa.out)).mono ?_)
  rintro e w3 ⟨rfl, ⟨⟨m3, rfl⟩⟩⟩; rw [show decide (waitsOf M.ns M.said = waitsOf M.ns M.said) = true by simp]; have hbn := pw_below_drewN hHeld m3
  go_simp
  refine hK.out _ _ hbn (fun hHeld => ?_)
  clear hK K
  try simp only [Act.put, List.getElem_toArray, List.getElem_cons_zero, List.getElem_cons_succ, List.setIfInBounds_toArray, List.set_cons_zero, List.set_cons_succ]
  refine wpAnyH_take (i := 18) (v := ?_) rfl (by kernel_rfl) (by kernel_rfl) (by kernel_rfl) (fun _ _ _ h => h) (Or.inl ⟨by rfl, ?_⟩) (by assumption) ?_
  rotate_left 1
  · first | (intro w hSw; go_simp; done) | (intro w hSw; go_simp; with_reducible rfl)
  try simp only [Act.put, List.getElem_toArray, List.getElem_cons_zero, List.getElem_cons_succ, List.setIfInBounds_toArray, List.set_cons_zero, List.set_cons_succ]
  refine wpAnyH_take (i := 19) (v := ?_) rfl (by kernel_rfl) (by kernel_rfl) (by kernel_rfl) (fun _ _ _ h => h) (Or.inl ⟨by rfl, ?_⟩) (by assumption) ?_
  rotate_left 1
  · first | (intro w hSw; go_simp; done) | (intro w hSw; go_simp; with_reducible rfl)
  try simp only [Act.put, List.getElem_toArray, List.getElem_cons_zero, List.getElem_cons_succ, List.setIfInBounds_toArray, List.set_cons_zero, List.set_cons_succ]
  refine wpAnyH_take (i := 20) (v := ?_) rfl (by kernel_rfl) (by kernel_rfl) (by kernel_rfl) (fun _ _ _ h => h) (Or.inl ⟨by rfl, ?_⟩) (by assumption) ?_
  rotate_left 1
  · first | (intro w hSw; go_simp; done) | (intro w hSw; go_simp; with_reducible rfl)
  try simp only [Act.put, List.getElem_toArray, List.getElem_cons_zero, List.getElem_cons_succ, List.setIfInBounds_toArray, List.set_cons_zero, List.set_cons_succ]
  refine wpAnyH_take (i := 21) (v := ?_) rfl (by kernel_rfl) (by kernel_rfl) (by kernel_rfl) (fun _ _ _ h => h) (Or.inl ⟨by rfl, ?_⟩) (by assumption) ?_
  rotate_left 1
  · first | (intro w hSw; go_simp; done) | (intro w hSw; go_simp; with_reducible rfl)
  try simp only [Act.put, List.getElem_toArray, List.getElem_cons_zero, List.getElem_cons_succ, List.setIfInBounds_toArray, List.set_cons_zero, List.set_cons_succ]
  refine wpAnyH_take (i := 23) (v := ?_) rfl (by kernel_rfl) (by kernel_rfl) (by kernel_rfl) (fun _ _ _ h => h) (Or.inl ⟨by rfl, ?_⟩) (by assumption) ?_
  rotate_left 1
  · first | (intro w hSw; obtain ⟨⟨c0, c1, c2, c3⟩, _⟩ := M_cells ((hSw.block _ (blk_lt HBX.out)).trans HBX.out); go_simp; done) | (intro w hSw; obtain ⟨⟨c0, c1, c2, c3⟩, _⟩ := M_cells ((hSw.block _ (blk_lt HBX.out)).trans HBX.out); go_simp; with_reducible rfl)
  try simp only [Act.put, List.getElem_toArray, List.getElem_cons_zero, List.getElem_cons_succ, List.setIfInBounds_toArray, List.set_cons_zero, List.set_cons_succ]
  refine wpAnyH_take (i := 24) (v := ?_) rfl (by kernel_rfl) (by kernel_rfl) (by kernel_rfl) (fun _ _ _ h => h) (Or.inl ⟨by rfl, ?_⟩) (by assumption) ?_
  rotate_left 1
  · first | (intro w hSw; go_simp; done) | (intro w hSw; go_simp; with_reducible rfl)
  try simp only [Act.put, List.getElem_toArray, List.getElem_cons_zero, List.getElem_cons_succ, List.setIfInBounds_toArray, List.set_cons_zero, List.set_cons_succ]
  refine wpAnyH_ready (rs := [22]) (by kernel_rfl) (by simp) ?_
  refine AllReadyH.cons rfl (fun K hK => ?_) AllReadyH.nil
  go_simp
  refine (decided_calls (HW.out.stay (HB0.out.trans (hHeld.mono HB0.out.size))) HR.out.fine change).mono ?_; rintro e w1 ⟨rfl, rfl⟩; rw [HAD.out]
  go_simp
  refine hK.out _ _ hHeld (fun hHeld => ?_)
  clear hK K
  try simp only [Act.put, List.getElem_toArray, List.getElem_cons_zero, List.getElem_cons_succ, List.setIfInBounds_toArray, List.set_cons_zero, List.set_cons_succ]
  refine wpAnyH_ready (rs := [25]) (by kernel_rfl) (by simp) ?_
  refine AllReadyH.cons rfl (fun K hK => ?_) AllReadyH.nil
  go_simp
  rw [HL2.out]; refine (refDecided_calls _ st An As Ad _ cn _ cs cd M.dc change HR.out.mf.dm (Kd.C_below HC3.out (HB0.out.trans (hHeld.mono HB0.out.size)))).mono ?_; rintro e w1 ⟨rfl, hb⟩; rw [HAV.out, ← HL2.out]; have hbn := below_step hHeld hb; clear hb
  go_simp
  refine hK.out _ _ hbn (fun hHeld => ?_)
  clear hK K
  try simp only [Act.put, List.getElem_toArray, List.getElem_cons_zero, List.getElem_cons_succ, List.setIfInBounds_toArray, List.set_cons_zero, List.set_cons_succ]
  refine wpAnyH_take (i := 26) (v := ?_) rfl (by kernel_rfl) (by kernel_rfl) (by kernel_rfl) (fun _ _ _ h => h) (Or.inl ⟨by rfl, ?_⟩) (by assumption) ?_
  rotate_left 1
  · first | (intro w hSw; go_simp; done) | (intro w hSw; go_simp; with_reducible rfl)
  try simp only [Act.put, List.getElem_toArray, List.getElem_cons_zero, List.getElem_cons_succ, List.setIfInBounds_toArray, List.set_cons_zero, List.set_cons_succ]
  refine wpAnyH_take (i := 27) (v := ?_) rfl (by kernel_rfl) (by kernel_rfl) (by kernel_rfl) (fun _ _ _ h => h) (Or.inl ⟨by rfl, ?_⟩) (by assumption) ?_
  rotate_left 1
  · first | (intro w hSw; go_simp; done) | (intro w hSw; go_simp; with_reducible rfl)
  try simp only [Act.put, List.getElem_toArray, List.getElem_cons_zero, List.getElem_cons_succ, List.setIfInBounds_toArray, List.set_cons_zero, List.set_cons_succ]
  refine wpAnyH_take (i := 28) (v := ?_) rfl (by kernel_rfl) (by kernel_rfl) (by kernel_rfl) (fun _ _ _ h => h) (Or.inl ⟨by rfl, ?_⟩) (by assumption) ?_
  rotate_left 1
  · first | (intro w hSw; go_simp; done) | (intro w hSw; go_simp; with_reducible rfl)
  try simp only [Act.put, List.getElem_toArray, List.getElem_cons_zero, List.getElem_cons_succ, List.setIfInBounds_toArray, List.set_cons_zero, List.set_cons_succ]
  refine wpAnyH_done (by kernel_rfl) ?_ _
  refine NoPanic.normal ?_
  go_wp2
  go_ret
  exact ⟨rfl, (HB0.out.trans (hHeld.mono HB0.out.size))⟩
end Go.Proofs.YtmhfigkdeeldnaaDoor
