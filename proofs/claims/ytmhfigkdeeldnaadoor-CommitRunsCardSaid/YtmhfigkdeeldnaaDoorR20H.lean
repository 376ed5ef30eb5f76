/- CommitRuns: step. Printed by wip/mk20h.py. -/
import Derived.Test.YtmhfigkdeeldnaaDoorR20G
import Derived.Deep.CutBlock
namespace Go.Proofs.YtmhfigkdeeldnaaDoor
open Go.RowKit Go.Proofs.YtmhfigkdeeldnaaDoorW.PrintWords Go.Proofs.YtmhfigkdeeldnaaDoorW.PrintLast Go.Proofs.YtmhfigkdeeldnaaDoorW.PrintMore
set_option linter.unusedVariables false
set_option linter.unusedSimpArgs false
theorem O_cells {W : World} {b : Nat} {k c m : Int} {A : Option Addr} {l q : Nat} (h : W.heap[b]? = some (.cells #[.int .i64 k, .int .i64 c, .int .i64 m, .slice A l q] 30 (0, 0))) :
    W.cell? ⟨b, 0, none⟩ = some (.int .i64 k) ∧ W.cell? ⟨b, 1, none⟩ = some (.int .i64 c) ∧ W.cell? ⟨b, 2, none⟩ = some (.int .i64 m) ∧ W.cell? ⟨b, 3, none⟩ = some (.slice A l q) := by
  refine ⟨?_, ?_, ?_, ?_⟩ <;> (unfold World.cell?; rw [h]; rfl)
theorem errV_0 : errV 0 = .nilIface := rfl
def erOf (c : Int) : Er := if c = 0 then .ok else .num c
theorem isEr_errV (w : World) (b : Nat) (c : Int) : IsEr w b (erOf c) (errV c) := by
  unfold erOf errV
  by_cases h : c = 0
  · rw [if_pos h, if_pos h]; rfl
  · rw [if_neg h, if_neg h]; rfl
theorem isE_eV (w : World) (c : Int) : IsE w (erOf c) (.agg #[.bool (!(c == 0)), .slice none 0 0, .int .i64 c]) := by
  unfold erOf
  by_cases h : c = 0
  · subst h; rfl
  · rw [if_neg h]
    have : (!(c == 0)) = true := by simpa using h
    rw [this]
    rfl
/-- In the midst of step. -/
structure StepW (w wx : World) (lo : Nat) (K0 K : Nat → Prop) (p : Nat) (D : Dk) (M : RD) (An : Option Addr) (cn : Nat) (As : Option Addr) (cs : Nat) (Ad : Option Addr) (cd : Nat) (k ch n : Int) (A3 : Option Addr) (l3 c3 : Nat) (bad : Bool) (code : Int) : Prop where
  desk : IsDesk wx lo K D p
  box : wx.heap[w.heap.size]? = some (.cells #[.int .i64 M.st, .slice An M.ns.length cn, .slice As M.said.length cs, .slice Ad M.dc.length cd] 28 (0, 0))
  op : wx.heap[w.heap.size + 1]? = some (.cells #[.int .i64 k, .int .i64 ch, .int .i64 n, .slice A3 l3 c3] 30 (0, 0))
  res : wx.heap[w.heap.size + 2]? = some (.cells #[.int .i64 0, .slice none 0 0, .slice none 0 0, .slice none 0 0] 28 (0, 0))
  err : wx.heap[w.heap.size + 3]? = some (.cells #[.bool bad, .slice none 0 0, .int .i64 code] 38 (0, 0))
  rows : RdAt wx lo (fun b => ¬ K b) M An cn As cs Ad cd
  moved : Moved w wx lo K0 K
  far : ∀ b, w.heap.size ≤ b → b < w.heap.size + 4 → ¬ K b
section
variable {w wx w1 : World} {lo p cn cs cd l3 c3 cn' cs' cd' : Nat} {K0 K : Nat → Prop} {D D' : Dk} {M M' : RD} {An As Ad A3 An' As' Ad' : Option Addr} {k ch n code code' : Int} {bad bad' : Bool}
theorem StepW.size (h : StepW w wx lo K0 K p D M An cn As cs Ad cd k ch n A3 l3 c3 bad code) : w.heap.size + 4 ≤ wx.heap.size := by have := blk_lt h.err; omega
theorem StepW.low (h : StepW w wx lo K0 K p D M An cn As cs Ad cd k ch n A3 l3 c3 bad code) : lo ≤ wx.heap.size := by obtain ⟨_, _, _, _, _, _, z⟩ := h.desk; exact z.low
theorem StepW.hok (h : StepW w wx lo K0 K p D M An cn As cs Ad cd k ch n A3 l3 c3 bad code) : ∀ b, wx.heap.size ≤ b → ¬ K b := fun b hb hc => by have := (h.desk.kb b hc).2; omega
theorem rows_step (hr : RdAt wx lo (fun b => ¬ K b) M An cn As cs Ad cd) {K' : Nat → Prop} (hm : Moved wx w1 lo K K') : RdAt w1 lo (fun b => ¬ K' b) M An cn As cs Ad cd := by
  have one : ∀ {e : Nat} {v : Value} {xs : List Int}, (Kd.int .i64).R e wx lo (fun b => ¬ K b) v xs → (Kd.int .i64).R e w1 lo (fun b => ¬ K' b) v xs := by
    intro e v xs h
    have h1 := R_far_own h hm.kept (fun k hk => h.1 k hk)
    refine Kd.R_reok (d := Kd.int .i64) rfl h1 (fun k hk hc => ?_)
    rcases hm.new k hc with h2 | h2
    · exact h.1 k hk h2
    · have := Kd.R_lt h k hk
      omega
  exact ⟨one hr.rn, one hr.rs, one hr.rd⟩
theorem StepW.real (h : StepW w wx lo K0 K p D M An cn As cs Ad cd k ch n A3 l3 c3 bad code) (hl : Leaves wx lo K p D' w1) : ∃ K', StepW w w1 lo K0 K' p D' M An cn As cs Ad cd k ch n A3 l3 c3 bad code := by
  obtain ⟨K', h1, h2⟩ := hl
  have hs := h.size
  have keep : ∀ b o, w.heap.size ≤ b → b < w.heap.size + 4 → wx.heap[b]? = some o → w1.heap[b]? = some o := fun b o hb1 hb2 hb => (h2.kept.2 b (blk_lt hb) (h.far b hb1 hb2)).trans hb
  refine ⟨K', h1, keep _ _ (by omega) (by omega) h.box, keep _ _ (by omega) (by omega) h.op, keep _ _ (by omega) (by omega) h.res, keep _ _ (by omega) (by omega) h.err, rows_step h.rows h2, h.moved.trans h2, fun b hb1 hb2 hc => ?_⟩
  rcases h2.new b hc with h3 | h3
  · exact h.far b hb1 hb2 h3
  · omega
theorem StepW.below (h : StepW w wx lo K0 K p D M An cn As cs Ad cd k ch n A3 l3 c3 bad code) (hb : Below wx.heap.size wx w1) : StepW w w1 lo K0 K p D M An cn As cs Ad cd k ch n A3 l3 c3 bad code :=
  ⟨h.desk.stay hb, (hb.block _ (blk_lt h.box)).trans h.box, (hb.block _ (blk_lt h.op)).trans h.op, (hb.block _ (blk_lt h.res)).trans h.res, (hb.block _ (blk_lt h.err)).trans h.err, h.rows.below hb, ⟨h.moved.below.trans (hb.mono h.low), h.moved.kept.then_ (Kept.of_below hb K) h.moved.new, h.moved.new⟩, h.far⟩
theorem desk_put {g i : Nat} (hd : IsDesk wx lo K D p) (hg : ¬ K g) (u : Value) : IsDesk (wx.setCell ⟨g, i, none⟩ u) lo K D p := hd.move (fun b hb => Below.heap_setCell _ _ _ _ (fun (e : b = g) => hg (e ▸ hb))) (by rw [set_size]; exact Nat.le_refl _)
theorem moved_put {g i : Nat} (hm : Moved w wx lo K0 K) (hg : w.heap.size ≤ g) (hlo : lo ≤ w.heap.size) (u : Value) : Moved w (wx.setCell ⟨g, i, none⟩ u) lo K0 K :=
  ⟨hm.below.setCell (Nat.le_trans hlo hg) _, ⟨by rw [set_size]; exact hm.kept.1, fun b hb hn => (Below.heap_setCell _ _ _ _ (show b ≠ g by omega)).trans (hm.kept.2 b hb hn)⟩, hm.new⟩
theorem StepW.store (h : StepW w wx lo K0 K p D M An cn As cs Ad cd k ch n A3 l3 c3 bad code) (hlo : lo ≤ w.heap.size) (hr : RdAt wx lo (fun b => ¬ K b) M' An' cn' As' cs' Ad' cd') :
    StepW w (((((((wx.setCell ⟨w.heap.size, 0, none⟩ (.int .i64 M'.st)).setCell ⟨w.heap.size, 1, none⟩ (.slice An' M'.ns.length cn')).setCell ⟨w.heap.size, 2, none⟩ (.slice As' M'.said.length cs')).setCell ⟨w.heap.size, 3, none⟩ (.slice Ad' M'.dc.length cd')).setCell ⟨w.heap.size + 3, 0, none⟩ (.bool bad')).setCell ⟨w.heap.size + 3, 1, none⟩ (.slice none 0 0)).setCell ⟨w.heap.size + 3, 2, none⟩ (.int .i64 code')) lo K0 K p D M' An' cn' As' cs' Ad' cd' k ch n A3 l3 c3 bad' code' := by
  have f0 := h.far w.heap.size (by omega) (by omega)
  have f3 := h.far (w.heap.size + 3) (by omega) (by omega)
  refine ⟨desk_put (desk_put (desk_put (desk_put (desk_put (desk_put (desk_put h.desk f0 _) f0 _) f0 _) f0 _) f3 _) f3 _) f3 _, put_back (M_put h.box _ _ _ _) (by omega) _ _ _, put_back (put_both h.op (by omega) _ _ _ _) (by omega) _ _ _, put_back (put_both h.res (by omega) _ _ _ _) (by omega) _ _ _, E_put (put_both h.err (by omega) _ _ _ _) _ _ _,
    (hr.put4 h.box (by decide) _ _ _ _).put3 (put_both h.err (by omega) _ _ _ _) (by decide) _ _ _, ?_, h.far⟩
  exact moved_put (moved_put (moved_put (moved_put (moved_put (moved_put (moved_put h.moved (Nat.le_refl _) hlo _) (Nat.le_refl _) hlo _) (Nat.le_refl _) hlo _) (Nat.le_refl _) hlo _) (by omega) hlo _) (by omega) hlo _) (by omega) hlo _
theorem StepW.store4 (h : StepW w wx lo K0 K p D M An cn As cs Ad cd k ch n A3 l3 c3 bad code) (hlo : lo ≤ w.heap.size) (hr : RdAt wx lo (fun b => ¬ K b) M' An' cn' As' cs' Ad' cd') :
    StepW w ((((wx.setCell ⟨w.heap.size, 0, none⟩ (.int .i64 M'.st)).setCell ⟨w.heap.size, 1, none⟩ (.slice An' M'.ns.length cn')).setCell ⟨w.heap.size, 2, none⟩ (.slice As' M'.said.length cs')).setCell ⟨w.heap.size, 3, none⟩ (.slice Ad' M'.dc.length cd')) lo K0 K p D M' An' cn' As' cs' Ad' cd' k ch n A3 l3 c3 bad code := by
  have f0 := h.far w.heap.size (by omega) (by omega)
  refine ⟨desk_put (desk_put (desk_put (desk_put h.desk f0 _) f0 _) f0 _) f0 _, M_put h.box _ _ _ _, put_both h.op (by omega) _ _ _ _, put_both h.res (by omega) _ _ _ _, put_both h.err (by omega) _ _ _ _, hr.put4 h.box (by decide) _ _ _ _, ?_, h.far⟩
  exact moved_put (moved_put (moved_put (moved_put h.moved (Nat.le_refl _) hlo _) (Nat.le_refl _) hlo _) (Nat.le_refl _) hlo _) (Nat.le_refl _) hlo _
end
/-- What step leaves. -/
def StepPost (w : World) (lo : Nat) (K0 : Nat → Prop) (p : Nat) (m : Nat) (e : Ending) (w' : World) : Prop :=
  ∃ K D M v, e = .returned (.tuple #[v, .bool true]) ∧ IsDesk w' lo K D p ∧ Rel D M ∧ RdR w' lo (fun b => ¬ K b) v M ∧ Moved w w' lo K0 K ∧ D.dc.length ≤ m
theorem StepPost.of {w wx : World} {lo p cn cs cd l3 c3 m : Nat} {K0 K : Nat → Prop} {D : Dk} {M : RD} {An As Ad A3 : Option Addr} {k ch n code : Int} {bad : Bool} (h : StepW w wx lo K0 K p D M An cn As cs Ad cd k ch n A3 l3 c3 bad code) (hr : Rel D M) (hlo : lo ≤ w.heap.size) (hm : D.dc.length ≤ m) :
    StepPost w lo K0 p m (.returned (.tuple #[.agg #[.int .i64 M.st, .slice An M.ns.length cn, .slice As M.said.length cs, .slice Ad M.dc.length cd], .bool true])) ((((wx.setCell ⟨w.heap.size + 2, 0, none⟩ (.int .i64 M.st)).setCell ⟨w.heap.size + 2, 1, none⟩ (.slice An M.ns.length cn)).setCell ⟨w.heap.size + 2, 2, none⟩ (.slice As M.said.length cs)).setCell ⟨w.heap.size + 2, 3, none⟩ (.slice Ad M.dc.length cd)) := by
  have f2 := h.far (w.heap.size + 2) (by omega) (by omega)
  refine ⟨K, D, M, _, rfl, desk_put (desk_put (desk_put (desk_put h.desk f2 _) f2 _) f2 _) f2 _, hr, (h.rows.put4 h.res (by decide) _ _ _ _).value, ?_, hm⟩
  exact moved_put (moved_put (moved_put (moved_put h.moved (by omega) hlo _) (by omega) hlo _) (by omega) hlo _) (by omega) hlo _
theorem say_len (D : Dk) (node : Int) : (D.say node).dc.length = D.dc.length := by
  unfold Dk.say
  split
  · rfl
  · split
    · simp [Dk.decide]
    · rfl
theorem sayR_len (D : Dk) (node : Int) : (D.sayR node).2.dc.length = D.dc.length := by
  unfold Dk.sayR
  split
  · rfl
  · split
    · rfl
    · exact say_len D node
theorem ready_len (D : Dk) (i node : Int) : (D.readyR i node).2.dc.length = D.dc.length := by
  unfold Dk.readyR
  split
  · exact sayR_len D node
  · rfl
theorem done_len (D : Dk) (i node : Int) : (D.doneR i node).2.dc.length = D.dc.length := by
  unfold Dk.doneR
  split
  · exact sayR_len D node
  · rfl
theorem cancel_len (D : Dk) (i : Int) : (D.cancelR i).2.dc.length = D.dc.length := by
  unfold Dk.cancelR
  split
  · simp [Dk.decide]
  · rfl
theorem recover_len (D : Dk) : D.recoverR.dc.length = D.dc.length := by
  unfold Dk.recoverR
  split
  · simp [Dk.decide]
  · rfl
theorem begin_len (D : Dk) (xs : List Int) : (D.beginR xs).2.2.dc.length ≤ D.dc.length + 1 := by
  unfold Dk.beginR
  split
  · simp
  · split
    · simp
    · simp [Dk.begin_]
set_option maxRecDepth 100000 in
set_option maxHeartbeats 4000000 in
theorem step_other {w : World} {lo p cn cs cd c3 m : Nat} {K0 : Nat → Prop} {D : Dk} {M : RD} {An As Ad A3 : Option Addr} {kind change node : Int} {nodes : List Int} (hg : ∀ w', Below lo w w' → Laid w') (hW : IsDesk w lo K0 D p) (hR : Rel D M) (hv : RdAt w lo (fun k => ¬ K0 k) M An cn As cs Ad cd) (hnd : ∀ w', Below lo w w' → (Kd.int .i64).C w' A3 nodes.length nodes) (hn50 : nodes.length ≤ 50) (hm : D.dc.length < m) (hm2 : m ≤ 1000) (h0 : kind ≠ 0) :
    Calls Tryd.prog 7 #[.pointer (some ⟨p, 0, none⟩), .agg #[.int .i64 M.st, .slice An M.ns.length cn, .slice As M.said.length cs, .slice Ad M.dc.length cd], .agg #[.int .i64 kind, .int .i64 change, .int .i64 node, .slice A3 nodes.length c3]] w (StepPost w lo K0 p m) := by
  have HG := Lib.hid hg
  have HR := Lib.hid hR
  have HM := Lib.hid hm
  have HM2 := Lib.hid hm2
  have HN := Lib.hid hnd
  have H50 := Lib.hid hn50
  have HLO := Lib.hid (show lo ≤ w.heap.size by obtain ⟨_, _, _, _, _, _, z⟩ := hW; exact z.low)
  have HF := Lib.hid hR.fine
  have HMF := Lib.hid hR.mf
  have n50 : (nodes.length : Int) ≤ 50 := by omega
  have hb4 : Below w.heap.size w ((((w.alloc (.cells #[.int .i64 M.st, .slice An M.ns.length cn, .slice As M.said.length cs, .slice Ad M.dc.length cd] 28)).alloc (.cells #[.int .i64 kind, .int .i64 change, .int .i64 node, .slice A3 nodes.length c3] 30)).alloc (.cells #[.int .i64 0, .slice none 0 0, .slice none 0 0, .slice none 0 0] 28)).alloc (.cells #[.bool false, .slice none 0 0, .int .i64 0] 38)) := below_alloc (below_alloc (below_alloc (below_alloc (Below.refl _ _) _) _) _) _
  have H0 := Aside0.mk (show StepW w ((((w.alloc (.cells #[.int .i64 M.st, .slice An M.ns.length cn, .slice As M.said.length cs, .slice Ad M.dc.length cd] 28)).alloc (.cells #[.int .i64 kind, .int .i64 change, .int .i64 node, .slice A3 nodes.length c3] 30)).alloc (.cells #[.int .i64 0, .slice none 0 0, .slice none 0 0, .slice none 0 0] 28)).alloc (.cells #[.bool false, .slice none 0 0, .int .i64 0] 38)) lo K0 K0 p D M An cn As cs Ad cd kind change node A3 nodes.length c3 false 0 from
    ⟨hW.stay hb4, (heap_keep _ _ (by simp only [alloc_size]; omega)).trans ((heap_keep _ _ (by simp only [alloc_size]; omega)).trans ((heap_keep _ _ (by simp only [alloc_size]; omega)).trans (heap_alloc_new _ _))), (heap_keep _ _ (by simp only [alloc_size]; omega)).trans ((heap_keep _ _ (by simp only [alloc_size]; omega)).trans (heap_alloc_here _ _ _ (by simp only [alloc_size]))), (heap_keep _ _ (by simp only [alloc_size]; omega)).trans (heap_alloc_here _ _ _ (by simp only [alloc_size])), heap_alloc_here _ _ _ (by simp only [alloc_size]),
      hv.below hb4, ⟨hb4.mono HLO.out, Kept.of_below hb4 K0, fun k hk => .inl hk⟩, fun b hb1 hb2 hc => by have := (hW.kb b hc).2; omega⟩)
  clear hg hW hR hv hnd hn50 hm hm2 hb4
  go_enter Tryd.func7, Tryd.ntmps7
  go_upto_region 3 with (fail)
  obtain ⟨w0, hw0⟩ : ∃ w0, w0 = (((w.alloc (.cells #[.int .i64 M.st, .slice An M.ns.length cn, .slice As M.said.length cs, .slice Ad M.dc.length cd] 28)).alloc (.cells #[.int .i64 kind, .int .i64 change, .int .i64 node, .slice A3 nodes.length c3] 30)).alloc (.cells #[.int .i64 0, .slice none 0 0, .slice none 0 0, .slice none 0 0] 28)).alloc (.cells #[.bool false, .slice none 0 0, .int .i64 0] 38) := ⟨_, rfl⟩
  rw [← hw0] at H0 ⊢
  clear hw0
  obtain ⟨o0, o1, o2, o3⟩ := O_cells H0.out.op
  have b0 : (kind == 0) = false := beq_eq_false_iff_ne.2 h0
  go_upto_block 0 with (fail)
  go_cut [9] (fun s9 wx => ∃ K9 D9 M9 An9 cn9 As9 cs9 Ad9 cd9 code9, s9 = errV code9 ∧ Aside0 (StepW w wx lo K0 K9 p D9 M9 An9 cn9 As9 cs9 Ad9 cd9 kind change node A3 nodes.length c3 (!(code9 == 0)) code9) ∧ Hid (Rel D9 M9 ∧ D9.dc.length ≤ m))
  case first =>
    by_cases e1 : kind = 1
    · have k1 : (kind == 1) = true := beq_iff_eq.2 e1
      clear e1 h0
      have HRL := Lib.hid (HR.out.ready change node)
      go_wp2_with (first
        | (go_at_call 21; refine (refReady_calls H1.out.rows.value HMF.out H1.out.hok H1.out.low change node).mono ?_; rintro e w2 ⟨An9, cn9, As9, cs9, Ad9, cd9, rfl, hr, hb⟩; have H2 := Aside0.mk (H1.out.below hb); have HR2 := Aside0.mk hr; obtain ⟨⟨g0, g1, g2, g3⟩, g4, g5, g6, g7⟩ := M_cells H2.out.box; obtain ⟨⟨q0, q1, q2⟩, q3, q4, q5⟩ := E_cells (x := (0, 0)) (put_both H2.out.err (show w.heap.size ≠ w.heap.size + 3 by omega) (.int .i64 (M.readyM change node).2.st) (.slice An9 (M.readyM change node).2.ns.length cn9) (.slice As9 (M.readyM change node).2.said.length cs9) (.slice Ad9 (M.readyM change node).2.dc.length cd9)); clear hr hb b0 b1 b2 b3)
        | (go_at_call 13; refine (ready_calls H0.out.desk HF.out change node).mono ?_; rintro e w1 ⟨rfl, hl⟩; obtain ⟨K1, h1⟩ := H0.out.real hl; have H1 := Aside0.mk h1; obtain ⟨⟨b0, b1, b2, b3⟩, _⟩ := M_cells H1.out.box; obtain ⟨o0, o1, o2, o3⟩ := O_cells H1.out.op; clear hl h1))
      go_meet
      case rel =>
        refine ⟨K1, (D.readyR change node).2, (M.readyM change node).2, An9, cn9, As9, cs9, Ad9, cd9, (M.readyM change node).1, ?_, ⟨H2.out.store HLO.out HR2.out⟩, HRL.out.2, ?_⟩
        · rw [← HRL.out.1]
        · have := HM.out; have hlen := ready_len D change node; omega
    · have k1 : (kind == 1) = false := beq_eq_false_iff_ne.2 e1
      clear e1
      by_cases e2 : kind = 2
      · have k2 : (kind == 2) = true := beq_iff_eq.2 e2
        clear e2 h0
        have HRL := Lib.hid (HR.out.done change node)
        go_wp2_with (first
          | (go_at_call 22; refine (refDone_calls H1.out.rows.value HMF.out H1.out.hok H1.out.low change node).mono ?_; rintro e w2 ⟨An9, cn9, As9, cs9, Ad9, cd9, rfl, hr, hb⟩; have H2 := Aside0.mk (H1.out.below hb); have HR2 := Aside0.mk hr; obtain ⟨⟨g0, g1, g2, g3⟩, g4, g5, g6, g7⟩ := M_cells H2.out.box; obtain ⟨⟨q0, q1, q2⟩, q3, q4, q5⟩ := E_cells (x := (0, 0)) (put_both H2.out.err (show w.heap.size ≠ w.heap.size + 3 by omega) (.int .i64 (M.doneM change node).2.st) (.slice An9 (M.doneM change node).2.ns.length cn9) (.slice As9 (M.doneM change node).2.said.length cs9) (.slice Ad9 (M.doneM change node).2.dc.length cd9)); clear hr hb b0 b1 b2 b3)
          | (go_at_call 14; refine (done_calls H0.out.desk HF.out change node).mono ?_; rintro e w1 ⟨rfl, hl⟩; obtain ⟨K1, h1⟩ := H0.out.real hl; have H1 := Aside0.mk h1; obtain ⟨⟨b0, b1, b2, b3⟩, _⟩ := M_cells H1.out.box; obtain ⟨o0, o1, o2, o3⟩ := O_cells H1.out.op; clear hl h1))
        go_meet
        case rel =>
          refine ⟨K1, (D.doneR change node).2, (M.doneM change node).2, An9, cn9, As9, cs9, Ad9, cd9, (M.doneM change node).1, ?_, ⟨H2.out.store HLO.out HR2.out⟩, HRL.out.2, ?_⟩
          · rw [← HRL.out.1]
          · have := HM.out; have hlen := done_len D change node; omega
      · have k2 : (kind == 2) = false := beq_eq_false_iff_ne.2 e2
        clear e2
        by_cases e3 : kind = 3
        · have k3 : (kind == 3) = true := beq_iff_eq.2 e3
          clear e3 h0
          have HRL := Lib.hid (HR.out.cancel change)
          go_wp2_with (first
            | (go_at_call 23; refine (refCancel_calls H1.out.rows.value HMF.out H1.out.hok H1.out.low change).mono ?_; rintro e w2 ⟨An9, cn9, As9, cs9, Ad9, cd9, rfl, hr, hb⟩; have H2 := Aside0.mk (H1.out.below hb); have HR2 := Aside0.mk hr; obtain ⟨⟨g0, g1, g2, g3⟩, g4, g5, g6, g7⟩ := M_cells H2.out.box; obtain ⟨⟨q0, q1, q2⟩, q3, q4, q5⟩ := E_cells (x := (0, 0)) (put_both H2.out.err (show w.heap.size ≠ w.heap.size + 3 by omega) (.int .i64 (M.cancelM change).2.st) (.slice An9 (M.cancelM change).2.ns.length cn9) (.slice As9 (M.cancelM change).2.said.length cs9) (.slice Ad9 (M.cancelM change).2.dc.length cd9)); clear hr hb b0 b1 b2 b3)
            | (go_at_call 15; refine (cancel_calls H0.out.desk HF.out change).mono ?_; rintro e w1 ⟨rfl, hl⟩; obtain ⟨K1, h1⟩ := H0.out.real hl; have H1 := Aside0.mk h1; obtain ⟨⟨b0, b1, b2, b3⟩, _⟩ := M_cells H1.out.box; obtain ⟨o0, o1, o2, o3⟩ := O_cells H1.out.op; clear hl h1))
          go_meet
          case rel =>
            refine ⟨K1, (D.cancelR change).2, (M.cancelM change).2, An9, cn9, As9, cs9, Ad9, cd9, (M.cancelM change).1, ?_, ⟨H2.out.store HLO.out HR2.out⟩, HRL.out.2, ?_⟩
            · rw [← HRL.out.1]
            · have := HM.out; have hlen := cancel_len D change; omega
        · have k3 : (kind == 3) = false := beq_eq_false_iff_ne.2 e3
          clear e3
          by_cases e4 : kind = 4
          · have k4 : (kind == 4) = true := beq_iff_eq.2 e4
            clear e4 h0
            have HRL := Lib.hid HR.out.recover
            go_wp2_with (first
              | (go_at_call 24; refine (refRecover_calls H1.out.rows.value HMF.out H1.out.hok H1.out.low).mono ?_; rintro e w2 ⟨An9, cn9, As9, cs9, Ad9, cd9, rfl, hr, hb⟩; have H2 := Aside0.mk (H1.out.below hb); have HR2 := Aside0.mk hr; obtain ⟨⟨g0, g1, g2, g3⟩, g4, g5, g6, g7⟩ := M_cells H2.out.box; clear hr hb b0 b1 b2 b3)
              | (go_at_call 11; refine (recover_calls H0.out.desk HF.out).mono ?_; rintro e w1 ⟨rfl, hl⟩; obtain ⟨K1, h1⟩ := H0.out.real hl; have H1 := Aside0.mk h1; obtain ⟨⟨b0, b1, b2, b3⟩, _⟩ := M_cells H1.out.box; obtain ⟨o0, o1, o2, o3⟩ := O_cells H1.out.op; clear hl h1))
            go_meet
            case rel =>
              refine ⟨K1, D.recoverR, M.recoverM, An9, cn9, As9, cs9, Ad9, cd9, 0, rfl, ⟨H2.out.store4 HLO.out HR2.out⟩, HRL.out, ?_⟩
              have := HM.out
              have hlen := recover_len D
              omega
          · have k4 : (kind == 4) = false := beq_eq_false_iff_ne.2 e4
            clear e4 h0
            go_wp2
            go_meet
            case rel => exact ⟨K0, D, M, An, cn, As, cs, Ad, cd, 0, rfl, H0, HR.out, by have := HM.out; omega⟩
  case rest =>
    obtain ⟨K9, D9, M9, An9, cn9, As9, cs9, Ad9, cd9, code9, rfl, H7, HRL⟩ := hcut
    clear H0 o0 o1 o2 o3
    go_wp2
    refine wp_region_noPanic ?_
    refine wp_region_held_drew (S := fun W => W.heap[w.heap.size]? = some (.cells #[.int .i64 M9.st, .slice An9 M9.ns.length cn9, .slice As9 M9.said.length cs9, .slice Ad9 M9.dc.length cd9] 28 (0, 0)) ∧ W.heap[w.heap.size + 3]? = some (.cells #[.bool (!(code9 == 0)), .slice none 0 0, .int .i64 code9] 38 (0, 0))) (by kernel_rfl) ⟨H7.out.box, H7.out.err⟩ (fun hHeld => ?_)
    have H9 := Aside0.mk (H7.out.below (Below.refl _ _).drew)
    obtain ⟨wd, hwd⟩ : ∃ wd, wd = wc.drew := ⟨_, rfl⟩
    rw [← hwd] at H9 hHeld ⊢
    clear hwd
    refine wpAnyH_take (i := 0) (v := ?_) rfl (by kernel_rfl) (by kernel_rfl) (by kernel_rfl) (fun _ _ _ h => h) (Or.inl ⟨by rfl, ?_⟩) (by assumption) ?_
    rotate_left 1
    · first | (intro w hSw; obtain ⟨⟨c0, c1, c2, c3⟩, _⟩ := M_cells hSw.1; go_simp; done) | (intro w hSw; obtain ⟨⟨c0, c1, c2, c3⟩, _⟩ := M_cells hSw.1; go_simp; with_reducible rfl)
    try simp only [Act.put, List.getElem_toArray, List.getElem_cons_zero, List.getElem_cons_succ, List.setIfInBounds_toArray, List.set_cons_zero, List.set_cons_succ]
    refine wpAnyH_take (i := 1) (v := ?_) rfl (by kernel_rfl) (by kernel_rfl) (by kernel_rfl) (fun _ _ _ h => h) (Or.inl ⟨by rfl, ?_⟩) (by assumption) ?_
    rotate_left 1
    · first | (intro w hSw; go_simp; done) | (intro w hSw; go_simp; with_reducible rfl)
    try simp only [Act.put, List.getElem_toArray, List.getElem_cons_zero, List.getElem_cons_succ, List.setIfInBounds_toArray, List.set_cons_zero, List.set_cons_succ]
    refine wpAnyH_take (i := 2) (v := ?_) rfl (by kernel_rfl) (by kernel_rfl) (by kernel_rfl) (fun _ _ _ h => h) (Or.inl ⟨by rfl, ?_⟩) (by assumption) ?_
    rotate_left 1
    · first | (intro w hSw; obtain ⟨⟨c0, c1, c2⟩, _⟩ := E_cells (x := (0, 0)) hSw.2; go_simp; done) | (intro w hSw; obtain ⟨⟨c0, c1, c2⟩, _⟩ := E_cells (x := (0, 0)) hSw.2; go_simp; with_reducible rfl)
    try simp only [Act.put, List.getElem_toArray, List.getElem_cons_zero, List.getElem_cons_succ, List.setIfInBounds_toArray, List.set_cons_zero, List.set_cons_succ]
    refine wpAnyH_ready (rs := [3]) (by kernel_rfl) (by simp) ?_
    refine AllReadyH.cons rfl (fun K hK => ?_) AllReadyH.nil
    go_simp
    refine (fails_calls _ 0 (erOf code9) _ _ (HG.out _ H9.out.moved.below) (isEr_errV _ _ _) (isE_eV _ _)).mono ?_; rintro e w8 ⟨rfl, hb8⟩; have H8 := Aside0.mk (H9.out.below hb8); clear hb8
    go_simp
    refine hK.out _ _ ⟨H8.out.box, H8.out.err⟩ (fun hHeld => ?_)
    clear hK K
    try simp only [Act.put, List.getElem_toArray, List.getElem_cons_zero, List.getElem_cons_succ, List.setIfInBounds_toArray, List.set_cons_zero, List.set_cons_succ]
    obtain ⟨⟨g0, g1, g2, g3⟩, g4, g5, g6, g7⟩ := M_cells H8.out.res
    refine wpAnyH_ready (rs := [4]) (by kernel_rfl) (by simp) ?_
    refine AllReadyH.cons rfl (fun K hK => ?_) AllReadyH.nil
    go_simp
    skip
    go_simp
    refine hK.out _ _ ⟨put_both H8.out.box (show w.heap.size + 2 ≠ w.heap.size by omega) (.int .i64 M9.st) (.slice An9 M9.ns.length cn9) (.slice As9 M9.said.length cs9) (.slice Ad9 M9.dc.length cd9), put_both H8.out.err (show w.heap.size + 2 ≠ w.heap.size + 3 by omega) (.int .i64 M9.st) (.slice An9 M9.ns.length cn9) (.slice As9 M9.said.length cs9) (.slice Ad9 M9.dc.length cd9)⟩ (fun hHeld => ?_)
    clear hK K
    try simp only [Act.put, List.getElem_toArray, List.getElem_cons_zero, List.getElem_cons_succ, List.setIfInBounds_toArray, List.set_cons_zero, List.set_cons_succ]
    refine wpAnyH_take (i := 5) (v := ?_) rfl (by kernel_rfl) (by kernel_rfl) (by kernel_rfl) (fun _ _ _ h => h) (Or.inl ⟨by rfl, ?_⟩) (by assumption) ?_
    rotate_left 1
    · first | (intro w hSw; go_simp; done) | (intro w hSw; go_simp; with_reducible rfl)
    try simp only [Act.put, List.getElem_toArray, List.getElem_cons_zero, List.getElem_cons_succ, List.setIfInBounds_toArray, List.set_cons_zero, List.set_cons_succ]
    refine wpAnyH_done (by kernel_rfl) ?_ _
    refine NoPanic.normal ?_
    go_wp2
    (try simp only [Exit.inBlock, Exit.then])
    obtain ⟨⟨y0, y1, y2, y3⟩, _⟩ := M_cells (M_put H8.out.res (.int .i64 M9.st) (.slice An9 M9.ns.length cn9) (.slice As9 M9.said.length cs9) (.slice Ad9 M9.dc.length cd9))
    refine bodyPost_ret (v := .tuple #[.agg #[.int .i64 M9.st, .slice An9 M9.ns.length cn9, .slice As9 M9.said.length cs9, .slice Ad9 M9.dc.length cd9], .bool true]) (by simp [results, Tryd.results7, go_sem, y0, y1, y2, y3]) rfl ?_
    exact StepPost.of H8.out HRL.out.1 HLO.out HRL.out.2
set_option maxRecDepth 100000 in
set_option maxHeartbeats 4000000 in
theorem step_begin {w : World} {lo p cn cs cd c3 m : Nat} {K0 : Nat → Prop} {D : Dk} {M : RD} {An As Ad A3 : Option Addr} {kind change node : Int} {nodes : List Int} (hg : ∀ w', Below lo w w' → Laid w') (hW : IsDesk w lo K0 D p) (hR : Rel D M) (hv : RdAt w lo (fun k => ¬ K0 k) M An cn As cs Ad cd) (hnd : ∀ w', Below lo w w' → (Kd.int .i64).C w' A3 nodes.length nodes) (hn50 : nodes.length ≤ 50) (hm : D.dc.length < m) (hm2 : m ≤ 1000) (h0 : kind = 0) :
    Calls Tryd.prog 7 #[.pointer (some ⟨p, 0, none⟩), .agg #[.int .i64 M.st, .slice An M.ns.length cn, .slice As M.said.length cs, .slice Ad M.dc.length cd], .agg #[.int .i64 kind, .int .i64 change, .int .i64 node, .slice A3 nodes.length c3]] w (StepPost w lo K0 p m) := by
  have HG := Lib.hid hg
  have HR := Lib.hid hR
  have HM := Lib.hid hm
  have HM2 := Lib.hid hm2
  have HN := Lib.hid hnd
  have H50 := Lib.hid hn50
  have HLO := Lib.hid (show lo ≤ w.heap.size by obtain ⟨_, _, _, _, _, _, z⟩ := hW; exact z.low)
  have HF := Lib.hid hR.fine
  have HMF := Lib.hid hR.mf
  have n50 : (nodes.length : Int) ≤ 50 := by omega
  have hb4 : Below w.heap.size w ((((w.alloc (.cells #[.int .i64 M.st, .slice An M.ns.length cn, .slice As M.said.length cs, .slice Ad M.dc.length cd] 28)).alloc (.cells #[.int .i64 kind, .int .i64 change, .int .i64 node, .slice A3 nodes.length c3] 30)).alloc (.cells #[.int .i64 0, .slice none 0 0, .slice none 0 0, .slice none 0 0] 28)).alloc (.cells #[.bool false, .slice none 0 0, .int .i64 0] 38)) := below_alloc (below_alloc (below_alloc (below_alloc (Below.refl _ _) _) _) _) _
  have H0 := Aside0.mk (show StepW w ((((w.alloc (.cells #[.int .i64 M.st, .slice An M.ns.length cn, .slice As M.said.length cs, .slice Ad M.dc.length cd] 28)).alloc (.cells #[.int .i64 kind, .int .i64 change, .int .i64 node, .slice A3 nodes.length c3] 30)).alloc (.cells #[.int .i64 0, .slice none 0 0, .slice none 0 0, .slice none 0 0] 28)).alloc (.cells #[.bool false, .slice none 0 0, .int .i64 0] 38)) lo K0 K0 p D M An cn As cs Ad cd kind change node A3 nodes.length c3 false 0 from
    ⟨hW.stay hb4, (heap_keep _ _ (by simp only [alloc_size]; omega)).trans ((heap_keep _ _ (by simp only [alloc_size]; omega)).trans ((heap_keep _ _ (by simp only [alloc_size]; omega)).trans (heap_alloc_new _ _))), (heap_keep _ _ (by simp only [alloc_size]; omega)).trans ((heap_keep _ _ (by simp only [alloc_size]; omega)).trans (heap_alloc_here _ _ _ (by simp only [alloc_size]))), (heap_keep _ _ (by simp only [alloc_size]; omega)).trans (heap_alloc_here _ _ _ (by simp only [alloc_size])), heap_alloc_here _ _ _ (by simp only [alloc_size]),
      hv.below hb4, ⟨hb4.mono HLO.out, Kept.of_below hb4 K0, fun k hk => .inl hk⟩, fun b hb1 hb2 hc => by have := (hW.kb b hc).2; omega⟩)
  clear hg hW hR hv hnd hn50 hm hm2 hb4
  have b0 : (kind == 0) = true := beq_iff_eq.2 h0
  clear h0
  go_enter Tryd.func7, Tryd.ntmps7
  go_upto_region 3 with (fail)
  obtain ⟨w0, hw0⟩ : ∃ w0, w0 = (((w.alloc (.cells #[.int .i64 M.st, .slice An M.ns.length cn, .slice As M.said.length cs, .slice Ad M.dc.length cd] 28)).alloc (.cells #[.int .i64 kind, .int .i64 change, .int .i64 node, .slice A3 nodes.length c3] 30)).alloc (.cells #[.int .i64 0, .slice none 0 0, .slice none 0 0, .slice none 0 0] 28)).alloc (.cells #[.bool false, .slice none 0 0, .int .i64 0] 38) := ⟨_, rfl⟩
  rw [← hw0] at H0 ⊢
  clear hw0
  obtain ⟨o0, o1, o2, o3⟩ := O_cells H0.out.op
  have HRL0 := Lib.hid (HR.out.begin_ (by have := HM.out; have := HM2.out; omega) nodes)
  obtain ⟨N, hN⟩ : ∃ N, N = (M.beginM nodes).1 := ⟨_, rfl⟩
  obtain ⟨code9, hc9⟩ : ∃ code9, code9 = (M.beginM nodes).2.1 := ⟨_, rfl⟩
  have HNN := Lib.hid hN
  have HC9 := Lib.hid hc9
  have hNb : (N == N) = true := by simp
  clear hN hc9
  go_upto_region 6 with (fail)
  go_cut [11, 12] (fun s11 s12 wx => s11 = .int .i64 N ∧ s12 = errV code9 ∧ ∃ K1, Aside0 (StepW w wx lo K0 K1 p (D.beginR nodes).2.2 M An cn As cs Ad cd kind change node A3 nodes.length c3 false 0))
  case first =>
    obtain ⟨o0', o1', o2', o3'⟩ := O_cells (H0.out.below (below_alloc (Below.refl _ _) (.cells #[] 3))).op
    go_wp2_with (first
      | (go_at_call 10; refine (begin_calls H5.out.desk HF.out (by have := HM.out; have := HM2.out; omega) A5 k5 nodes (Kd.R_reads' HR5.out).2.2 (by have := H50.out; omega)).mono ?_; rintro e w1 ⟨rfl, hl⟩; rw [HRL0.out.1, HRL0.out.2.1, ← HNN.out, ← HC9.out]; obtain ⟨K1, h1⟩ := H5.out.real hl; have H1 := Aside0.mk h1; clear hl h1)
      | (at_builtin; (refine app_rows w0.heap.size rfl _ _ rfl (.slice (some ⟨w0.heap.size, 0, none⟩) 0 0) [] nodes A3 nodes.length c3 rfl rfl (empty_row w0 _ _ (Nat.le_refl _) trivial _) (Kd.C_alloc (HN.out w0 H0.out.moved.below) _) (by simp) (by have := H50.out; simp; omega) ?_; intro v5 w5 hr5 hb5; have H5 := Aside0.mk (H0.out.below ((below_alloc (Below.refl _ w0) (.cells #[] 3)).trans hb5)); obtain ⟨A5, k5, rfl⟩ := Kd.R_slice (show (Kd.int .i64).R 3 w5 w0.heap.size (fun _ => True) v5 nodes by simpa using hr5); have HR5 := Aside0.mk (show (Kd.int .i64).R 3 w5 w0.heap.size (fun _ => True) (.slice A5 nodes.length k5) nodes by simpa using hr5); clear hr5 hb5)))
    go_meet
    case rel => exact ⟨rfl, rfl, K1, H1⟩
  case rest =>
    obtain ⟨rfl, rfl, K1, H1⟩ := hcut
    clear H0 o0 o1 o2 o3
    obtain ⟨⟨b0', b1', b2', b3'⟩, _⟩ := M_cells H1.out.box
    obtain ⟨o0, o1, o2, o3⟩ := O_cells H1.out.op
    obtain ⟨wx, rfl⟩ : ∃ wx, wx = wc := ⟨_, rfl⟩
    go_upto_region 7 with (fail)
    go_cut [10] (fun s10 wy => s10 = .int .i64 N ∧ ∃ K9 D9 M9 An9 cn9 As9 cs9 Ad9 cd9, Aside0 (StepW w wy lo K0 K9 p D9 M9 An9 cn9 As9 cs9 Ad9 cd9 kind change node A3 nodes.length c3 (!(code9 == 0)) code9) ∧ Hid (Rel D9 M9 ∧ D9.dc.length ≤ m))
    case first =>
      go_wp2_with (go_at_call 20; refine (refBegin_calls H1.out.rows.value HMF.out H1.out.hok H1.out.low A3 c3 nodes (HN.out _ H1.out.moved.below) H50.out).mono ?_; rintro e w2 ⟨An9, cn9, As9, cs9, Ad9, cd9, rfl, hr, hb⟩; rw [← HNN.out, ← HC9.out]; have H2 := Aside0.mk (H1.out.below hb); have HR2 := Aside0.mk hr; obtain ⟨⟨g0, g1, g2, g3⟩, g4, g5, g6, g7⟩ := M_cells H2.out.box; obtain ⟨⟨q0, q1, q2⟩, q3, q4, q5⟩ := E_cells (x := (0, 0)) (put_both H2.out.err (show w.heap.size ≠ w.heap.size + 3 by omega) (.int .i64 (M.beginM nodes).2.2.st) (.slice An9 (M.beginM nodes).2.2.ns.length cn9) (.slice As9 (M.beginM nodes).2.2.said.length cs9) (.slice Ad9 (M.beginM nodes).2.2.dc.length cd9)); clear hr hb b0' b1' b2' b3')
      go_meet
      case rel =>
        refine ⟨rfl, K1, (D.beginR nodes).2.2, (M.beginM nodes).2.2, An9, cn9, As9, cs9, Ad9, cd9, ⟨H2.out.store HLO.out HR2.out⟩, HRL0.out.2.2, ?_⟩
        have := HM.out
        have hlen := begin_len D nodes
        omega
    case rest =>
      obtain ⟨rfl, K9, D9, M9, An9, cn9, As9, cs9, Ad9, cd9, H7, HRL⟩ := hcut
      clear H1 o0 o1 o2 o3 b0' b1' b2' b3'
      go_wp2
      refine wp_region_noPanic ?_
      refine wp_region_held_drew (S := fun W => W.heap[w.heap.size]? = some (.cells #[.int .i64 M9.st, .slice An9 M9.ns.length cn9, .slice As9 M9.said.length cs9, .slice Ad9 M9.dc.length cd9] 28 (0, 0)) ∧ W.heap[w.heap.size + 3]? = some (.cells #[.bool (!(code9 == 0)), .slice none 0 0, .int .i64 code9] 38 (0, 0))) (by kernel_rfl) ⟨H7.out.box, H7.out.err⟩ (fun hHeld => ?_)
      have H9 := Aside0.mk (H7.out.below (Below.refl _ _).drew)
      obtain ⟨wd, hwd⟩ : ∃ wd, wd = wc.drew := ⟨_, rfl⟩
      rw [← hwd] at H9 hHeld ⊢
      clear hwd
      refine wpAnyH_take (i := 0) (v := ?_) rfl (by kernel_rfl) (by kernel_rfl) (by kernel_rfl) (fun _ _ _ h => h) (Or.inl ⟨by rfl, ?_⟩) (by assumption) ?_
      rotate_left 1
      · first | (intro w hSw; obtain ⟨⟨c0, c1, c2, c3⟩, _⟩ := M_cells hSw.1; go_simp; done) | (intro w hSw; obtain ⟨⟨c0, c1, c2, c3⟩, _⟩ := M_cells hSw.1; go_simp; with_reducible rfl)
      try simp only [Act.put, List.getElem_toArray, List.getElem_cons_zero, List.getElem_cons_succ, List.setIfInBounds_toArray, List.set_cons_zero, List.set_cons_succ]
      refine wpAnyH_take (i := 1) (v := ?_) rfl (by kernel_rfl) (by kernel_rfl) (by kernel_rfl) (fun _ _ _ h => h) (Or.inl ⟨by rfl, ?_⟩) (by assumption) ?_
      rotate_left 1
      · first | (intro w hSw; go_simp; done) | (intro w hSw; go_simp; with_reducible rfl)
      try simp only [Act.put, List.getElem_toArray, List.getElem_cons_zero, List.getElem_cons_succ, List.setIfInBounds_toArray, List.set_cons_zero, List.set_cons_succ]
      refine wpAnyH_take (i := 2) (v := ?_) rfl (by kernel_rfl) (by kernel_rfl) (by kernel_rfl) (fun _ _ _ h => h) (Or.inl ⟨by rfl, ?_⟩) (by assumption) ?_
      rotate_left 1
      · first | (intro w hSw; go_simp; done) | (intro w hSw; go_simp; with_reducible rfl)
      try simp only [Act.put, List.getElem_toArray, List.getElem_cons_zero, List.getElem_cons_succ, List.setIfInBounds_toArray, List.set_cons_zero, List.set_cons_succ]
      refine wpAnyH_take (i := 3) (v := ?_) rfl (by kernel_rfl) (by kernel_rfl) (by kernel_rfl) (fun _ _ _ h => h) (Or.inl ⟨by rfl, ?_⟩) (by assumption) ?_
      rotate_left 1
      · first | (intro w hSw; go_simp; done) | (intro w hSw; go_simp; with_reducible rfl)
      try simp only [Act.put, List.getElem_toArray, List.getElem_cons_zero, List.getElem_cons_succ, List.setIfInBounds_toArray, List.set_cons_zero, List.set_cons_succ]
      refine wpAnyH_take (i := 4) (v := ?_) rfl (by kernel_rfl) (by kernel_rfl) (by kernel_rfl) (fun _ _ _ h => h) (Or.inl ⟨by rfl, ?_⟩) (by assumption) ?_
      rotate_left 1
      · first | (intro w hSw; go_simp; done) | (intro w hSw; go_simp; with_reducible rfl)
      try simp only [Act.put, List.getElem_toArray, List.getElem_cons_zero, List.getElem_cons_succ, List.setIfInBounds_toArray, List.set_cons_zero, List.set_cons_succ]
      refine wpAnyH_take (i := 5) (v := ?_) rfl (by kernel_rfl) (by kernel_rfl) (by kernel_rfl) (fun _ _ _ h => h) (Or.inl ⟨by rfl, ?_⟩) (by assumption) ?_
      rotate_left 1
      · first | (intro w hSw; go_simp; done) | (intro w hSw; go_simp; with_reducible rfl)
      try simp only [Act.put, List.getElem_toArray, List.getElem_cons_zero, List.getElem_cons_succ, List.setIfInBounds_toArray, List.set_cons_zero, List.set_cons_succ]
      refine wpAnyH_take (i := 6) (v := ?_) rfl (by kernel_rfl) (by kernel_rfl) (by kernel_rfl) (fun _ _ _ h => h) (Or.inl ⟨by rfl, ?_⟩) (by assumption) ?_
      rotate_left 1
      · first | (intro w hSw; obtain ⟨⟨c0, c1, c2⟩, _⟩ := E_cells (x := (0, 0)) hSw.2; go_simp; done) | (intro w hSw; obtain ⟨⟨c0, c1, c2⟩, _⟩ := E_cells (x := (0, 0)) hSw.2; go_simp; with_reducible rfl)
      try simp only [Act.put, List.getElem_toArray, List.getElem_cons_zero, List.getElem_cons_succ, List.setIfInBounds_toArray, List.set_cons_zero, List.set_cons_succ]
      refine wpAnyH_ready (rs := [7]) (by kernel_rfl) (by simp) ?_
      refine AllReadyH.cons rfl (fun K hK => ?_) AllReadyH.nil
      go_simp
      refine (fails_calls _ 0 (erOf code9) _ _ (HG.out _ H9.out.moved.below) (isEr_errV _ _ _) (isE_eV _ _)).mono ?_; rintro e w8 ⟨rfl, hb8⟩; have H8 := Aside0.mk (H9.out.below hb8); clear hb8
      go_simp
      refine hK.out _ _ ⟨H8.out.box, H8.out.err⟩ (fun hHeld => ?_)
      clear hK K
      try simp only [Act.put, List.getElem_toArray, List.getElem_cons_zero, List.getElem_cons_succ, List.setIfInBounds_toArray, List.set_cons_zero, List.set_cons_succ]
      refine wpAnyH_take (i := 8) (v := ?_) rfl (by kernel_rfl) (by kernel_rfl) (by kernel_rfl) (fun _ _ _ h => h) (Or.inl ⟨by rfl, ?_⟩) (by assumption) ?_
      rotate_left 1
      · first | (intro w hSw; go_simp; done) | (intro w hSw; go_simp; with_reducible rfl)
      try simp only [Act.put, List.getElem_toArray, List.getElem_cons_zero, List.getElem_cons_succ, List.setIfInBounds_toArray, List.set_cons_zero, List.set_cons_succ]
      obtain ⟨⟨g0, g1, g2, g3⟩, g4, g5, g6, g7⟩ := M_cells H8.out.res
      refine wpAnyH_ready (rs := [9]) (by kernel_rfl) (by simp) ?_
      refine AllReadyH.cons rfl (fun K hK => ?_) AllReadyH.nil
      go_simp
      skip
      go_simp
      refine hK.out _ _ ⟨put_both H8.out.box (show w.heap.size + 2 ≠ w.heap.size by omega) (.int .i64 M9.st) (.slice An9 M9.ns.length cn9) (.slice As9 M9.said.length cs9) (.slice Ad9 M9.dc.length cd9), put_both H8.out.err (show w.heap.size + 2 ≠ w.heap.size + 3 by omega) (.int .i64 M9.st) (.slice An9 M9.ns.length cn9) (.slice As9 M9.said.length cs9) (.slice Ad9 M9.dc.length cd9)⟩ (fun hHeld => ?_)
      clear hK K
      try simp only [Act.put, List.getElem_toArray, List.getElem_cons_zero, List.getElem_cons_succ, List.setIfInBounds_toArray, List.set_cons_zero, List.set_cons_succ]
      refine wpAnyH_take (i := 10) (v := ?_) rfl (by kernel_rfl) (by kernel_rfl) (by kernel_rfl) (fun _ _ _ h => h) (Or.inl ⟨by rfl, ?_⟩) (by assumption) ?_
      rotate_left 1
      · first | (intro w hSw; go_simp; done) | (intro w hSw; go_simp; with_reducible rfl)
      try simp only [Act.put, List.getElem_toArray, List.getElem_cons_zero, List.getElem_cons_succ, List.setIfInBounds_toArray, List.set_cons_zero, List.set_cons_succ]
      refine wpAnyH_done (by kernel_rfl) ?_ _
      refine NoPanic.normal ?_
      go_wp2
      (try simp only [Exit.inBlock, Exit.then])
      obtain ⟨⟨y0, y1, y2, y3⟩, _⟩ := M_cells (M_put H8.out.res (.int .i64 M9.st) (.slice An9 M9.ns.length cn9) (.slice As9 M9.said.length cs9) (.slice Ad9 M9.dc.length cd9))
      refine bodyPost_ret (v := .tuple #[.agg #[.int .i64 M9.st, .slice An9 M9.ns.length cn9, .slice As9 M9.said.length cs9, .slice Ad9 M9.dc.length cd9], .bool true]) (by simp [results, Tryd.results7, go_sem, y0, y1, y2, y3]) rfl ?_
      exact StepPost.of H8.out HRL.out.1 HLO.out HRL.out.2
end Go.Proofs.YtmhfigkdeeldnaaDoor
