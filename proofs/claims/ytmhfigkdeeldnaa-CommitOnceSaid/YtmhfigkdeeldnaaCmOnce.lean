/- CommitOnce: the walk. -/
import Derived.Test.YtmhfigkdeeldnaaCmOnceF
import Derived.Test.YtmhfigkdeeldnaaCmAwake
import Derived.Deep.CutBlock
namespace Go.Proofs.Ytmhfigkdeeldnaa
open Go.RowKit Go.Proofs.YtmhfigkdeeldnaaW.PrintWords Go.Proofs.YtmhfigkdeeldnaaW.PrintLast Go.Proofs.YtmhfigkdeeldnaaW.PrintMore
set_option linter.unusedVariables false
set_option linter.unusedSimpArgs false

structure Op where
  kind : Int
  change : Int
  node : Int
  nodes : List Int
def OpAt (w : World) (ad : Addr) (o : Op) : Prop :=
  w.cell? ad = some (.int .i64 o.kind) ∧ w.cell? ⟨ad.block, ad.off + 1, none⟩ = some (.int .i64 o.change) ∧ w.cell? ⟨ad.block, ad.off + 2, none⟩ = some (.int .i64 o.node) ∧
    ∃ A c, w.cell? ⟨ad.block, ad.off + 3, none⟩ = some (.slice A o.nodes.length c) ∧ (Kd.int .i64).C w A o.nodes.length o.nodes
def OpsC (w : World) (A : Option Addr) (ops : List Op) : Prop := ∀ k o, ops[k]? = some o → ∃ ad, A = some ad ∧ OpAt w (ad.add (k * 4)) o
theorem OpAt.below {w w1 : World} {ad : Addr} {o : Op} (h : OpAt w ad o) (hb : Below w.heap.size w w1) : OpAt w1 ad o := by
  obtain ⟨h1, h2, h3, A, c, h4, h5⟩ := h
  have key : ∀ a v, w.cell? a = some v → w1.cell? a = some v := fun a v h => by rw [hb.cell (World.block_lt_of_cell? w a h)]; exact h
  exact ⟨key _ _ h1, key _ _ h2, key _ _ h3, A, c, key _ _ h4, Kd.C_below h5 hb⟩
theorem OpsC.below {w w1 : World} {A : Option Addr} {ops : List Op} (h : OpsC w A ops) (hb : Below w.heap.size w w1) : OpsC w1 A ops := fun k o hk => by
  obtain ⟨ad, e, h1⟩ := h k o hk
  exact ⟨ad, e, h1.below hb⟩

/-- Between two calls of the script. -/
structure OnceW (w wr : World) (lo : Nat) (K : Nat → Prop) (p : Nat) (D : Dk) (v : Value) (wl : List Int) (r n : Int) : Prop where
  live : Live w wr lo K D p
  row : (Kd.int .i64).R 34 wr lo (fun b => ¬ K b) v wl
  inv : OnceI D r n
section
variable {w wr w1 : World} {lo p : Nat} {K K' : Nat → Prop} {D D' : Dk} {v : Value} {wl : List Int} {r n r' n' : Int}
theorem OnceW.stay (h : OnceW w wr lo K p D v wl r n) (hb : Below wr.heap.size wr w1) : OnceW w w1 lo K p D v wl r n := ⟨h.live.stay hb, Kd.R_below h.row hb, h.inv⟩
theorem OnceW.step (h : OnceW w wr lo K p D v wl r n) (k : Leaves wr lo K p D' w1) (hI : OnceI D' r' n') : ∃ K', OnceW w w1 lo K' p D' v wl r' n' ∧ Kept wr w1 K := by
  obtain ⟨K', hl, hm⟩ := h.live.step k hI.fine
  refine ⟨K', ⟨hl, ?_, hI⟩, hm.kept⟩
  have h1 := R_far_own h.row hm.kept (fun k hk => h.row.1 k hk)
  refine Kd.R_reok (d := Kd.int .i64) rfl h1 (fun k hk hc => ?_)
  rcases hm.new k hc with h2 | h2
  · exact h.row.1 k hk h2
  · have := Kd.R_lt h.row k hk
    omega
theorem OnceW.appended {v1 : Value} {wl1 : List Int} (h : OnceW w wr lo K p D v wl r n) (hr : (Kd.int .i64).R 34 w1 lo (fun b => ¬ K b) v1 wl1) (hb : Below lo wr w1) (hg : wr.grownBy w1 v.ownBlock) : OnceW w w1 lo K p D v1 wl1 r n := by
  refine ⟨⟨h.live.desk.move (fun k hk => hg.block k (h.live.desk.kb k hk).2 (fun e => h.row.1 k e.symm hk)) hg.size, h.live.fine, h.live.below.trans (hb.mono h.live.low), h.live.low⟩, hr, h.inv⟩
theorem OnceW.fresh (h : OnceW w wr lo K p D v wl r n) : ∀ k, wr.heap.size ≤ k → ¬ K k := fun k hk hc => by have := (h.live.desk.kb k hc).2; omega
theorem OnceW.low (h : OnceW w wr lo K p D v wl r n) : lo ≤ wr.heap.size := by
  obtain ⟨_, _, _, _, _, _, z⟩ := h.live.desk
  exact z.low
theorem OnceW.put {g m c i : Nat} (h : OnceW w wr lo K p D (.slice (some ⟨g, 0, none⟩) m c) wl r n) (y : Int) : OnceW w (wr.setCell ⟨g, i, none⟩ (.int .i64 y)) lo K p D (.slice (some ⟨g, 0, none⟩) m c) (wl.set i y) r n := by
  have hg : ¬ K g := h.row.1 g (by simp [Value.ownBlock])
  have hb := Kd.R_base h.row g (by simp [Value.ownBlock])
  have h3 := Kd.R_putn (enc := Value.int .i64) h.row (i : Int) y
  simp only [Int.toNat_natCast] at h3
  exact ⟨⟨h.live.desk.move (fun k hk => Below.heap_setCell _ _ _ _ (fun (e : k = g) => hg (e ▸ hk))) (by rw [set_size]; exact Nat.le_refl _), h.live.fine, h.live.below.setCell (Nat.le_trans h.live.low hb) _, h.live.low⟩, h3, h.inv⟩
theorem OnceW.at_ {A : Option Addr} {m c j : Nat} (h : OnceW w wr lo K p D (.slice A m c) wl r n) (hj : j < wl.length) (hm : wl.length = m) : ∃ g, A = some ⟨g, 0, none⟩ ∧ wr.cell? ⟨g, j, none⟩ = some (.int .i64 (rd wl j)) ∧ wr.frozen? ⟨g, j, none⟩ = false := by
  subst hm
  obtain ⟨ad, rfl, hc⟩ := C_cell (Kd.R_reads' h.row).2.2 hj
  obtain ⟨g, rfl⟩ := Kd.R_head h.row
  obtain ⟨h3, h4⟩ := Kd.R_celln (enc := Value.int .i64) 0 h.row (j : Int) (by omega) (by omega)
  refine ⟨g, rfl, ?_, by simpa using h4⟩
  by_cases e : j = 0
  · subst e; simpa [Addr.add] using hc
  · simpa [Addr.add, e] using hc
/-- The box of the script's call: told apart from the desk and the list. -/
theorem box_kept (h : OnceW w wr lo K p D v wl r n) {b : Nat} {o : Obj} (hb : wr.heap[b]? = some o) (hk : Kept wr w1 K) (hn : ¬ K b) : w1.heap[b]? = some o :=
  (hk.2 b (blk_lt hb) hn).trans hb
theorem box_cells {W : World} {b : Nat} {k c m : Int} {A : Option Addr} {l q : Nat} (h : W.heap[b]? = some (.cells #[.int .i64 k, .int .i64 c, .int .i64 m, .slice A l q] 29 (0, 0))) :
    W.cell? ⟨b, 0, none⟩ = some (.int .i64 k) ∧ W.cell? ⟨b, 1, none⟩ = some (.int .i64 c) ∧ W.cell? ⟨b, 2, none⟩ = some (.int .i64 m) ∧ W.cell? ⟨b, 3, none⟩ = some (.slice A l q) := by
  refine ⟨?_, ?_, ?_, ?_⟩ <;> (unfold World.cell?; rw [h]; rfl)
end
theorem errV_0 : errV 0 = .nilIface := rfl
theorem errV_21 : errV 21 = .iface 46 (.int .i64 21) := rfl
theorem errV_1 : errV 1 = .iface 46 (.int .i64 1) := rfl
theorem errV_ne {c : Int} (h : c ≠ 0) : errV c = .iface 46 (.int .i64 c) := if_neg h
/-- Behind the call, ahead of the look at what was decided. -/
def OnceM (w : World) (lo p k : Nat) (v4 v5 v6 : Value) (wx : World) : Prop :=
  ∃ (D : Dk) (K : Nat → Prop) (r n : Int) (wl : List Int), v5 = .int .i64 r ∧ v6 = .int .i64 n ∧ 0 ≤ r ∧ r ≤ k + 1 ∧ 0 ≤ n ∧ n ≤ 50 ∧ wl.length ≤ k + 1 ∧ Chg wl D ∧ OnceW w wx lo K p D v4 wl r n

set_option maxRecDepth 100000 in
set_option maxHeartbeats 800000 in
theorem once_walk (w : World) (A0 : Option Addr) (c0 : Nat) (ops : List Op) (hr : OpsC w A0 ops) (hm : (ops.length : Int) ≤ 9223372036854775807) :
    Calls Try.prog 3 #[.slice A0 ops.length c0] w fun e w' => e = .returned (.bool true) ∧ Below w.heap.size w w' := by
  have HR := Lib.hid hr
  clear hr
  by_cases hbig : 200 < ops.length
  · have hb : (200 : Int) < ops.length := by omega
    go_enter Try.func3, Try.ntmps3
    go_wp2_with (go_at_call 5; refine (awake_calls _).mono ?_; rintro e w1 ⟨rfl, hb1⟩; have HB1 := Aside0.mk hb1; clear hb1)
    go_ret
    exact ⟨rfl, HB1.out⟩
  · have hb : ¬ (200 : Int) < ops.length := by omega
    have h200 : (ops.length : Int) ≤ 200 := by omega
    go_enter Try.func3, Try.ntmps3
    go_wp2_with (first
      | (go_at_call 5; refine (awake_calls _).mono ?_; rintro e w1 ⟨rfl, hb1⟩; have HB1 := Aside0.mk hb1; clear hb1)
      | (go_at_call 6; refine (new_calls _).mono ?_; rintro e w2 ⟨p, K1, rfl, hW, hB, hK⟩; have L2 := Aside0.mk (show Live w w2 w1.heap.size K1 Dk.new p from ⟨hW, Fine.new, HB1.out.trans (hB.mono HB1.out.size), HB1.out.size⟩); clear hW hB hK))
    obtain ⟨lo, L2⟩ : ∃ lo, Aside0 (OnceW w w2 lo K1 p Dk.new (.slice none 0 0) [] 0 0) := ⟨_, ⟨L2.out, Kd.R_nil _ _ _ _ _, OnceI.new⟩⟩
    clear HB1
    go_loopw [4, 5, 6, 21] (fun v4 v5 v6 v21 wr => ∃ (k : Nat) (D : Dk) (K : Nat → Prop) (r n : Int), v21 = .int .i64 k ∧ v5 = .int .i64 r ∧ v6 = .int .i64 n ∧ k ≤ ops.length ∧ 0 ≤ r ∧ r ≤ k ∧ 0 ≤ n ∧ n ≤ 50 ∧ Hid (D.dc.length ≤ k) ∧ Aside0 (OnceW w wr lo K p D v4 D.dc r n)) (fun _ _ _ v _ => ops.length - (intOf v).toNat)
    case atStart => exact ⟨0, Dk.new, K1, 0, 0, rfl, rfl, rfl, Nat.zero_le _, by omega, by omega, by omega, by omega, Nat.zero_le _, L2⟩
    case round =>
      obtain ⟨k, D, K, r, n, rfl, rfl, rfl, hk, r0, rk, n0, n50, HDK, HW⟩ := hrel
      clear L2
      by_cases hlt : k < ops.length
      · obtain ⟨o, ho⟩ : ∃ o, ops[k]? = some o := ⟨ops[k], List.getElem?_eq_getElem hlt⟩
        obtain ⟨ad, rfl, hat⟩ := (HR.out.below HW.out.live.below) k o ho
        obtain ⟨kind, change, node, nodes⟩ := o
        obtain ⟨o0, o1, o2, A3, c3, o3, hC⟩ := hat
        simp only [] at o0 o1 o2 o3
        have HC := Lib.hid (show (Kd.int .i64).C wr A3 nodes.length nodes from hC)
        have k0 : (0 : Int) ≤ k := by omega
        have k1 : (k : Int) < ops.length := by omega
        have HLT := Lib.hid hlt
        have hm3 : (nodes.length : Int) ≤ 9223372036854775807 := by have : nodes.length ≤ 9223372036854775807 := hC.2.1; omega
        clear hlt hC
        by_cases h50 : 50 < nodes.length
        · have hb50 : (50 : Int) < nodes.length := by omega
          clear h50
          go_wp2
          go_ret
          exact ⟨rfl, below_step HW.out.live.below (below_alloc (Below.refl _ _) _)⟩
        · have hb50 : ¬ (50 : Int) < nodes.length := by omega
          have hn50 : (nodes.length : Int) ≤ 50 := by omega
          clear h50
          go_upto_block 2 with fail
          obtain ⟨A4, c4, rfl⟩ := Kd.R_slice HW.out.row
          obtain ⟨V, hV⟩ : ∃ V : World, V = wr.alloc (.cells #[.int .i64 kind, .int .i64 change, .int .i64 node, .slice A3 nodes.length c3] 29) := ⟨_, rfl⟩
          rw [← hV]
          obtain ⟨b, hbb⟩ : ∃ b, b = wr.heap.size := ⟨_, rfl⟩
          rw [← hbb]
          have hbel : Below wr.heap.size wr V := by rw [hV]; exact below_alloc (Below.refl _ _) _
          have HV := Aside0.mk (HW.out.stay hbel)
          have HBX := Aside0.mk (show V.heap[b]? = some (.cells #[.int .i64 kind, .int .i64 change, .int .i64 node, .slice A3 nodes.length c3] 29 (0, 0)) by rw [hV, hbb]; exact heap_alloc_new _ _)
          have HBN := Aside0.mk (show ¬ K b by rw [hbb]; exact HW.out.fresh _ (Nat.le_refl _))
          have HBR := Aside0.mk (show ∀ q, (Value.slice A4 D.dc.length c4).ownBlock = some q → q ≠ b by intro q hq; have := Kd.R_lt HW.out.row q hq; omega)
          have HCV := Lib.hid (Kd.C_below HC.out hbel)
          obtain ⟨o0, o1, o2, o3⟩ := box_cells HBX.out
          clear hV hbb hbel HW HC
          go_cut [4, 5, 6] (fun s4 s5 s6 wx => Aside0 (OnceM w lo p k s4 s5 s6 wx))
          case first =>
            have hd1 : D.dc.length < 1000 := by have := HDK.out; omega
            have HD1 := Lib.hid hd1
            clear hd1
            by_cases e0 : kind = 0
            · have b0 : (kind == 0) = true := beq_iff_eq.2 e0
              clear e0
              rcases once_begin HV.out.inv HD1.out nodes with ⟨h1, h2, h3, h4⟩ | ⟨h1, h2⟩
              · have H1 := Lib.hid h1
                have H2 := Lib.hid h2
                have H3 := Lib.hid h3
                have H4 := Lib.hid h4
                have dl : (D.dc.length : Int) ≤ 200 := by have := HDK.out; omega
                clear h1 h2 h3 h4
                go_wp2_with (first
                  | (at_builtin; refine Kd.R_append_rows (Kd.int .i64) (w0 := w1.alloc (.cells #[.int .i64 0] 34)) lo rfl _ _ _ 34 (.int .i64 0) 8 rfl Try.underlying26 infoS rfl (by decide) (by omega) (.slice A4 D.dc.length c4) D.dc [0] _ 1 1 (fun b => ¬ K1 b) (fun _ => False) rfl rfl (Kd.R_alloc HO.out.row _) (lit_at _ _ [0] (by simp) (by simp) rfl rfl) (fun _ _ h => h) (fun _ hk => hk.elim) (fun _ hk => HO.out.fresh _ (by simp at hk; omega)) (Below.refl _ _) (by have := HO.out.low; simp; omega) (by have := HD1.out; simp; omega) ?_; intro v1 w2 hr1 hb1 hg1 hat; obtain ⟨L, hL⟩ : ∃ L, L = D.dc ++ [0] := ⟨_, rfl⟩; rw [← hL] at hr1; have HO2 := Aside0.mk ((HO.out.stay (below_alloc (Below.refl _ _) (.cells #[.int .i64 0] 34))).appended hr1 hb1 hg1); have hbx := (hg1.block b (by simp; have := blk_lt HX1.out; omega) (fun e => HBR.out b e.symm rfl)).trans ((heap_alloc_old _ _ (blk_lt HX1.out)).trans HX1.out); obtain ⟨y0, y1, y2, y3⟩ := box_cells hbx; have HL4 := Lib.hid hL; clear hr1 hb1 hg1 hat hL hbx)
                  | (go_at_call 7; refine (begin_calls HV.out.live.desk HV.out.live.fine HD1.out A3 c3 nodes HCV.out (by omega)).mono ?_; rintro e w1 ⟨rfl, hl⟩; rw [H2.out, H1.out, errV_0]; obtain ⟨K1, hO, hk⟩ := HV.out.step hl H4.out; have HO := Aside0.mk hO; have HX1 := Aside0.mk (box_kept HV.out HBX.out hk HBN.out); clear hl hO hk))
                go_meet
                exact ⟨(D.beginR nodes).2.2, K1, 0, nodes.length, L, rfl, rfl, by omega, by omega, by omega, by omega, by rw [HL4.out]; have := HDK.out; simp; omega, by rw [HL4.out, ← H3.out]; exact Chg.refl _, HO2.out⟩
              · have H2 := Lib.hid h2
                clear h2
                rcases h1 with h1 | h1
                all_goals
                  have H1 := Lib.hid h1
                  clear h1
                  go_wp2_with (first
                    | (go_at_call 7; refine (begin_calls HV.out.live.desk HV.out.live.fine HD1.out A3 c3 nodes HCV.out (by omega)).mono ?_; rintro e w1 ⟨rfl, hl⟩; rw [H2.out] at hl; (first | rw [H1.out, errV_21] | rw [H1.out, errV_1]); obtain ⟨K1, hO, hk⟩ := HV.out.step hl HV.out.inv; have HO := Aside0.mk hO; clear hl hO hk))
                  go_meet
                  exact ⟨D, K1, r, n, D.dc, rfl, rfl, by omega, by omega, by omega, by omega, by have := HDK.out; omega, Chg.refl _, HO.out⟩
            · have b0 : (kind == 0) = false := beq_eq_false_iff_ne.2 e0
              clear e0
              by_cases e1 : kind = 1
              · have b1 : (kind == 1) = true := beq_iff_eq.2 e1
                clear e1
                have HI := Lib.hid (once_ready HV.out.inv change node)
                by_cases h : (D.readyR change node).1 = 0
                · have H1 := Lib.hid h
                  clear h
                  go_wp2_with (first
                    | (go_at_call 8; refine (ready_calls HV.out.live.desk HV.out.live.fine change node).mono ?_; rintro e w1 ⟨rfl, hl⟩; rw [H1.out, errV_0]; obtain ⟨K1, hO, hk⟩ := HV.out.step hl (HI.out.1 H1.out); have HO := Aside0.mk hO; obtain ⟨x0, x1, x2, x3⟩ := box_cells (box_kept HV.out HBX.out hk HBN.out); clear hl hO hk))
                  go_meet
                  exact ⟨_, K1, r + 1, n, D.dc, rfl, rfl, by omega, by omega, by omega, by omega, by have := HDK.out; omega, HI.out.2.2, HO.out⟩
                · have H1 := Lib.hid h
                  clear h
                  go_wp2_with (first
                    | (go_at_call 8; refine (ready_calls HV.out.live.desk HV.out.live.fine change node).mono ?_; rintro e w1 ⟨rfl, hl⟩; rw [errV_ne H1.out]; obtain ⟨K1, hO, hk⟩ := HV.out.step hl (HI.out.2.1 H1.out); have HO := Aside0.mk hO; obtain ⟨x0, x1, x2, x3⟩ := box_cells (box_kept HV.out HBX.out hk HBN.out); clear hl hO hk))
                  go_meet
                  exact ⟨_, K1, r, n, D.dc, rfl, rfl, by omega, by omega, by omega, by omega, by have := HDK.out; omega, HI.out.2.2, HO.out⟩
              · have b1 : (kind == 1) = false := beq_eq_false_iff_ne.2 e1
                clear e1
                by_cases e2 : kind = 2
                · have b2 : (kind == 2) = true := beq_iff_eq.2 e2
                  clear e2
                  have HI := Lib.hid (once_done HV.out.inv change node)
                  by_cases h : (D.doneR change node).1 = 0
                  · have H1 := Lib.hid h
                    by_cases hrn : r < n
                    · have hat : ((D.doneR change node).2.at_ change == 2) = false := by
                        rw [beq_eq_false_iff_ne]
                        intro hc
                        have := HI.out.2.2 h hc
                        omega
                      clear h
                      go_wp2_with (first
                        | (go_at_call 10; refine (decided_calls HO.out.live.desk HO.out.live.fine change).mono ?_; rintro e w' ⟨rfl, rfl⟩)
                        | (go_at_call 9; refine (done_calls HV.out.live.desk HV.out.live.fine change node).mono ?_; rintro e w1 ⟨rfl, hl⟩; rw [H1.out, errV_0]; obtain ⟨K1, hO, hk⟩ := HV.out.step hl HI.out.1; have HO := Aside0.mk hO; obtain ⟨x0, x1, x2, x3⟩ := box_cells (box_kept HV.out HBX.out hk HBN.out); clear hl hO hk))
                      go_meet
                      exact ⟨_, K1, r, n, D.dc, rfl, rfl, by omega, by omega, by omega, by omega, by have := HDK.out; omega, HI.out.2.1, HO.out⟩
                    · have hrn' : decide (r < n) = false := decide_eq_false hrn
                      clear h
                      go_wp2_with (first
                        | (go_at_call 9; refine (done_calls HV.out.live.desk HV.out.live.fine change node).mono ?_; rintro e w1 ⟨rfl, hl⟩; rw [H1.out, errV_0]; obtain ⟨K1, hO, hk⟩ := HV.out.step hl HI.out.1; have HO := Aside0.mk hO; obtain ⟨x0, x1, x2, x3⟩ := box_cells (box_kept HV.out HBX.out hk HBN.out); clear hl hO hk))
                      go_meet
                      exact ⟨_, K1, r, n, D.dc, rfl, rfl, by omega, by omega, by omega, by omega, by have := HDK.out; omega, HI.out.2.1, HO.out⟩
                  · have H1 := Lib.hid h
                    clear h
                    go_wp2_with (first
                      | (go_at_call 9; refine (done_calls HV.out.live.desk HV.out.live.fine change node).mono ?_; rintro e w1 ⟨rfl, hl⟩; rw [errV_ne H1.out]; obtain ⟨K1, hO, hk⟩ := HV.out.step hl HI.out.1; have HO := Aside0.mk hO; obtain ⟨x0, x1, x2, x3⟩ := box_cells (box_kept HV.out HBX.out hk HBN.out); clear hl hO hk))
                    go_meet
                    exact ⟨_, K1, r, n, D.dc, rfl, rfl, by omega, by omega, by omega, by omega, by have := HDK.out; omega, HI.out.2.1, HO.out⟩
                · have b2 : (kind == 2) = false := beq_eq_false_iff_ne.2 e2
                  clear e2
                  by_cases e3 : kind = 3
                  · have b3 : (kind == 3) = true := beq_iff_eq.2 e3
                    clear e3
                    have HI := Lib.hid (once_cancel HV.out.inv change)
                    by_cases h : (D.cancelR change).1 = 0
                    · have H1 := Lib.hid h
                      have HAT := Lib.hid (HI.out.2.2 h)
                      clear h
                      go_wp2_with (first
                        | (go_at_call 10; refine (decided_calls HO.out.live.desk HO.out.live.fine change).mono ?_; rintro e w' ⟨rfl, rfl⟩; rw [HAT.out])
                        | (go_at_call 11; refine (cancel_calls HV.out.live.desk HV.out.live.fine change).mono ?_; rintro e w1 ⟨rfl, hl⟩; rw [H1.out, errV_0]; obtain ⟨K1, hO, hk⟩ := HV.out.step hl HI.out.1; have HO := Aside0.mk hO; obtain ⟨x0, x1, x2, x3⟩ := box_cells (box_kept HV.out HBX.out hk HBN.out); clear hl hO hk))
                      go_meet
                      exact ⟨_, K1, r, n, D.dc, rfl, rfl, by omega, by omega, by omega, by omega, by have := HDK.out; omega, HI.out.2.1, HO.out⟩
                    · have H1 := Lib.hid h
                      clear h
                      go_wp2_with (first
                        | (go_at_call 11; refine (cancel_calls HV.out.live.desk HV.out.live.fine change).mono ?_; rintro e w1 ⟨rfl, hl⟩; rw [errV_ne H1.out]; obtain ⟨K1, hO, hk⟩ := HV.out.step hl HI.out.1; have HO := Aside0.mk hO; obtain ⟨x0, x1, x2, x3⟩ := box_cells (box_kept HV.out HBX.out hk HBN.out); clear hl hO hk))
                      go_meet
                      exact ⟨_, K1, r, n, D.dc, rfl, rfl, by omega, by omega, by omega, by omega, by have := HDK.out; omega, HI.out.2.1, HO.out⟩
                  · have b3 : (kind == 3) = false := beq_eq_false_iff_ne.2 e3
                    clear e3
                    have HI := Lib.hid (once_recover HV.out.inv)
                    go_wp2_with (go_at_call 12; refine (recover_calls HV.out.live.desk HV.out.live.fine).mono ?_; rintro e w1 ⟨rfl, hl⟩; obtain ⟨K1, hO, hk⟩ := HV.out.step hl HI.out.1; have HO := Aside0.mk hO; clear hl hO hk)
                    go_meet
                    exact ⟨_, K1, r, n, D.dc, rfl, rfl, by omega, by omega, by omega, by omega, by have := HDK.out; omega, HI.out.2, HO.out⟩
          case rest =>
            obtain ⟨D2, K2, r2, n2, wl, rfl, rfl, hr0, hrk, hn0, hn5, hwl, hchg, hO⟩ := hcut.out
            obtain ⟨A5, c5, rfl⟩ := Kd.R_slice hO.row
            have HG := Lib.hid hchg
            have HWL := Lib.hid hwl
            have HO := Aside0.mk hO
            have wl1 : (wl.length : Int) ≤ 201 := by omega
            clear hcut hwl hchg hO o0 o1 o2 o3 HV HBX HBN HBR HCV
            go_wp2_with fail
            go_loopw [103] (fun v103 wr => ∃ (j : Nat) (ys : List Int), v103 = .int .i64 j ∧ j ≤ wl.length ∧ Aside0 (OnceW w wr lo K2 p D2 (.slice A5 wl.length c5) ys r2 n2) ∧ Hid (ys.length = wl.length ∧ (∀ i, i < j → rd ys i = rd D2.dc i) ∧ ∀ i, j ≤ i → i < wl.length → rd ys i = rd wl i)) (fun v _ => wl.length - (intOf v).toNat)
            case atStart => exact ⟨0, wl, rfl, Nat.zero_le _, HO, rfl, fun i hi => by omega, fun i _ _ => rfl⟩
            case round =>
              obtain ⟨j, ys, rfl, hj, HJ, hys⟩ := hrel
              clear HO
              by_cases hlt : j < wl.length
              · obtain ⟨g, rfl, cj, fj⟩ := HJ.out.at_ (by rw [hys.out.1]; exact hlt) hys.out.1
                have hx : rd ys j = rd wl j := hys.out.2.2 j (Nat.le_refl _) hlt
                rw [hx] at cj
                obtain ⟨x, hxe⟩ : ∃ x, x = rd wl j := ⟨_, rfl⟩
                obtain ⟨y, hye⟩ : ∃ y, y = rd D2.dc j := ⟨_, rfl⟩
                rw [← hxe] at cj
                have hxy : x ≠ 0 → y = x := by rw [hxe, hye]; exact HG.out.2 j hlt
                have HAT := Lib.hid (show D2.at_ ((j : Int) + 1) = y by
                  have := HG.out.1
                  unfold Dk.at_
                  rw [if_pos (by omega), hye]
                  congr 1
                  omega)
                have hlast : y = 2 → (j : Int) = (wl.length : Int) - 1 → ¬ r2 < n2 := by
                  intro h2 hl
                  have hlen := HG.out.1
                  have hne : D2.dc ≠ [] := by intro h; have : wl.length = 0 := (by rw [hlen, h]; rfl); omega
                  have := HJ.out.inv.going hne (by
                    rw [show D2.dc.length - 1 = j by omega, ← hye]; exact h2)
                  omega
                have j0 : (0 : Int) ≤ j := by omega
                have j1 : (j : Int) < wl.length := by omega
                have HP := Aside0.mk (HJ.out.put (i := j) y)
                have HY : Hid (y = rd D2.dc j) := hye
                have HLJ := Lib.hid hlt
                have hnew : Hid ((ys.set j y).length = wl.length ∧ (∀ i, i < j + 1 → rd (ys.set j y) i = rd D2.dc i) ∧ ∀ i, j + 1 ≤ i → i < wl.length → rd (ys.set j y) i = rd wl i) := by
                  have h0 := hys.out.1
                  refine ⟨by simpa using h0, fun i hi => ?_, fun i h1 h2 => ?_⟩
                  · rw [rd_set _ _ _ _ (by omega)]
                    by_cases e : j = i
                    · rw [if_pos e, ← e, hye]
                    · rw [if_neg e]; exact hys.out.2.1 i (by omega)
                  · rw [rd_set _ _ _ _ (by omega), if_neg (by omega)]
                    exact hys.out.2.2 i (by omega) h2
                clear hx hxe hye hlt
                have hcase : ∃ b1 b2 b3 b4 : Bool, (x != 0) = b1 ∧ (y != x) = b2 ∧ (y == 2) = b3 ∧ ((j : Int) == (wl.length : Int) - 1) = b4 ∧ (b1 = true → b2 = false) ∧ (b3 = true → b4 = true → decide (r2 < n2) = false) := by
                  refine ⟨_, _, _, _, rfl, rfl, rfl, rfl, fun h => ?_, fun h1 h2 => ?_⟩
                  · have := hxy (by simpa using h)
                    simp [this]
                  · rw [decide_eq_false_iff_not]
                    exact hlast (by simpa using h1) (by simpa using h2)
                obtain ⟨b1, b2, b3, b4, e1, e2, e3, e4, e5, e6⟩ := hcase
                clear hxy hlast
                cases b1 <;> cases b3
                · clear e4 e5 e6
                  go_wp2_with (go_at_call 10; refine (decided_calls HJ.out.live.desk HJ.out.live.fine _).mono ?_; rintro e w' ⟨rfl, rfl⟩; rw [HAT.out])
                  go_roundw
                  case rel => exact ⟨j + 1, ys.set j y, by go_num, by have := HLJ.out; omega, HP, hnew.out⟩
                  case measure => have := HLJ.out; simp [intOf]; omega
                · have e7 := e6 rfl
                  clear e5 e6
                  cases b4
                  · clear e7
                    go_wp2_with (go_at_call 10; refine (decided_calls HJ.out.live.desk HJ.out.live.fine _).mono ?_; rintro e w' ⟨rfl, rfl⟩; rw [HAT.out])
                    go_roundw
                    case rel => exact ⟨j + 1, ys.set j y, by go_num, by have := HLJ.out; omega, HP, hnew.out⟩
                    case measure => have := HLJ.out; simp [intOf]; omega
                  · replace e7 := e7 rfl
                    go_wp2_with (go_at_call 10; refine (decided_calls HJ.out.live.desk HJ.out.live.fine _).mono ?_; rintro e w' ⟨rfl, rfl⟩; rw [HAT.out])
                    go_roundw
                    case rel => exact ⟨j + 1, ys.set j y, by go_num, by have := HLJ.out; omega, HP, hnew.out⟩
                    case measure => have := HLJ.out; simp [intOf]; omega
                · replace e5 := e5 rfl
                  subst e5
                  clear e4 e6
                  go_wp2_with (go_at_call 10; refine (decided_calls HJ.out.live.desk HJ.out.live.fine _).mono ?_; rintro e w' ⟨rfl, rfl⟩; rw [HAT.out])
                  go_roundw
                  case rel => exact ⟨j + 1, ys.set j y, by go_num, by have := HLJ.out; omega, HP, hnew.out⟩
                  case measure => have := HLJ.out; simp [intOf]; omega
                · replace e5 := e5 rfl
                  subst e5
                  have e7 := e6 rfl
                  clear e6
                  cases b4
                  · clear e7
                    go_wp2_with (go_at_call 10; refine (decided_calls HJ.out.live.desk HJ.out.live.fine _).mono ?_; rintro e w' ⟨rfl, rfl⟩; rw [HAT.out])
                    go_roundw
                    case rel => exact ⟨j + 1, ys.set j y, by go_num, by have := HLJ.out; omega, HP, hnew.out⟩
                    case measure => have := HLJ.out; simp [intOf]; omega
                  · replace e7 := e7 rfl
                    go_wp2_with (go_at_call 10; refine (decided_calls HJ.out.live.desk HJ.out.live.fine _).mono ?_; rintro e w' ⟨rfl, rfl⟩; rw [HAT.out])
                    go_roundw
                    case rel => exact ⟨j + 1, ys.set j y, by go_num, by have := HLJ.out; omega, HP, hnew.out⟩
                    case measure => have := HLJ.out; simp [intOf]; omega
              · have j1 : ¬ (j : Int) < wl.length := by omega
                have hdc : ys = D2.dc := by
                  have h0 := hys.out.1
                  have h1 := HG.out.1
                  refine List.ext_getElem (by omega) (fun i hi1 hi2 => ?_)
                  have := hys.out.2.1 i (by omega)
                  rw [rd_get _ _ hi1, rd_get _ _ hi2] at this
                  exact this
                subst hdc
                have HQ := Lib.hid (show D2.dc.length ≤ k + 1 by have := HWL.out; have := HG.out.1; omega)
                clear hlt hys HG HWL
                go_wp2
                go_roundw
                case rel => exact ⟨k + 1, D2, K2, r2, n2, by go_num, rfl, rfl, by have := HLT.out; omega, by omega, by omega, by omega, by omega, HQ, HJ⟩
                case measure => have := HLT.out; simp [intOf]; omega
      · have k1 : ¬ (k : Int) < ops.length := by omega
        clear hlt
        go_wp2
        go_ret
        exact ⟨rfl, HW.out.live.below⟩
end Go.Proofs.Ytmhfigkdeeldnaa
