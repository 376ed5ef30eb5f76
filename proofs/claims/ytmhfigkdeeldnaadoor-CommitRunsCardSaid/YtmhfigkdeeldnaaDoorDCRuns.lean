/- CommitRuns: the walk. -/
import Derived.Test.YtmhfigkdeeldnaaDoorR20H
import Derived.Test.YtmhfigkdeeldnaaDoorCmOpenD
import Derived.Test.YtmhfigkdeeldnaaDoorCmAwake
namespace Go.Proofs.YtmhfigkdeeldnaaDoor
open Go.RowKit Go.Proofs.YtmhfigkdeeldnaaDoorW.PrintWords Go.Proofs.YtmhfigkdeeldnaaDoorW.PrintLast Go.Proofs.YtmhfigkdeeldnaaDoorW.PrintMore
set_option linter.unusedVariables false
set_option linter.unusedSimpArgs false
/-- Between two calls of the script. -/
structure RunsW (w wr : World) (lo : Nat) (K : Nat → Prop) (p gm : Nat) (D : Dk) (M : RD) (An : Option Addr) (cn : Nat) (As : Option Addr) (cs : Nat) (Ad : Option Addr) (cd : Nat) : Prop where
  desk : IsDesk wr lo K D p
  rel : Rel D M
  cell : wr.heap[gm]? = some (.cells #[.int .i64 M.st, .slice An M.ns.length cn, .slice As M.said.length cs, .slice Ad M.dc.length cd] 28 (0, 0))
  rows : RdAt wr lo (fun b => ¬ K b) M An cn As cs Ad cd
  far : ¬ K gm
  below : Below w.heap.size w wr
  low : w.heap.size ≤ lo
  lgm : lo ≤ gm
theorem RunsW.stay {w wr w1 : World} {lo p gm cn cs cd : Nat} {K : Nat → Prop} {D : Dk} {M : RD} {An As Ad : Option Addr} (h : RunsW w wr lo K p gm D M An cn As cs Ad cd) (hb : Below wr.heap.size wr w1) : RunsW w w1 lo K p gm D M An cn As cs Ad cd :=
  ⟨h.desk.stay hb, h.rel, (hb.block _ (blk_lt h.cell)).trans h.cell, h.rows.below hb, h.far, below_step h.below hb, h.low, h.lgm⟩
theorem RunsW.lo_le {w wr : World} {lo p gm cn cs cd : Nat} {K : Nat → Prop} {D : Dk} {M : RD} {An As Ad : Option Addr} (h : RunsW w wr lo K p gm D M An cn As cs Ad cd) : lo ≤ wr.heap.size := by obtain ⟨_, _, _, _, _, _, z⟩ := h.desk; exact z.low
theorem step_any {w : World} {lo p cn cs cd c3 m : Nat} {K0 : Nat → Prop} {D : Dk} {M : RD} {An As Ad A3 : Option Addr} {kind change node : Int} {nodes : List Int} (hg : ∀ w', Below lo w w' → Laid w') (hW : IsDesk w lo K0 D p) (hR : Rel D M) (hv : RdAt w lo (fun k => ¬ K0 k) M An cn As cs Ad cd) (hnd : ∀ w', Below lo w w' → (Kd.int .i64).C w' A3 nodes.length nodes) (hn50 : nodes.length ≤ 50) (hm : D.dc.length < m) (hm2 : m ≤ 1000) :
    Calls Tryd.prog 7 #[.pointer (some ⟨p, 0, none⟩), .agg #[.int .i64 M.st, .slice An M.ns.length cn, .slice As M.said.length cs, .slice Ad M.dc.length cd], .agg #[.int .i64 kind, .int .i64 change, .int .i64 node, .slice A3 nodes.length c3]] w (StepPost w lo K0 p m) := by
  by_cases h0 : kind = 0
  · exact step_begin hg hW hR hv hnd hn50 hm hm2 h0
  · exact step_other hg hW hR hv hnd hn50 hm hm2 h0
set_option maxRecDepth 100000 in
set_option maxHeartbeats 2000000 in
theorem runs_walk (w : World) (hg : Laid w) (A0 : Option Addr) (c0 : Nat) (ops : List Op) (hr : OpsC w A0 ops) (hm : (ops.length : Int) ≤ 9223372036854775807) :
    Calls Tryd.prog 3 #[.slice A0 ops.length c0] w fun e w' => e = .returned (.bool true) ∧ Below w.heap.size w w' := by
  have HR := Lib.hid hr
  have HG := Lib.hid hg
  clear hr hg
  by_cases hbig : 200 < ops.length
  · have hb : (200 : Int) < ops.length := by omega
    go_enter Tryd.func3, Tryd.ntmps3
    go_wp2_with (go_at_call 5; refine (awake_calls _).mono ?_; rintro e w1 ⟨rfl, hb1⟩; have HB1 := Aside0.mk hb1; clear hb1)
    go_ret
    exact ⟨rfl, HB1.out⟩
  · have hb : ¬ (200 : Int) < ops.length := by omega
    have h200 : (ops.length : Int) ≤ 200 := by omega
    go_enter Tryd.func3, Tryd.ntmps3
    go_upto_region 5 with (go_at_call 5; refine (awake_calls _).mono ?_; rintro e w1 ⟨rfl, hb1⟩; have HB1 := Aside0.mk hb1; clear hb1)
    go_cut [3, 4] (fun s3 s4 wx => ∃ p gm lo K, s3 = .pointer (some ⟨p, 0, none⟩) ∧ s4 = .pointer (some ⟨gm, 0, none⟩) ∧ Aside0 (RunsW w wx lo K p gm Dk.new ⟨0, [], [], []⟩ none 0 none 0 none 0))
    case first =>
      go_wp2_with (go_at_call 6; refine (new_calls _).mono ?_; rintro e w2 ⟨p, K1, rfl, hW, hB, hK⟩; have HW2 := Lib.hid hW; have HB2 := Lib.hid hB; clear hW hB hK)
      go_meet
      case rel =>
        have hs := HB2.out.size
        refine ⟨p, w2.heap.size, w1.heap.size, K1, rfl, rfl, ⟨HW2.out.stay (below_alloc (Below.refl _ _) _), Rel.new, heap_alloc_new _ _, ⟨Kd.R_nil _ _ _ _ _, Kd.R_nil _ _ _ _ _, Kd.R_nil _ _ _ _ _⟩, fun hc => ?_, below_alloc (below_step HB1.out HB2.out) _, HB1.out.size, hs⟩⟩
        have := (HW2.out.kb _ hc).2
        omega
    case rest =>
      obtain ⟨p, gm, lo, K0, rfl, rfl, H0⟩ := hcut
      clear HB1
      go_wp2_with fail
      go_loopw [18] (fun v18 wr => ∃ (k : Nat) (D : Dk) (K : Nat → Prop) (M : RD) (An : Option Addr) (cn : Nat) (As : Option Addr) (cs : Nat) (Ad : Option Addr) (cd : Nat), v18 = .int .i64 k ∧ k ≤ ops.length ∧ Hid (D.dc.length ≤ k) ∧ Aside0 (RunsW w wr lo K p gm D M An cn As cs Ad cd)) (fun v _ => ops.length - (intOf v).toNat)
      case atStart => exact ⟨0, Dk.new, K0, ⟨0, [], [], []⟩, none, 0, none, 0, none, 0, rfl, Nat.zero_le _, Nat.zero_le _, H0⟩
      case round =>
        obtain ⟨k, D, K, M, An, cn, As, cs, Ad, cd, rfl, hk, HDK, HW⟩ := hrel
        clear H0
        by_cases hlt : k < ops.length
        · obtain ⟨o, ho⟩ : ∃ o, ops[k]? = some o := ⟨ops[k], List.getElem?_eq_getElem hlt⟩
          obtain ⟨ad, rfl, hat⟩ := HR.out k o ho
          obtain ⟨kind, change, node, nodes⟩ := o
          obtain ⟨o0, o1, o2, A3, c3, o3, hC⟩ := hat
          have key : ∀ a v, w.cell? a = some v → wr.cell? a = some v := fun a v h => by rw [HW.out.below.cell (World.block_lt_of_cell? w a h)]; exact h
          replace o0 := key _ _ o0
          replace o1 := key _ _ o1
          replace o2 := key _ _ o2
          replace o3 := key _ _ o3
          simp only [] at o0 o1 o2 o3
          have k0 : (0 : Int) ≤ k := by omega
          have k1 : (k : Int) < ops.length := by omega
          have HLT := Lib.hid hlt
          have hm3 : (nodes.length : Int) ≤ 9223372036854775807 := by have : nodes.length ≤ 9223372036854775807 := hC.2.1; omega
          have HC0 := Lib.hid (show ∀ w', Below w.heap.size w w' → (Kd.int .i64).C w' A3 nodes.length nodes from fun w' hb => Kd.C_below hC hb)
          clear hlt hC key ho
          by_cases h50 : 50 < nodes.length
          · have hb50 : (50 : Int) < nodes.length := by omega
            clear h50
            go_wp2
            go_ret
            exact ⟨rfl, below_step HW.out.below (below_alloc (Below.refl _ _) _)⟩
          · have hb50 : ¬ (50 : Int) < nodes.length := by omega
            have hn50 : (nodes.length : Int) ≤ 50 := by omega
            have H50 := Lib.hid (show nodes.length ≤ 50 by omega)
            clear h50
            go_upto_region 11 with fail
            obtain ⟨V, hV⟩ : ∃ V : World, V = wr.alloc (.cells #[.int .i64 kind, .int .i64 change, .int .i64 node, .slice A3 nodes.length c3] 30) := ⟨_, rfl⟩
            rw [← hV]
            obtain ⟨b, hbb⟩ : ∃ b, b = wr.heap.size := ⟨_, rfl⟩
            rw [← hbb]
            have hbel : Below wr.heap.size wr V := by rw [hV]; exact below_alloc (Below.refl _ _) _
            have HV := Aside0.mk (HW.out.stay hbel)
            have HBX := Aside0.mk (show V.heap[b]? = some (.cells #[.int .i64 kind, .int .i64 change, .int .i64 node, .slice A3 nodes.length c3] 30 (0, 0)) by rw [hV, hbb]; exact heap_alloc_new _ _)
            have HBN := Aside0.mk (show ¬ K b by rw [hbb]; intro hc; have := (HW.out.desk.kb _ hc).2; omega)
            obtain ⟨o0, o1, o2, o3⟩ := O_cells HBX.out
            obtain ⟨⟨m0, m1, m2, m3⟩, _⟩ := M_cells HV.out.cell
            have HLOW := Lib.hid (show ∀ w', Below lo V w' → Below w.heap.size w w' from fun w' hb => HV.out.below.trans (hb.mono HV.out.low))
            clear hV hbb hbel HW
            go_upto_region 12 with (go_at_call 7; refine (step_any (m := k + 1) (fun w' hb => HG.out.below (HLOW.out w' hb)) HV.out.desk HV.out.rel HV.out.rows (fun w' hb => HC0.out w' (HLOW.out w' hb)) H50.out (by have := HDK.out; omega) (by omega)).mono ?_; rintro e w1 ⟨K1, D1, M1, v1, rfl, hd, hrel, hrr, hmv, hln⟩; obtain ⟨An1, cn1, As1, cs1, Ad1, cd1, rfl, hrr⟩ := hrr; have hcell1 := (hmv.kept.2 gm (blk_lt HV.out.cell) HV.out.far).trans HV.out.cell; have hfar1 : ¬ K1 gm := (fun hc => (hmv.new gm hc).elim HV.out.far (fun h => by have := blk_lt HV.out.cell; omega)); have HRel := Lib.hid hrel; have HLN := Lib.hid hln; have HD1 := Lib.hid hd; have HRR := Lib.hid hrr; have HC1 := Lib.hid hcell1; have HF1 := Lib.hid hfar1; have HB1 := Lib.hid (HLOW.out w1 hmv.below); have HBX1 := Lib.hid ((hmv.kept.2 b (blk_lt HBX.out) HBN.out).trans HBX.out); obtain ⟨p0, p1, p2, p3⟩ := O_cells HBX1.out; clear hd hrel hrr hmv hln hcell1 hfar1 o0 o1 o2 o3)
            obtain ⟨V2, hV2⟩ : ∃ V2 : World, V2 = w1.alloc (.cells #[.int .i64 M1.st, .slice An1 M1.ns.length cn1, .slice As1 M1.said.length cs1, .slice Ad1 M1.dc.length cd1] 28) := ⟨_, rfl⟩
            rw [← hV2]
            obtain ⟨q, hq⟩ : ∃ q, q = w1.heap.size := ⟨_, rfl⟩
            rw [← hq]
            have hbel : Below w1.heap.size w1 V2 := by rw [hV2]; exact below_alloc (Below.refl _ _) _
            have HD2 := Lib.hid (HD1.out.stay hbel)
            have HR2 := Lib.hid (HRR.out.below hbel)
            have HC2 := Lib.hid ((hbel.block _ (blk_lt HC1.out)).trans HC1.out)
            have HB2 := Lib.hid (below_step HB1.out hbel)
            have HQ2 := Lib.hid (show V2.heap[q]? = some (.cells #[.int .i64 M1.st, .slice An1 M1.ns.length cn1, .slice As1 M1.said.length cs1, .slice Ad1 M1.dc.length cd1] 28 (0, 0)) by rw [hV2, hq]; exact heap_alloc_new _ _)
            have HX2 := Lib.hid ((hbel.block _ (blk_lt HBX1.out)).trans HBX1.out)
            obtain ⟨p0, p1, p2, p3⟩ := O_cells HX2.out
            obtain ⟨⟨c0, c1, c2, c3⟩, _⟩ := M_cells HQ2.out
            clear hV2 hq hbel m0 m1 m2 m3
            go_wp2_with (go_at_call 8; refine (holds_calls HD2.out HRel.out HR2.out.value change).mono ?_; rintro e w3 ⟨rfl, hb3⟩; have HB3 := Lib.hid hb3; have HC3 := Lib.hid ((hb3.block _ (blk_lt HC2.out)).trans HC2.out); have HQ3 := Lib.hid ((hb3.block _ (blk_lt HQ2.out)).trans HQ2.out); obtain ⟨⟨d0, d1, d2, d3⟩, _⟩ := M_cells HQ3.out; obtain ⟨⟨g0, g1, g2, g3⟩, g4, g5, g6, g7⟩ := M_cells HC3.out; clear hb3 c0 c1 c2 c3)
            go_roundw
            case rel =>
              have hlo : lo ≤ gm := HV.out.lgm
              have hlw := HV.out.low
              refine ⟨k + 1, D1, K1, M1, An1, cn1, As1, cs1, Ad1, cd1, by go_num, by have := HLT.out; omega, HLN.out, ⟨⟨?_, HRel.out, M_put HC3.out _ _ _ _, (HR2.out.below HB3.out).put4 HC3.out (by decide) _ _ _ _, HF1.out, below_put4 (below_step HB2.out HB3.out) (by omega) _ _ _ _, hlw, hlo⟩⟩⟩
              exact desk_put (desk_put (desk_put (desk_put (HD2.out.stay HB3.out) HF1.out _) HF1.out _) HF1.out _) HF1.out _
            case measure => have := HLT.out; simp [intOf]; omega
        · have k1 : ¬ (k : Int) < ops.length := by omega
          clear hlt
          go_wp2
          go_ret
          exact ⟨rfl, HW.out.below⟩
end Go.Proofs.YtmhfigkdeeldnaaDoor
