/- The document's desk: Ready, Done, where the call is taken. Printed by wip/mk20d.py. -/
import Derived.Test.YtmhfigkdeeldnaaDoorR20C
namespace Go.Proofs.YtmhfigkdeeldnaaDoor
open Go.RowKit Go.Proofs.YtmhfigkdeeldnaaDoorW.PrintWords Go.Proofs.YtmhfigkdeeldnaaDoorW.PrintLast Go.Proofs.YtmhfigkdeeldnaaDoorW.PrintMore
set_option linter.unusedVariables false
set_option linter.unusedSimpArgs false
/-- What a call of the document's desk answers. -/
def PostR (w : World) (base : Nat) (ok : Nat → Prop) (P : Int × RD) (e : Ending) (w' : World) : Prop :=
  ∃ An cn As cs Ad cd, e = .returned (.tuple #[.agg #[.int .i64 P.2.st, .slice An P.2.ns.length cn, .slice As P.2.said.length cs, .slice Ad P.2.dc.length cd], eV P.1]) ∧ RdAt w' base ok P.2 An cn As cs Ad cd ∧ Below w.heap.size w w'
theorem PostR.fin_ {w w' : World} {base : Nat} {ok : Nat → Prop} {P : Int × RD} {code : Int} {bad : Bool} {M : RD} {An As Ad : Option Addr} {cn cs cd : Nat} (h : P = (code, M) ∧ bad = (!(code == 0))) (hr : RdAt w' base ok M An cn As cs Ad cd) (hb : Below w.heap.size w w') :
    PostR w base ok P (.returned (.tuple #[.agg #[.int .i64 M.st, .slice An M.ns.length cn, .slice As M.said.length cs, .slice Ad M.dc.length cd], .agg #[.bool bad, .slice none 0 0, .int .i64 code]])) w' := by
  obtain ⟨rfl, rfl⟩ := h
  exact ⟨An, cn, As, cs, Ad, cd, rfl, hr, hb⟩
theorem MidR.put {w wx : World} {base cn cs cd cn2 cs2 cd2 g : Nat} {ok : Nat → Prop} {a b c d : Value} {M M2 : RD} {An As Ad An2 As2 Ad2 : Option Addr} {bad : Bool} {code : Int} (h : MidR w wx base ok a b c d g M An cn As cs Ad cd bad code) (hr : RdAt wx base ok M2 An2 cn2 As2 cs2 Ad2 cd2) :
    MidR w ((((wx.setCell ⟨g, 0, none⟩ (.int .i64 M2.st)).setCell ⟨g, 1, none⟩ (.slice An2 M2.ns.length cn2)).setCell ⟨g, 2, none⟩ (.slice As2 M2.said.length cs2)).setCell ⟨g, 3, none⟩ (.slice Ad2 M2.dc.length cd2)) base ok a b c d g M2 An2 cn2 As2 cs2 Ad2 cd2 bad code := by
  have := h.far
  exact ⟨⟨below_put4 h.mid.below (by omega) _ _ _ _, put_both h.mid.box (by omega) _ _ _ _, put_both h.mid.res (by omega) _ _ _ _, put_both h.mid.res2 (by omega) _ _ _ _⟩, M_put h.out _ _ _ _, put_both h.err (by omega) _ _ _ _, hr.put4 h.out (by decide) _ _ _ _, h.far⟩
theorem MidR.step {w wx w1 : World} {base cn cs cd g : Nat} {ok : Nat → Prop} {a b c d : Value} {M : RD} {An As Ad : Option Addr} {bad : Bool} {code : Int} (h : MidR w wx base ok a b c d g M An cn As cs Ad cd bad code) (hb : Below wx.heap.size wx w1) : MidR w w1 base ok a b c d g M An cn As cs Ad cd bad code :=
  ⟨h.mid.step hb, (hb.block _ (blk_lt h.out)).trans h.out, (hb.block _ (blk_lt h.err)).trans h.err, h.rows.below hb, h.far⟩
theorem pair_say {M M1 : RD} {node code : Int} (hc : code = (M.sayM node).1) (hm : M1 = (M.sayM node).2) : M.sayM node = (code, M1) := by rw [hc, hm]
theorem readyM_part {ns said dc : List Int} {node code : Int} {M1 : RD} (hc : code = (RD.sayM ⟨1, ns, said, dc⟩ node).1) (hm : M1 = (RD.sayM ⟨1, ns, said, dc⟩ node).2) (hf : RD.full (code, M1) = false) : RD.readyM ⟨1, ns, said, dc⟩ dc.length node = (code, M1) := by
  unfold RD.readyM
  rw [if_pos ⟨rfl, rfl⟩, pair_say hc hm, if_neg (by rw [hf]; decide)]
theorem readyM_full {ns said dc : List Int} {node : Int} {M1 : RD} (hm : M1 = (RD.sayM ⟨1, ns, said, dc⟩ node).2) (hf : RD.full ((RD.sayM ⟨1, ns, said, dc⟩ node).1, (RD.sayM ⟨1, ns, said, dc⟩ node).2) = true) : RD.readyM ⟨1, ns, said, dc⟩ dc.length node = (0, M1.decide 2) := by
  unfold RD.readyM
  rw [if_pos ⟨rfl, rfl⟩, if_pos hf, hm]
theorem doneM_part {st : Int} {ns said dc : List Int} {node code : Int} {M1 : RD} (hs : st = 2 ∨ st = 3) (hc : code = (RD.sayM ⟨st, ns, said, dc⟩ node).1) (hm : M1 = (RD.sayM ⟨st, ns, said, dc⟩ node).2) (hf : RD.full (code, M1) = false) : RD.doneM ⟨st, ns, said, dc⟩ dc.length node = (code, M1) := by
  unfold RD.doneM
  rw [if_pos ⟨hs, rfl⟩, pair_say hc hm, if_neg (by rw [hf]; decide)]
theorem doneM_full {st : Int} {ns said dc : List Int} {node : Int} {M1 : RD} (hs : st = 2 ∨ st = 3) (hm : M1 = (RD.sayM ⟨st, ns, said, dc⟩ node).2) (hf : RD.full ((RD.sayM ⟨st, ns, said, dc⟩ node).1, (RD.sayM ⟨st, ns, said, dc⟩ node).2) = true) : RD.doneM ⟨st, ns, said, dc⟩ dc.length node = (0, ⟨0, [], [], M1.dc⟩) := by
  unfold RD.doneM
  rw [if_pos ⟨hs, rfl⟩, if_pos hf, hm, (sayM_dc _ _).1]
set_option maxRecDepth 100000 in
set_option maxHeartbeats 4000000 in
theorem refReady_goes {w : World} {base cn cs cd : Nat} {ok : Nat → Prop} {ns said dc : List Int} {An As Ad : Option Addr} (h : RdAt w base ok (⟨1, ns, said, dc⟩ : RD) An cn As cs Ad cd) (hF : MFine (⟨1, ns, said, dc⟩ : RD)) (hok : ∀ k, w.heap.size ≤ k → ok k) (hb : base ≤ w.heap.size) (node : Int) :
    Calls Tryd.prog 21 #[.agg #[.int .i64 1, .slice An ns.length cn, .slice As said.length cs, .slice Ad dc.length cd], .int .i64 dc.length, .int .i64 node] w (PostR w base ok (RD.readyM ⟨1, ns, said, dc⟩ dc.length node)) := by
  obtain ⟨P, hP⟩ : ∃ P, P = (RD.readyM ⟨1, ns, said, dc⟩ dc.length node) := ⟨_, rfl⟩
  rw [← hP]
  have HP := Lib.hid hP
  have H := Lib.hid h
  have HF := Lib.hid hF
  have HOK := Lib.hid hok
  have HBS := Lib.hid hb
  obtain ⟨code, hcode⟩ : ∃ code, code = ((⟨1, ns, said, dc⟩ : RD).sayM node).1 := ⟨_, rfl⟩
  obtain ⟨M1, hM1⟩ : ∃ M1, M1 = ((⟨1, ns, said, dc⟩ : RD).sayM node).2 := ⟨_, rfl⟩
  have HC1 := Lib.hid hcode
  have HM1 := Lib.hid hM1
  have hbx : ((dc.length : Int) != (dc.length : Int)) = false := by simp
  have HMS := Aside0.mk ((MidE.start w (.int .i64 1) (.slice An ns.length cn) (.slice As said.length cs) (.slice Ad dc.length cd)).alloc (.cells #[.int .i64 1, .slice An ns.length cn, .slice As said.length cs, .slice Ad dc.length cd] 28))
  clear h hF hok hb hP hcode hM1
  go_enter Tryd.func21, Tryd.ntmps21
  go_upto_region 3 with (go_at_call 25; refine (refChange_calls _ _ _ _ _ _ _).mono ?_; rintro e w1 ⟨rfl, rfl⟩)
  obtain ⟨w0, hw0⟩ : ∃ w0, w0 = (midW w (.int .i64 1) (.slice An ns.length cn) (.slice As said.length cs) (.slice Ad dc.length cd)).alloc (.cells #[.int .i64 1, .slice An ns.length cn, .slice As said.length cs, .slice Ad dc.length cd] 28) := ⟨_, rfl⟩
  rw [← hw0] at HMS
  have hw1 : w0 = (((w.alloc (.cells #[.int .i64 1, .slice An ns.length cn, .slice As said.length cs, .slice Ad dc.length cd] 28)).alloc (.cells #[.int .i64 0, .slice none 0 0, .slice none 0 0, .slice none 0 0] 28)).alloc (.cells #[.bool false, .slice none 0 0, .int .i64 0] 38)).alloc (.cells #[.int .i64 1, .slice An ns.length cn, .slice As said.length cs, .slice Ad dc.length cd] 28) := hw0
  rw [← hw1]
  clear hw0 hw1
  obtain ⟨⟨d0, d1, d2, d3⟩, _⟩ := M_cells HMS.out.box
  go_cut [8, 9] (fun s8 s9 wx => ∃ g An1 cn1 As1 cs1 Ad1 cd1, s8 = .pointer (some ⟨g, 0, none⟩) ∧ s9 = .pointer (some ⟨g + 1, 0, none⟩) ∧ Aside0 (MidR w wx base ok (.int .i64 1) (.slice An ns.length cn) (.slice As said.length cs) (.slice Ad dc.length cd) g M1 An1 cn1 As1 cs1 Ad1 cd1 (!(code == 0)) code))
  case first =>
    go_wp2_with (go_at_call 35; refine (refSay_calls (H.out.below HMS.out.below) HF.out (fun k hk => HOK.out k (Nat.le_trans HMS.out.below.size hk)) (Nat.le_trans HBS.out HMS.out.below.size) node).mono ?_; rintro e w1 ⟨An1, cn1, As1, cs1, Ad1, cd1, rfl, hr, hbb⟩; rw [← HM1.out, ← HC1.out]; rw [← HM1.out] at hr; have HR1 := Aside0.mk hr; have HB1 := Aside0.mk hbb; clear hr hbb)
    go_meet
    case rel =>
      have hm := HMS.out.step HB1.out
      exact ⟨w1.heap.size, An1, cn1, As1, cs1, Ad1, cd1, rfl, rfl, ⟨⟨(hm.alloc _).alloc _, (heap_keep _ _ (by simp only [alloc_size]; omega)).trans (heap_alloc_new _ _), heap_alloc_here _ _ _ (by simp only [alloc_size]), (HR1.out.below (below_alloc (Below.refl _ _) _)).below (below_alloc (Below.refl _ _) _), hm.size⟩⟩⟩
  case rest =>
    obtain ⟨g, An1, cn1, As1, cs1, Ad1, cd1, rfl, rfl, H1⟩ := hcut
    clear HMS d0 d1 d2 d3
    obtain ⟨full, hfull⟩ : ∃ full, full = RD.full (code, M1) := ⟨_, rfl⟩
    have HFU := Lib.hid hfull
    clear hfull
    obtain ⟨wx, rfl⟩ : ∃ wx, wx = wc := ⟨_, rfl⟩
    go_upto_region 4 with (fail)
    go_cut [38] (fun sp wy => sp = .bool full ∧ wy = wx)
    case first =>
      obtain ⟨⟨d0, d1, d2, d3⟩, _⟩ := M_cells H1.out.out
      obtain ⟨⟨e0, e1, e2⟩, _⟩ := E_cells (x := (0, 0)) H1.out.err
      cases hc0 : code == 0 with
      | false =>
        rw [hc0] at e0
        have HV := Lib.hid (show full = false by rw [HFU.out]; unfold RD.full; rw [show ((code, M1) : Int × RD).1 = code from rfl, hc0]; rfl)
        clear hc0
        go_wp2
        go_meet
        case rel => rw [HV.out]; exact ⟨rfl, rfl⟩
      | true =>
        rw [hc0] at e0
        have HV := Lib.hid (show full = ((M1.said.length : Int) == (M1.ns.length : Int)) by
          rw [HFU.out]
          unfold RD.full
          rw [show ((code, M1) : Int × RD).1 = code from rfl, hc0]
          rw [Bool.eq_iff_iff]
          simp
          omega)
        clear hc0
        go_wp2
        go_meet
        case rel => rw [HV.out]; exact ⟨rfl, rfl⟩
    case rest =>
      obtain ⟨rfl, hwc⟩ := hcut
      subst hwc
      go_upto_if 38 with (fail)
      go_cut [] (fun wy => ∃ M3 An3 cn3 As3 cs3 Ad3 cd3 bad3 code3, Aside0 (MidR w wy base ok (.int .i64 1) (.slice An ns.length cn) (.slice As said.length cs) (.slice Ad dc.length cd) g M3 An3 cn3 As3 cs3 Ad3 cd3 bad3 code3) ∧ Hid (P = (code3, M3) ∧ bad3 = (!(code3 == 0))))
      case first =>
        cases full with
        | false =>
          go_wp2
          go_meet
          case rel =>
            refine ⟨M1, An1, cn1, As1, cs1, Ad1, cd1, _, code, H1, ?_, rfl⟩
            rw [HP.out]
            exact readyM_part HC1.out HM1.out HFU.out.symm
        | true =>
          have hcz : code = 0 := by have := HFU.out; unfold RD.full at this; simp at this; exact this.1
          subst hcz
          obtain ⟨⟨d0, d1, d2, d3⟩, d4, d5, d6, d7⟩ := M_cells H1.out.out
          obtain ⟨⟨e0, e1, e2⟩, _⟩ := E_cells (x := (0, 0)) H1.out.err
          have hdc := sayM_dc ⟨1, ns, said, dc⟩ node
          rw [← HM1.out] at hdc
          have HDC := Lib.hid hdc
          clear hdc
          go_wp2_with (go_at_call 36; refine (refDecideM_calls H1.out.rows (by rw [HDC.out.1]; exact HF.out.dm) (by rw [HDC.out.1]; exact HF.out.d0 (by show (1 : Int) ≠ 0; decide)) (fun k hk => HOK.out k (Nat.le_trans H1.out.mid.below.size hk)) (Nat.le_trans HBS.out H1.out.mid.below.size) 2).mono ?_; rintro e w2 ⟨A5, k5, rfl, hr, hbb⟩; have H2 := Aside0.mk (H1.out.step hbb); have HR2 := Aside0.mk hr; have hg2 := H2.out.out; obtain ⟨⟨b0, b1, b2, b3⟩, b4, b5, b6, b7⟩ := M_cells hg2; have hel : (M1.decide 2).dc.length = M1.dc.length := (by simp [RD.decide]); have HEL := Lib.hid hel; clear hr hbb hg2 hel)
          go_meet
          case rel =>
            have hp := H2.out.put HR2.out
            rw [HEL.out] at hp
            refine ⟨M1.decide 2, An1, cn1, none, 0, A5, k5, _, 0, ⟨hp⟩, ?_, rfl⟩
            rw [HP.out]
            exact readyM_full HM1.out (by rw [← HC1.out, ← HM1.out]; exact HFU.out.symm)
      case rest =>
        obtain ⟨M3, An3, cn3, As3, cs3, Ad3, cd3, bad3, code3, H3, HE3⟩ := hcut
        have HF3 := Lib.hid H3.out.far
        clear H1
        go_wp2
        refine wp_region_noPanic ?_
        refine wp_region_held_drew (S := fun W => W.heap[g]? = some (.cells #[.int .i64 M3.st, .slice An3 M3.ns.length cn3, .slice As3 M3.said.length cs3, .slice Ad3 M3.dc.length cd3] 28 (0, 0)) ∧ W.heap[g + 1]? = some (.cells #[.bool bad3, .slice none 0 0, .int .i64 code3] 38 (0, 0))) (by kernel_rfl) ⟨H3.out.out, H3.out.err⟩ (fun hHeld => ?_)
        have H4 := Aside0.mk (H3.out.step (Below.refl _ _).drew)
        obtain ⟨wd, hwd⟩ : ∃ wd, wd = wc.drew := ⟨_, rfl⟩
        rw [← hwd] at H4 hHeld ⊢
        clear hwd
        refine wpAnyH_take (i := 0) (v := ?_) rfl (by kernel_rfl) (by kernel_rfl) (by kernel_rfl) (fun _ _ _ h => h) (Or.inl ⟨by rfl, ?_⟩) (by assumption) ?_
        rotate_left 1
        · first | (intro w hSw; obtain ⟨⟨c0, c1, c2, c3⟩, _⟩ := M_cells hSw.1; go_simp; done) | (intro w hSw; obtain ⟨⟨c0, c1, c2, c3⟩, _⟩ := M_cells hSw.1; go_simp; with_reducible rfl)
        try simp only [Act.put, List.getElem_toArray, List.getElem_cons_zero, List.getElem_cons_succ, List.setIfInBounds_toArray, List.set_cons_zero, List.set_cons_succ]
        refine wpAnyH_take (i := 1) (v := ?_) rfl (by kernel_rfl) (by kernel_rfl) (by kernel_rfl) (fun _ _ _ h => h) (Or.inl ⟨by rfl, ?_⟩) (by assumption) ?_
        rotate_left 1
        · first | (intro w hSw; obtain ⟨⟨c0, c1, c2⟩, _⟩ := E_cells (x := (0, 0)) hSw.2; go_simp; done) | (intro w hSw; obtain ⟨⟨c0, c1, c2⟩, _⟩ := E_cells (x := (0, 0)) hSw.2; go_simp; with_reducible rfl)
        try simp only [Act.put, List.getElem_toArray, List.getElem_cons_zero, List.getElem_cons_succ, List.setIfInBounds_toArray, List.set_cons_zero, List.set_cons_succ]
        obtain ⟨⟨g0, g1, g2, g3⟩, g4, g5, g6, g7⟩ := M_cells (H4.out.mid.res)
        obtain ⟨⟨q0, q1, q2⟩, q3, q4, q5⟩ := E_cells (x := (0, 0)) (H4.out.mid.res2)
        refine wpAnyH_ready (rs := [2]) (by kernel_rfl) (by simp) ?_
        refine AllReadyH.cons rfl (fun K hK => ?_) AllReadyH.nil
        go_simp
        refine hK.out _ _ (⟨put_both H4.out.out (show w.heap.size + 1 ≠ g by have := HF3.out; omega) (.int .i64 M3.st) (.slice An3 M3.ns.length cn3) (.slice As3 M3.said.length cs3) (.slice Ad3 M3.dc.length cd3), put_both H4.out.err (show w.heap.size + 1 ≠ g + 1 by have := HF3.out; omega) (.int .i64 M3.st) (.slice An3 M3.ns.length cn3) (.slice As3 M3.said.length cs3) (.slice Ad3 M3.dc.length cd3)⟩) (fun hHeld => ?_)
        clear hK K g0 g1 g2 g3 g4 g5 g6 g7 q0 q1 q2 q3 q4 q5
        try simp only [Act.put, List.getElem_toArray, List.getElem_cons_zero, List.getElem_cons_succ, List.setIfInBounds_toArray, List.set_cons_zero, List.set_cons_succ]
        obtain ⟨⟨q0, q1, q2⟩, q3, q4, q5⟩ := E_cells (x := (0, 0)) (put_both (H4.out.mid.res2) (show w.heap.size + 1 ≠ w.heap.size + 2 by omega) (.int .i64 M3.st) (.slice An3 M3.ns.length cn3) (.slice As3 M3.said.length cs3) (.slice Ad3 M3.dc.length cd3))
        refine wpAnyH_ready (rs := [3]) (by kernel_rfl) (by simp) ?_
        refine AllReadyH.cons rfl (fun K hK => ?_) AllReadyH.nil
        go_simp
        refine hK.out _ _ (⟨put_back (put_both H4.out.out (show w.heap.size + 1 ≠ g by have := HF3.out; omega) (.int .i64 M3.st) (.slice An3 M3.ns.length cn3) (.slice As3 M3.said.length cs3) (.slice Ad3 M3.dc.length cd3)) (show g ≠ w.heap.size + 2 by have := HF3.out; omega) (.bool bad3) (.slice none 0 0) (.int .i64 code3), put_back (put_both H4.out.err (show w.heap.size + 1 ≠ g + 1 by have := HF3.out; omega) (.int .i64 M3.st) (.slice An3 M3.ns.length cn3) (.slice As3 M3.said.length cs3) (.slice Ad3 M3.dc.length cd3)) (show g + 1 ≠ w.heap.size + 2 by have := HF3.out; omega) (.bool bad3) (.slice none 0 0) (.int .i64 code3)⟩) (fun hHeld => ?_)
        clear hK K
        try simp only [Act.put, List.getElem_toArray, List.getElem_cons_zero, List.getElem_cons_succ, List.setIfInBounds_toArray, List.set_cons_zero, List.set_cons_succ]
        refine wpAnyH_done (by kernel_rfl) ?_ _
        refine NoPanic.normal ?_
        go_wp2
        (try simp only [Exit.inBlock, Exit.then])
        obtain ⟨⟨y0, y1, y2, y3⟩, _⟩ := M_cells (put_back (M_put (H4.out.mid.res) (.int .i64 M3.st) (.slice An3 M3.ns.length cn3) (.slice As3 M3.said.length cs3) (.slice Ad3 M3.dc.length cd3)) (show w.heap.size + 1 ≠ w.heap.size + 2 by omega) (.bool bad3) (.slice none 0 0) (.int .i64 code3))
        obtain ⟨⟨x0, x1, x2⟩, _⟩ := E_cells (x := (0, 0)) (E_put (put_both (H4.out.mid.res2) (show w.heap.size + 1 ≠ w.heap.size + 2 by omega) (.int .i64 M3.st) (.slice An3 M3.ns.length cn3) (.slice As3 M3.said.length cs3) (.slice Ad3 M3.dc.length cd3)) (.bool bad3) (.slice none 0 0) (.int .i64 code3))
        refine bodyPost_ret (v := .tuple #[.agg #[.int .i64 M3.st, .slice An3 M3.ns.length cn3, .slice As3 M3.said.length cs3, .slice Ad3 M3.dc.length cd3], .agg #[.bool bad3, .slice none 0 0, .int .i64 code3]]) (by simp [results, Tryd.results21, go_sem, y0, y1, y2, y3, x0, x1, x2]) rfl ?_
        have hrow := ((H4.out.rows.put4 H4.out.mid.res (by decide) (.int .i64 M3.st) (.slice An3 M3.ns.length cn3) (.slice As3 M3.said.length cs3) (.slice Ad3 M3.dc.length cd3)).put3 (put_both H4.out.mid.res2 (show w.heap.size + 1 ≠ w.heap.size + 2 by omega) (.int .i64 M3.st) (.slice An3 M3.ns.length cn3) (.slice As3 M3.said.length cs3) (.slice Ad3 M3.dc.length cd3)) (by decide) (.bool bad3) (.slice none 0 0) (.int .i64 code3))
        have hbel := (below_put3 (below_put4 H4.out.mid.below (show w.heap.size ≤ w.heap.size + 1 by omega) (.int .i64 M3.st) (.slice An3 M3.ns.length cn3) (.slice As3 M3.said.length cs3) (.slice Ad3 M3.dc.length cd3)) (show w.heap.size ≤ w.heap.size + 2 by omega) (.bool bad3) (.slice none 0 0) (.int .i64 code3))
        exact PostR.fin_ HE3.out hrow hbel
set_option maxRecDepth 100000 in
set_option maxHeartbeats 4000000 in
theorem refDone_goes2 {w : World} {base cn cs cd : Nat} {ok : Nat → Prop} {ns said dc : List Int} {An As Ad : Option Addr} (h : RdAt w base ok (⟨2, ns, said, dc⟩ : RD) An cn As cs Ad cd) (hF : MFine (⟨2, ns, said, dc⟩ : RD)) (hok : ∀ k, w.heap.size ≤ k → ok k) (hb : base ≤ w.heap.size) (node : Int) :
    Calls Tryd.prog 22 #[.agg #[.int .i64 2, .slice An ns.length cn, .slice As said.length cs, .slice Ad dc.length cd], .int .i64 dc.length, .int .i64 node] w (PostR w base ok (RD.doneM ⟨2, ns, said, dc⟩ dc.length node)) := by
  obtain ⟨P, hP⟩ : ∃ P, P = (RD.doneM ⟨2, ns, said, dc⟩ dc.length node) := ⟨_, rfl⟩
  rw [← hP]
  have HP := Lib.hid hP
  have H := Lib.hid h
  have HF := Lib.hid hF
  have HOK := Lib.hid hok
  have HBS := Lib.hid hb
  obtain ⟨code, hcode⟩ : ∃ code, code = ((⟨2, ns, said, dc⟩ : RD).sayM node).1 := ⟨_, rfl⟩
  obtain ⟨M1, hM1⟩ : ∃ M1, M1 = ((⟨2, ns, said, dc⟩ : RD).sayM node).2 := ⟨_, rfl⟩
  have HC1 := Lib.hid hcode
  have HM1 := Lib.hid hM1
  have hbx : ((dc.length : Int) != (dc.length : Int)) = false := by simp
  have HMS := Aside0.mk ((MidE.start w (.int .i64 2) (.slice An ns.length cn) (.slice As said.length cs) (.slice Ad dc.length cd)).alloc (.cells #[.int .i64 2, .slice An ns.length cn, .slice As said.length cs, .slice Ad dc.length cd] 28))
  clear h hF hok hb hP hcode hM1
  go_enter Tryd.func22, Tryd.ntmps22
  go_upto_region 3 with (go_at_call 25; refine (refChange_calls _ _ _ _ _ _ _).mono ?_; rintro e w1 ⟨rfl, rfl⟩)
  obtain ⟨w0, hw0⟩ : ∃ w0, w0 = (midW w (.int .i64 2) (.slice An ns.length cn) (.slice As said.length cs) (.slice Ad dc.length cd)).alloc (.cells #[.int .i64 2, .slice An ns.length cn, .slice As said.length cs, .slice Ad dc.length cd] 28) := ⟨_, rfl⟩
  rw [← hw0] at HMS
  have hw1 : w0 = (((w.alloc (.cells #[.int .i64 2, .slice An ns.length cn, .slice As said.length cs, .slice Ad dc.length cd] 28)).alloc (.cells #[.int .i64 0, .slice none 0 0, .slice none 0 0, .slice none 0 0] 28)).alloc (.cells #[.bool false, .slice none 0 0, .int .i64 0] 38)).alloc (.cells #[.int .i64 2, .slice An ns.length cn, .slice As said.length cs, .slice Ad dc.length cd] 28) := hw0
  rw [← hw1]
  clear hw0 hw1
  obtain ⟨⟨d0, d1, d2, d3⟩, _⟩ := M_cells HMS.out.box
  go_cut [8, 9] (fun s8 s9 wx => ∃ g An1 cn1 As1 cs1 Ad1 cd1, s8 = .pointer (some ⟨g, 0, none⟩) ∧ s9 = .pointer (some ⟨g + 1, 0, none⟩) ∧ Aside0 (MidR w wx base ok (.int .i64 2) (.slice An ns.length cn) (.slice As said.length cs) (.slice Ad dc.length cd) g M1 An1 cn1 As1 cs1 Ad1 cd1 (!(code == 0)) code))
  case first =>
    go_wp2_with (go_at_call 35; refine (refSay_calls (H.out.below HMS.out.below) HF.out (fun k hk => HOK.out k (Nat.le_trans HMS.out.below.size hk)) (Nat.le_trans HBS.out HMS.out.below.size) node).mono ?_; rintro e w1 ⟨An1, cn1, As1, cs1, Ad1, cd1, rfl, hr, hbb⟩; rw [← HM1.out, ← HC1.out]; rw [← HM1.out] at hr; have HR1 := Aside0.mk hr; have HB1 := Aside0.mk hbb; clear hr hbb)
    go_meet
    case rel =>
      have hm := HMS.out.step HB1.out
      exact ⟨w1.heap.size, An1, cn1, As1, cs1, Ad1, cd1, rfl, rfl, ⟨⟨(hm.alloc _).alloc _, (heap_keep _ _ (by simp only [alloc_size]; omega)).trans (heap_alloc_new _ _), heap_alloc_here _ _ _ (by simp only [alloc_size]), (HR1.out.below (below_alloc (Below.refl _ _) _)).below (below_alloc (Below.refl _ _) _), hm.size⟩⟩⟩
  case rest =>
    obtain ⟨g, An1, cn1, As1, cs1, Ad1, cd1, rfl, rfl, H1⟩ := hcut
    clear HMS d0 d1 d2 d3
    obtain ⟨full, hfull⟩ : ∃ full, full = RD.full (code, M1) := ⟨_, rfl⟩
    have HFU := Lib.hid hfull
    clear hfull
    obtain ⟨wx, rfl⟩ : ∃ wx, wx = wc := ⟨_, rfl⟩
    go_upto_region 4 with (fail)
    go_cut [43] (fun sp wy => sp = .bool full ∧ wy = wx)
    case first =>
      obtain ⟨⟨d0, d1, d2, d3⟩, _⟩ := M_cells H1.out.out
      obtain ⟨⟨e0, e1, e2⟩, _⟩ := E_cells (x := (0, 0)) H1.out.err
      cases hc0 : code == 0 with
      | false =>
        rw [hc0] at e0
        have HV := Lib.hid (show full = false by rw [HFU.out]; unfold RD.full; rw [show ((code, M1) : Int × RD).1 = code from rfl, hc0]; rfl)
        clear hc0
        go_wp2
        go_meet
        case rel => rw [HV.out]; exact ⟨rfl, rfl⟩
      | true =>
        rw [hc0] at e0
        have HV := Lib.hid (show full = ((M1.said.length : Int) == (M1.ns.length : Int)) by
          rw [HFU.out]
          unfold RD.full
          rw [show ((code, M1) : Int × RD).1 = code from rfl, hc0]
          rw [Bool.eq_iff_iff]
          simp
          omega)
        clear hc0
        go_wp2
        go_meet
        case rel => rw [HV.out]; exact ⟨rfl, rfl⟩
    case rest =>
      obtain ⟨rfl, hwc⟩ := hcut
      subst hwc
      go_upto_if 43 with (fail)
      go_cut [] (fun wy => ∃ M3 An3 cn3 As3 cs3 Ad3 cd3 bad3 code3, Aside0 (MidR w wy base ok (.int .i64 2) (.slice An ns.length cn) (.slice As said.length cs) (.slice Ad dc.length cd) g M3 An3 cn3 As3 cs3 Ad3 cd3 bad3 code3) ∧ Hid (P = (code3, M3) ∧ bad3 = (!(code3 == 0))))
      case first =>
        cases full with
        | false =>
          go_wp2
          go_meet
          case rel =>
            refine ⟨M1, An1, cn1, As1, cs1, Ad1, cd1, _, code, H1, ?_, rfl⟩
            rw [HP.out]
            exact doneM_part (by decide) HC1.out HM1.out HFU.out.symm
        | true =>
          have hcz : code = 0 := by have := HFU.out; unfold RD.full at this; simp at this; exact this.1
          subst hcz
          obtain ⟨⟨d0, d1, d2, d3⟩, d4, d5, d6, d7⟩ := M_cells H1.out.out
          obtain ⟨⟨e0, e1, e2⟩, _⟩ := E_cells (x := (0, 0)) H1.out.err
          go_wp2
          go_meet
          case rel =>
            refine ⟨⟨0, [], [], M1.dc⟩, none, 0, none, 0, Ad1, cd1, _, 0, ⟨H1.out.put (M2 := ⟨0, [], [], M1.dc⟩) ⟨Kd.R_nil _ _ _ _ _, Kd.R_nil _ _ _ _ _, H1.out.rows.rd⟩⟩, ?_, rfl⟩
            rw [HP.out]
            exact doneM_full (by decide) HM1.out (by rw [← HC1.out, ← HM1.out]; exact HFU.out.symm)
      case rest =>
        obtain ⟨M3, An3, cn3, As3, cs3, Ad3, cd3, bad3, code3, H3, HE3⟩ := hcut
        have HF3 := Lib.hid H3.out.far
        clear H1
        go_wp2
        refine wp_region_noPanic ?_
        refine wp_region_held_drew (S := fun W => W.heap[g]? = some (.cells #[.int .i64 M3.st, .slice An3 M3.ns.length cn3, .slice As3 M3.said.length cs3, .slice Ad3 M3.dc.length cd3] 28 (0, 0)) ∧ W.heap[g + 1]? = some (.cells #[.bool bad3, .slice none 0 0, .int .i64 code3] 38 (0, 0))) (by kernel_rfl) ⟨H3.out.out, H3.out.err⟩ (fun hHeld => ?_)
        have H4 := Aside0.mk (H3.out.step (Below.refl _ _).drew)
        obtain ⟨wd, hwd⟩ : ∃ wd, wd = wc.drew := ⟨_, rfl⟩
        rw [← hwd] at H4 hHeld ⊢
        clear hwd
        refine wpAnyH_take (i := 0) (v := ?_) rfl (by kernel_rfl) (by kernel_rfl) (by kernel_rfl) (fun _ _ _ h => h) (Or.inl ⟨by rfl, ?_⟩) (by assumption) ?_
        rotate_left 1
        · first | (intro w hSw; obtain ⟨⟨c0, c1, c2, c3⟩, _⟩ := M_cells hSw.1; go_simp; done) | (intro w hSw; obtain ⟨⟨c0, c1, c2, c3⟩, _⟩ := M_cells hSw.1; go_simp; with_reducible rfl)
        try simp only [Act.put, List.getElem_toArray, List.getElem_cons_zero, List.getElem_cons_succ, List.setIfInBounds_toArray, List.set_cons_zero, List.set_cons_succ]
        refine wpAnyH_take (i := 1) (v := ?_) rfl (by kernel_rfl) (by kernel_rfl) (by kernel_rfl) (fun _ _ _ h => h) (Or.inl ⟨by rfl, ?_⟩) (by assumption) ?_
        rotate_left 1
        · first | (intro w hSw; obtain ⟨⟨c0, c1, c2⟩, _⟩ := E_cells (x := (0, 0)) hSw.2; go_simp; done) | (intro w hSw; obtain ⟨⟨c0, c1, c2⟩, _⟩ := E_cells (x := (0, 0)) hSw.2; go_simp; with_reducible rfl)
        try simp only [Act.put, List.getElem_toArray, List.getElem_cons_zero, List.getElem_cons_succ, List.setIfInBounds_toArray, List.set_cons_zero, List.set_cons_succ]
        obtain ⟨⟨g0, g1, g2, g3⟩, g4, g5, g6, g7⟩ := M_cells (H4.out.mid.res)
        obtain ⟨⟨q0, q1, q2⟩, q3, q4, q5⟩ := E_cells (x := (0, 0)) (H4.out.mid.res2)
        refine wpAnyH_ready (rs := [2]) (by kernel_rfl) (by simp) ?_
        refine AllReadyH.cons rfl (fun K hK => ?_) AllReadyH.nil
        go_simp
        refine hK.out _ _ (⟨put_both H4.out.out (show w.heap.size + 1 ≠ g by have := HF3.out; omega) (.int .i64 M3.st) (.slice An3 M3.ns.length cn3) (.slice As3 M3.said.length cs3) (.slice Ad3 M3.dc.length cd3), put_both H4.out.err (show w.heap.size + 1 ≠ g + 1 by have := HF3.out; omega) (.int .i64 M3.st) (.slice An3 M3.ns.length cn3) (.slice As3 M3.said.length cs3) (.slice Ad3 M3.dc.length cd3)⟩) (fun hHeld => ?_)
        clear hK K g0 g1 g2 g3 g4 g5 g6 g7 q0 q1 q2 q3 q4 q5
        try simp only [Act.put, List.getElem_toArray, List.getElem_cons_zero, List.getElem_cons_succ, List.setIfInBounds_toArray, List.set_cons_zero, List.set_cons_succ]
        obtain ⟨⟨q0, q1, q2⟩, q3, q4, q5⟩ := E_cells (x := (0, 0)) (put_both (H4.out.mid.res2) (show w.heap.size + 1 ≠ w.heap.size + 2 by omega) (.int .i64 M3.st) (.slice An3 M3.ns.length cn3) (.slice As3 M3.said.length cs3) (.slice Ad3 M3.dc.length cd3))
        refine wpAnyH_ready (rs := [3]) (by kernel_rfl) (by simp) ?_
        refine AllReadyH.cons rfl (fun K hK => ?_) AllReadyH.nil
        go_simp
        refine hK.out _ _ (⟨put_back (put_both H4.out.out (show w.heap.size + 1 ≠ g by have := HF3.out; omega) (.int .i64 M3.st) (.slice An3 M3.ns.length cn3) (.slice As3 M3.said.length cs3) (.slice Ad3 M3.dc.length cd3)) (show g ≠ w.heap.size + 2 by have := HF3.out; omega) (.bool bad3) (.slice none 0 0) (.int .i64 code3), put_back (put_both H4.out.err (show w.heap.size + 1 ≠ g + 1 by have := HF3.out; omega) (.int .i64 M3.st) (.slice An3 M3.ns.length cn3) (.slice As3 M3.said.length cs3) (.slice Ad3 M3.dc.length cd3)) (show g + 1 ≠ w.heap.size + 2 by have := HF3.out; omega) (.bool bad3) (.slice none 0 0) (.int .i64 code3)⟩) (fun hHeld => ?_)
        clear hK K
        try simp only [Act.put, List.getElem_toArray, List.getElem_cons_zero, List.getElem_cons_succ, List.setIfInBounds_toArray, List.set_cons_zero, List.set_cons_succ]
        refine wpAnyH_done (by kernel_rfl) ?_ _
        refine NoPanic.normal ?_
        go_wp2
        (try simp only [Exit.inBlock, Exit.then])
        obtain ⟨⟨y0, y1, y2, y3⟩, _⟩ := M_cells (put_back (M_put (H4.out.mid.res) (.int .i64 M3.st) (.slice An3 M3.ns.length cn3) (.slice As3 M3.said.length cs3) (.slice Ad3 M3.dc.length cd3)) (show w.heap.size + 1 ≠ w.heap.size + 2 by omega) (.bool bad3) (.slice none 0 0) (.int .i64 code3))
        obtain ⟨⟨x0, x1, x2⟩, _⟩ := E_cells (x := (0, 0)) (E_put (put_both (H4.out.mid.res2) (show w.heap.size + 1 ≠ w.heap.size + 2 by omega) (.int .i64 M3.st) (.slice An3 M3.ns.length cn3) (.slice As3 M3.said.length cs3) (.slice Ad3 M3.dc.length cd3)) (.bool bad3) (.slice none 0 0) (.int .i64 code3))
        refine bodyPost_ret (v := .tuple #[.agg #[.int .i64 M3.st, .slice An3 M3.ns.length cn3, .slice As3 M3.said.length cs3, .slice Ad3 M3.dc.length cd3], .agg #[.bool bad3, .slice none 0 0, .int .i64 code3]]) (by simp [results, Tryd.results22, go_sem, y0, y1, y2, y3, x0, x1, x2]) rfl ?_
        have hrow := ((H4.out.rows.put4 H4.out.mid.res (by decide) (.int .i64 M3.st) (.slice An3 M3.ns.length cn3) (.slice As3 M3.said.length cs3) (.slice Ad3 M3.dc.length cd3)).put3 (put_both H4.out.mid.res2 (show w.heap.size + 1 ≠ w.heap.size + 2 by omega) (.int .i64 M3.st) (.slice An3 M3.ns.length cn3) (.slice As3 M3.said.length cs3) (.slice Ad3 M3.dc.length cd3)) (by decide) (.bool bad3) (.slice none 0 0) (.int .i64 code3))
        have hbel := (below_put3 (below_put4 H4.out.mid.below (show w.heap.size ≤ w.heap.size + 1 by omega) (.int .i64 M3.st) (.slice An3 M3.ns.length cn3) (.slice As3 M3.said.length cs3) (.slice Ad3 M3.dc.length cd3)) (show w.heap.size ≤ w.heap.size + 2 by omega) (.bool bad3) (.slice none 0 0) (.int .i64 code3))
        exact PostR.fin_ HE3.out hrow hbel
set_option maxRecDepth 100000 in
set_option maxHeartbeats 4000000 in
theorem refDone_goes3 {w : World} {base cn cs cd : Nat} {ok : Nat → Prop} {ns said dc : List Int} {An As Ad : Option Addr} (h : RdAt w base ok (⟨3, ns, said, dc⟩ : RD) An cn As cs Ad cd) (hF : MFine (⟨3, ns, said, dc⟩ : RD)) (hok : ∀ k, w.heap.size ≤ k → ok k) (hb : base ≤ w.heap.size) (node : Int) :
    Calls Tryd.prog 22 #[.agg #[.int .i64 3, .slice An ns.length cn, .slice As said.length cs, .slice Ad dc.length cd], .int .i64 dc.length, .int .i64 node] w (PostR w base ok (RD.doneM ⟨3, ns, said, dc⟩ dc.length node)) := by
  obtain ⟨P, hP⟩ : ∃ P, P = (RD.doneM ⟨3, ns, said, dc⟩ dc.length node) := ⟨_, rfl⟩
  rw [← hP]
  have HP := Lib.hid hP
  have H := Lib.hid h
  have HF := Lib.hid hF
  have HOK := Lib.hid hok
  have HBS := Lib.hid hb
  obtain ⟨code, hcode⟩ : ∃ code, code = ((⟨3, ns, said, dc⟩ : RD).sayM node).1 := ⟨_, rfl⟩
  obtain ⟨M1, hM1⟩ : ∃ M1, M1 = ((⟨3, ns, said, dc⟩ : RD).sayM node).2 := ⟨_, rfl⟩
  have HC1 := Lib.hid hcode
  have HM1 := Lib.hid hM1
  have hbx : ((dc.length : Int) != (dc.length : Int)) = false := by simp
  have HMS := Aside0.mk ((MidE.start w (.int .i64 3) (.slice An ns.length cn) (.slice As said.length cs) (.slice Ad dc.length cd)).alloc (.cells #[.int .i64 3, .slice An ns.length cn, .slice As said.length cs, .slice Ad dc.length cd] 28))
  clear h hF hok hb hP hcode hM1
  go_enter Tryd.func22, Tryd.ntmps22
  go_upto_region 3 with (go_at_call 25; refine (refChange_calls _ _ _ _ _ _ _).mono ?_; rintro e w1 ⟨rfl, rfl⟩)
  obtain ⟨w0, hw0⟩ : ∃ w0, w0 = (midW w (.int .i64 3) (.slice An ns.length cn) (.slice As said.length cs) (.slice Ad dc.length cd)).alloc (.cells #[.int .i64 3, .slice An ns.length cn, .slice As said.length cs, .slice Ad dc.length cd] 28) := ⟨_, rfl⟩
  rw [← hw0] at HMS
  have hw1 : w0 = (((w.alloc (.cells #[.int .i64 3, .slice An ns.length cn, .slice As said.length cs, .slice Ad dc.length cd] 28)).alloc (.cells #[.int .i64 0, .slice none 0 0, .slice none 0 0, .slice none 0 0] 28)).alloc (.cells #[.bool false, .slice none 0 0, .int .i64 0] 38)).alloc (.cells #[.int .i64 3, .slice An ns.length cn, .slice As said.length cs, .slice Ad dc.length cd] 28) := hw0
  rw [← hw1]
  clear hw0 hw1
  obtain ⟨⟨d0, d1, d2, d3⟩, _⟩ := M_cells HMS.out.box
  go_cut [8, 9] (fun s8 s9 wx => ∃ g An1 cn1 As1 cs1 Ad1 cd1, s8 = .pointer (some ⟨g, 0, none⟩) ∧ s9 = .pointer (some ⟨g + 1, 0, none⟩) ∧ Aside0 (MidR w wx base ok (.int .i64 3) (.slice An ns.length cn) (.slice As said.length cs) (.slice Ad dc.length cd) g M1 An1 cn1 As1 cs1 Ad1 cd1 (!(code == 0)) code))
  case first =>
    go_wp2_with (go_at_call 35; refine (refSay_calls (H.out.below HMS.out.below) HF.out (fun k hk => HOK.out k (Nat.le_trans HMS.out.below.size hk)) (Nat.le_trans HBS.out HMS.out.below.size) node).mono ?_; rintro e w1 ⟨An1, cn1, As1, cs1, Ad1, cd1, rfl, hr, hbb⟩; rw [← HM1.out, ← HC1.out]; rw [← HM1.out] at hr; have HR1 := Aside0.mk hr; have HB1 := Aside0.mk hbb; clear hr hbb)
    go_meet
    case rel =>
      have hm := HMS.out.step HB1.out
      exact ⟨w1.heap.size, An1, cn1, As1, cs1, Ad1, cd1, rfl, rfl, ⟨⟨(hm.alloc _).alloc _, (heap_keep _ _ (by simp only [alloc_size]; omega)).trans (heap_alloc_new _ _), heap_alloc_here _ _ _ (by simp only [alloc_size]), (HR1.out.below (below_alloc (Below.refl _ _) _)).below (below_alloc (Below.refl _ _) _), hm.size⟩⟩⟩
  case rest =>
    obtain ⟨g, An1, cn1, As1, cs1, Ad1, cd1, rfl, rfl, H1⟩ := hcut
    clear HMS d0 d1 d2 d3
    obtain ⟨full, hfull⟩ : ∃ full, full = RD.full (code, M1) := ⟨_, rfl⟩
    have HFU := Lib.hid hfull
    clear hfull
    obtain ⟨wx, rfl⟩ : ∃ wx, wx = wc := ⟨_, rfl⟩
    go_upto_region 4 with (fail)
    go_cut [43] (fun sp wy => sp = .bool full ∧ wy = wx)
    case first =>
      obtain ⟨⟨d0, d1, d2, d3⟩, _⟩ := M_cells H1.out.out
      obtain ⟨⟨e0, e1, e2⟩, _⟩ := E_cells (x := (0, 0)) H1.out.err
      cases hc0 : code == 0 with
      | false =>
        rw [hc0] at e0
        have HV := Lib.hid (show full = false by rw [HFU.out]; unfold RD.full; rw [show ((code, M1) : Int × RD).1 = code from rfl, hc0]; rfl)
        clear hc0
        go_wp2
        go_meet
        case rel => rw [HV.out]; exact ⟨rfl, rfl⟩
      | true =>
        rw [hc0] at e0
        have HV := Lib.hid (show full = ((M1.said.length : Int) == (M1.ns.length : Int)) by
          rw [HFU.out]
          unfold RD.full
          rw [show ((code, M1) : Int × RD).1 = code from rfl, hc0]
          rw [Bool.eq_iff_iff]
          simp
          omega)
        clear hc0
        go_wp2
        go_meet
        case rel => rw [HV.out]; exact ⟨rfl, rfl⟩
    case rest =>
      obtain ⟨rfl, hwc⟩ := hcut
      subst hwc
      go_upto_if 43 with (fail)
      go_cut [] (fun wy => ∃ M3 An3 cn3 As3 cs3 Ad3 cd3 bad3 code3, Aside0 (MidR w wy base ok (.int .i64 3) (.slice An ns.length cn) (.slice As said.length cs) (.slice Ad dc.length cd) g M3 An3 cn3 As3 cs3 Ad3 cd3 bad3 code3) ∧ Hid (P = (code3, M3) ∧ bad3 = (!(code3 == 0))))
      case first =>
        cases full with
        | false =>
          go_wp2
          go_meet
          case rel =>
            refine ⟨M1, An1, cn1, As1, cs1, Ad1, cd1, _, code, H1, ?_, rfl⟩
            rw [HP.out]
            exact doneM_part (by decide) HC1.out HM1.out HFU.out.symm
        | true =>
          have hcz : code = 0 := by have := HFU.out; unfold RD.full at this; simp at this; exact this.1
          subst hcz
          obtain ⟨⟨d0, d1, d2, d3⟩, d4, d5, d6, d7⟩ := M_cells H1.out.out
          obtain ⟨⟨e0, e1, e2⟩, _⟩ := E_cells (x := (0, 0)) H1.out.err
          go_wp2
          go_meet
          case rel =>
            refine ⟨⟨0, [], [], M1.dc⟩, none, 0, none, 0, Ad1, cd1, _, 0, ⟨H1.out.put (M2 := ⟨0, [], [], M1.dc⟩) ⟨Kd.R_nil _ _ _ _ _, Kd.R_nil _ _ _ _ _, H1.out.rows.rd⟩⟩, ?_, rfl⟩
            rw [HP.out]
            exact doneM_full (by decide) HM1.out (by rw [← HC1.out, ← HM1.out]; exact HFU.out.symm)
      case rest =>
        obtain ⟨M3, An3, cn3, As3, cs3, Ad3, cd3, bad3, code3, H3, HE3⟩ := hcut
        have HF3 := Lib.hid H3.out.far
        clear H1
        go_wp2
        refine wp_region_noPanic ?_
        refine wp_region_held_drew (S := fun W => W.heap[g]? = some (.cells #[.int .i64 M3.st, .slice An3 M3.ns.length cn3, .slice As3 M3.said.length cs3, .slice Ad3 M3.dc.length cd3] 28 (0, 0)) ∧ W.heap[g + 1]? = some (.cells #[.bool bad3, .slice none 0 0, .int .i64 code3] 38 (0, 0))) (by kernel_rfl) ⟨H3.out.out, H3.out.err⟩ (fun hHeld => ?_)
        have H4 := Aside0.mk (H3.out.step (Below.refl _ _).drew)
        obtain ⟨wd, hwd⟩ : ∃ wd, wd = wc.drew := ⟨_, rfl⟩
        rw [← hwd] at H4 hHeld ⊢
        clear hwd
        refine wpAnyH_take (i := 0) (v := ?_) rfl (by kernel_rfl) (by kernel_rfl) (by kernel_rfl) (fun _ _ _ h => h) (Or.inl ⟨by rfl, ?_⟩) (by assumption) ?_
        rotate_left 1
        · first | (intro w hSw; obtain ⟨⟨c0, c1, c2, c3⟩, _⟩ := M_cells hSw.1; go_simp; done) | (intro w hSw; obtain ⟨⟨c0, c1, c2, c3⟩, _⟩ := M_cells hSw.1; go_simp; with_reducible rfl)
        try simp only [Act.put, List.getElem_toArray, List.getElem_cons_zero, List.getElem_cons_succ, List.setIfInBounds_toArray, List.set_cons_zero, List.set_cons_succ]
        refine wpAnyH_take (i := 1) (v := ?_) rfl (by kernel_rfl) (by kernel_rfl) (by kernel_rfl) (fun _ _ _ h => h) (Or.inl ⟨by rfl, ?_⟩) (by assumption) ?_
        rotate_left 1
        · first | (intro w hSw; obtain ⟨⟨c0, c1, c2⟩, _⟩ := E_cells (x := (0, 0)) hSw.2; go_simp; done) | (intro w hSw; obtain ⟨⟨c0, c1, c2⟩, _⟩ := E_cells (x := (0, 0)) hSw.2; go_simp; with_reducible rfl)
        try simp only [Act.put, List.getElem_toArray, List.getElem_cons_zero, List.getElem_cons_succ, List.setIfInBounds_toArray, List.set_cons_zero, List.set_cons_succ]
        obtain ⟨⟨g0, g1, g2, g3⟩, g4, g5, g6, g7⟩ := M_cells (H4.out.mid.res)
        obtain ⟨⟨q0, q1, q2⟩, q3, q4, q5⟩ := E_cells (x := (0, 0)) (H4.out.mid.res2)
        refine wpAnyH_ready (rs := [2]) (by kernel_rfl) (by simp) ?_
        refine AllReadyH.cons rfl (fun K hK => ?_) AllReadyH.nil
        go_simp
        refine hK.out _ _ (⟨put_both H4.out.out (show w.heap.size + 1 ≠ g by have := HF3.out; omega) (.int .i64 M3.st) (.slice An3 M3.ns.length cn3) (.slice As3 M3.said.length cs3) (.slice Ad3 M3.dc.length cd3), put_both H4.out.err (show w.heap.size + 1 ≠ g + 1 by have := HF3.out; omega) (.int .i64 M3.st) (.slice An3 M3.ns.length cn3) (.slice As3 M3.said.length cs3) (.slice Ad3 M3.dc.length cd3)⟩) (fun hHeld => ?_)
        clear hK K g0 g1 g2 g3 g4 g5 g6 g7 q0 q1 q2 q3 q4 q5
        try simp only [Act.put, List.getElem_toArray, List.getElem_cons_zero, List.getElem_cons_succ, List.setIfInBounds_toArray, List.set_cons_zero, List.set_cons_succ]
        obtain ⟨⟨q0, q1, q2⟩, q3, q4, q5⟩ := E_cells (x := (0, 0)) (put_both (H4.out.mid.res2) (show w.heap.size + 1 ≠ w.heap.size + 2 by omega) (.int .i64 M3.st) (.slice An3 M3.ns.length cn3) (.slice As3 M3.said.length cs3) (.slice Ad3 M3.dc.length cd3))
        refine wpAnyH_ready (rs := [3]) (by kernel_rfl) (by simp) ?_
        refine AllReadyH.cons rfl (fun K hK => ?_) AllReadyH.nil
        go_simp
        refine hK.out _ _ (⟨put_back (put_both H4.out.out (show w.heap.size + 1 ≠ g by have := HF3.out; omega) (.int .i64 M3.st) (.slice An3 M3.ns.length cn3) (.slice As3 M3.said.length cs3) (.slice Ad3 M3.dc.length cd3)) (show g ≠ w.heap.size + 2 by have := HF3.out; omega) (.bool bad3) (.slice none 0 0) (.int .i64 code3), put_back (put_both H4.out.err (show w.heap.size + 1 ≠ g + 1 by have := HF3.out; omega) (.int .i64 M3.st) (.slice An3 M3.ns.length cn3) (.slice As3 M3.said.length cs3) (.slice Ad3 M3.dc.length cd3)) (show g + 1 ≠ w.heap.size + 2 by have := HF3.out; omega) (.bool bad3) (.slice none 0 0) (.int .i64 code3)⟩) (fun hHeld => ?_)
        clear hK K
        try simp only [Act.put, List.getElem_toArray, List.getElem_cons_zero, List.getElem_cons_succ, List.setIfInBounds_toArray, List.set_cons_zero, List.set_cons_succ]
        refine wpAnyH_done (by kernel_rfl) ?_ _
        refine NoPanic.normal ?_
        go_wp2
        (try simp only [Exit.inBlock, Exit.then])
        obtain ⟨⟨y0, y1, y2, y3⟩, _⟩ := M_cells (put_back (M_put (H4.out.mid.res) (.int .i64 M3.st) (.slice An3 M3.ns.length cn3) (.slice As3 M3.said.length cs3) (.slice Ad3 M3.dc.length cd3)) (show w.heap.size + 1 ≠ w.heap.size + 2 by omega) (.bool bad3) (.slice none 0 0) (.int .i64 code3))
        obtain ⟨⟨x0, x1, x2⟩, _⟩ := E_cells (x := (0, 0)) (E_put (put_both (H4.out.mid.res2) (show w.heap.size + 1 ≠ w.heap.size + 2 by omega) (.int .i64 M3.st) (.slice An3 M3.ns.length cn3) (.slice As3 M3.said.length cs3) (.slice Ad3 M3.dc.length cd3)) (.bool bad3) (.slice none 0 0) (.int .i64 code3))
        refine bodyPost_ret (v := .tuple #[.agg #[.int .i64 M3.st, .slice An3 M3.ns.length cn3, .slice As3 M3.said.length cs3, .slice Ad3 M3.dc.length cd3], .agg #[.bool bad3, .slice none 0 0, .int .i64 code3]]) (by simp [results, Tryd.results22, go_sem, y0, y1, y2, y3, x0, x1, x2]) rfl ?_
        have hrow := ((H4.out.rows.put4 H4.out.mid.res (by decide) (.int .i64 M3.st) (.slice An3 M3.ns.length cn3) (.slice As3 M3.said.length cs3) (.slice Ad3 M3.dc.length cd3)).put3 (put_both H4.out.mid.res2 (show w.heap.size + 1 ≠ w.heap.size + 2 by omega) (.int .i64 M3.st) (.slice An3 M3.ns.length cn3) (.slice As3 M3.said.length cs3) (.slice Ad3 M3.dc.length cd3)) (by decide) (.bool bad3) (.slice none 0 0) (.int .i64 code3))
        have hbel := (below_put3 (below_put4 H4.out.mid.below (show w.heap.size ≤ w.heap.size + 1 by omega) (.int .i64 M3.st) (.slice An3 M3.ns.length cn3) (.slice As3 M3.said.length cs3) (.slice Ad3 M3.dc.length cd3)) (show w.heap.size ≤ w.heap.size + 2 by omega) (.bool bad3) (.slice none 0 0) (.int .i64 code3))
        exact PostR.fin_ HE3.out hrow hbel
end Go.Proofs.YtmhfigkdeeldnaaDoor
