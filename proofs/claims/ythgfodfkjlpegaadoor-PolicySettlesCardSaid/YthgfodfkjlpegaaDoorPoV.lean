/- The reference's Choose and Settle. -/
import Derived.Test.YthgfodfkjlpegaaDoorPoU
import Derived.Test.YthgfodfkjlpegaaDoorPoX
import Derived.Test.YthgfodfkjlpegaaDoorPoY
import Derived.BigRegion
import Derived.Deep.RegionHeld3
import Derived.Deep.RegionWith
namespace Go.Proofs.YthgfodfkjlpegaaDoor
open Go.RowKit Go.Proofs.YthgfodfkjlpegaaDoorW.PrintWords Go.Proofs.YthgfodfkjlpegaaDoorW.PrintLast Go.Proofs.YthgfodfkjlpegaaDoorW.PrintMore
set_option linter.unusedVariables false
set_option linter.unusedSimpArgs false
theorem Ld_old_set {e base g j : Nat} {ok : Nat → Prop} {w : World} {v : Value} {xs : List Ld} (h : kLd.R e w base ok v xs) (hg : g < base) (u : Value) : kLd.R e (w.setCell ⟨g, j, none⟩ u) base ok v xs :=
  Kd.R_mono (Kd.R_move (Kd.R_bound h) (fun k hk => Below.heap_setCell _ _ _ _ (by have := hk.2.1; show k ≠ g; omega))) (fun _ hk => hk.1)
theorem Ld_old_put {e base g : Nat} {ok : Nat → Prop} {w : World} {v : Value} {xs : List Ld} (h : kLd.R e w base ok v xs) (hg : g < base) (a b c : Value) : kLd.R e (((w.setCell ⟨g, 0, none⟩ a).setCell ⟨g, 1, none⟩ b).setCell ⟨g, 2, none⟩ c) base ok v xs := Ld_old_set (Ld_old_set (Ld_old_set h hg _) hg _) hg _
theorem put_far {W : World} {g h : Nat} {o : Obj} (h1 : W.heap[h]? = some o) (hgh : h ≠ g) (x y z : Value) : (((W.setCell ⟨g, 0, none⟩ x).setCell ⟨g, 1, none⟩ y).setCell ⟨g, 2, none⟩ z).heap[h]? = some o := by
  rw [Below.heap_setCell _ _ _ _ hgh, Below.heap_setCell _ _ _ _ hgh, Below.heap_setCell _ _ _ _ hgh]
  exact h1
set_option maxRecDepth 100000 in
set_option maxHeartbeats 2000000 in
theorem rchoose_calls (w : World) (A B : Option Addr) (c d : Nat) (nodes : List Int) (l : List Ld) (hr : (Kd.int .i64).C w A nodes.length nodes) (hl : kLd.C w B l.length l) (hcap : l.length ≤ d) (hN : nodes.length ≤ 1000) :
    Calls Tryd.prog 8 #[.slice A nodes.length c, .slice B l.length d] w fun e w' => ∃ v, e = .returned (.tuple #[.int .i64 (chooseOf nodes l).1, .int .i64 (chooseOf nodes l).2.1, v]) ∧ IsE w' (chooseOf nodes l).2.2 v ∧ Below w.heap.size w w' := by
  have HR := Lib.hid hr
  have HL := Lib.hid hl
  have HCAP := Lib.hid hcap
  have HN := Lib.hid hN
  obtain ⟨er, her⟩ : ∃ er, er = chk nodes l := ⟨_, rfl⟩
  have HER := Lib.hid her
  clear hr hl hcap hN her
  go_enter Tryd.func8, Tryd.ntmps8
  go_upto_region 1 with (fail)
  go_cut [7] (fun s7 wx => ∃ q A1 n1 c1 cd1, s7 = .pointer (some ⟨q, 0, none⟩) ∧ Aside0 (Below w.heap.size w wx ∧ w.heap.size < q ∧ IsE wx er (.agg #[.bool er.bad, .slice A1 n1 c1, .int .i64 cd1]) ∧ wx.heap[w.heap.size]? = some (.cells #[.bool false, .slice none 0 0, .int .i64 0] 34 (0, 0)) ∧ wx.heap[q]? = some (.cells #[.bool er.bad, .slice A1 n1 c1, .int .i64 cd1] 34 (0, 0))))
  case first =>
    go_wp2_with (go_at_call 11; refine (checkRef_calls _ _ _ _ _ nodes l (Kd.C_alloc HR.out _) (kLd.C_below HL.out (below_alloc (Below.refl _ _) _)) HCAP.out).mono ?_; rintro e w1 ⟨v, rfl, hv, hb⟩; rw [← HER.out] at hv; obtain ⟨A1, n1, c1, cd1, rfl⟩ := hv.open_; have HV := Aside0.mk hv; have HB := Aside0.mk hb; clear hv hb)
    go_meet
    have hb := below_first HB.out
    refine ⟨_, A1, n1, c1, cd1, rfl, ⟨below_alloc hb _, ?_, HV.out.below (below_alloc (Below.refl _ _) _), ?_, heap_alloc_new _ _⟩⟩
    · have := HB.out.size; rw [alloc_size] at this; omega
    · rw [heap_alloc_old _ _ _ (by have := HB.out.size; rw [alloc_size] at this; omega)]
      exact (HB.out.block _ (by rw [alloc_size]; exact Nat.lt_succ_self _)).trans (heap_alloc_new w _)
  case rest =>
    rename World => wx
    obtain ⟨q, A1, n1, c1, cd1, rfl, hh⟩ := hcut
    obtain ⟨hb, hq, hE, hz0, hzq⟩ := hh.out
    have hne : q ≠ w.heap.size := by omega
    have HQ := Lib.hid hq
    clear hh hq
    cases hbd : er.bad with
    | true =>
      have HCO := Lib.hid (show chooseOf nodes l = (0, 0, er) by rw [HER.out]; exact chooseOf_bad (by rw [← HER.out]; intro e; rw [e] at hbd; cases hbd))
      rw [hbd] at hE hzq
      obtain ⟨⟨z0, z1, z2⟩, z3, z4, z5⟩ := E_cells (x := (0, 0)) hz0
      obtain ⟨⟨q0, q1, q2⟩, _, _, _⟩ := E_cells (x := (0, 0)) hzq
      obtain ⟨⟨y0, y1, y2⟩, _⟩ := E_cells (x := (0, 0)) (E_put hz0 (.bool true) (.slice A1 n1 c1) (.int .i64 cd1))
      have Y0 := Aside0.mk y0
      have Y1 := Aside0.mk y1
      have Y2 := Aside0.mk y2
      have hb := Aside0.mk hb
      have hE := Aside0.mk hE
      have hz0 := Aside0.mk hz0
      clear hzq y0 y1 y2 hbd
      go_wp2
      go_region
      all_goals
        go_wp2
        (try simp only [Exit.inBlock, Exit.then])
        have y0 := Y0.out
        have y1 := Y1.out
        have y2 := Y2.out
        refine bodyPost_ret (v := .tuple #[.int .i64 0, .int .i64 0, .agg #[.bool true, .slice A1 n1 c1, .int .i64 cd1]]) (by simp [results, Tryd.results8, go_sem, y0, y1, y2]) rfl ?_
        rw [HCO.out]
        exact ⟨_, rfl, (hE.out.put hz0.out true _ _).below (Below.refl _ _).drew, (below_put hb.out (Nat.le_refl _) _ _ _).drew⟩
    | false =>
      obtain rfl := Er.bad_false hbd
      clear hE hbd
      have HG := Lib.hid (chk_good.1 HER.out.symm)
      have HBX := Aside0.mk hb
      have HZ := Aside0.mk hz0
      obtain ⟨⟨q0, q1, q2⟩, _, _, _⟩ := E_cells (x := (0, 0)) hzq
      clear hb hz0 hzq
      by_cases hp : pickI nodes l < 0
      · have HCO := Lib.hid (chooseOf_none HER.out.symm hp)
        obtain ⟨p, hpp⟩ : ∃ p, p = pickI nodes l := ⟨_, rfl⟩
        have HP := Lib.hid hpp
        rw [← hpp] at hp
        clear hpp
        go_wp2_with (first
          | (go_at_call 19; refine (rpick_calls _ _ _ _ _ nodes l (Kd.C_below HR.out HBX.out) (kLd.C_below HL.out HBX.out) HN.out HG.out).mono ?_; rintro e w2 ⟨rfl, hb⟩; have HB2 := Aside0.mk (below_step HBX.out hb); have HZ2 := Aside0.mk ((hb.block _ (blk_lt HZ.out)).trans HZ.out); clear hb; rw [← HP.out])
          | (go_at_call 20; refine (refN_calls _ 10).mono ?_; rintro e w3 ⟨rfl, hw3⟩; have HE3 := Aside0.mk (show w3.heap[w.heap.size]? = some (.cells #[.bool false, .slice none 0 0, .int .i64 0] 34 (0, 0)) by rw [hw3, heap_old _ _ _ (blk_lt HZ2.out)]; exact HZ2.out); have HB3 := Aside0.mk (show Below w.heap.size w w3 by rw [hw3]; exact (HB2.out).alloc (HB2.out).size _); obtain ⟨⟨e0, e1, e2⟩, e3, e4, e5⟩ := E_cells (x := (0, 0)) HE3.out; clear hw3))
        clear e0 e1 e2 e3 e4 e5
        (try simp only [Exit.inBlock, Exit.then])
        obtain ⟨⟨x0, x1, x2⟩, _⟩ := E_cells (x := (0, 0)) (E_put HE3.out (.bool true) (.slice none 0 0) (.int .i64 10))
        refine bodyPost_ret (v := .tuple #[.int .i64 0, .int .i64 0, .agg #[.bool true, .slice none 0 0, .int .i64 10]]) (by simp [results, Tryd.results8, go_sem, x0, x1, x2]) rfl ?_
        rw [HCO.out]
        exact ⟨_, rfl, rfl, below_put HB3.out (Nat.le_refl _) _ _ _⟩
      · have HCO := Lib.hid (chooseOf_some HER.out.symm hp)
        obtain ⟨i, hi⟩ : ∃ i : Nat, pickI nodes l = i := ⟨(pickI nodes l).toNat, by omega⟩
        have hil : i < l.length := by have := (pickI_bound nodes l).2; omega
        have HP := Lib.hid hi.symm
        have i0 : (0 : Int) ≤ i := by omega
        have i1 : (i : Int) < l.length := by omega
        have hp2 : ¬ (i : Int) < 0 := by omega
        have HIL := Lib.hid hil
        obtain ⟨tn, htn⟩ : ∃ tn, tn = loN nodes l := ⟨_, rfl⟩
        have HTN := Lib.hid htn
        obtain ⟨sb, hsb⟩ : ∃ sb, sb = (ldAt l i).sub := ⟨_, rfl⟩
        have HSB := Lib.hid hsb
        obtain ⟨ad, rfl, s0, s1, s2⟩ := Ld_cell HL.out hil
        rw [← hsb] at s0
        have S0 := Lib.hid s0
        have SL := Lib.hid (cell_in s0)
        clear hp hi hil htn hsb s0 s1 s2
        go_wp2_with ((go_at_call 19; refine (rpick_calls _ _ _ _ _ nodes l (Kd.C_below HR.out HBX.out) (kLd.C_below HL.out HBX.out) HN.out HG.out).mono ?_; rintro e w2 ⟨rfl, hb⟩; have HB2 := Aside0.mk (below_step HBX.out hb); have HZ2 := Aside0.mk ((hb.block _ (blk_lt HZ.out)).trans HZ.out); clear hb; rw [← HP.out]; rw [← HTN.out]; have c0 := ((HB2.out.cell SL.out).trans S0.out); obtain ⟨⟨e0, e1, e2⟩, e3, e4, e5⟩ := E_cells (x := (0, 0)) HZ2.out))
        clear e0 e1 e2 e3 e4 e5 c0
        (try simp only [Exit.inBlock, Exit.then])
        obtain ⟨⟨x0, x1, x2⟩, _⟩ := E_cells (x := (0, 0)) (E_put HZ2.out (.bool false) (.slice none 0 0) (.int .i64 0))
        refine bodyPost_ret (v := .tuple #[.int .i64 sb, .int .i64 tn, .agg #[.bool false, .slice none 0 0, .int .i64 0]]) (by simp [results, Tryd.results8, go_sem, x0, x1, x2]) rfl ?_
        rw [HCO.out, ← HP.out, Int.toNat_natCast, ← HSB.out, ← HTN.out]
        exact ⟨_, rfl, rfl, below_put HB2.out (Nat.le_refl _) _ _ _⟩
set_option maxRecDepth 100000 in
set_option maxHeartbeats 2000000 in
theorem rsettle_calls (w : World) (A B : Option Addr) (c d : Nat) (nodes : List Int) (l : List Ld) (most : Int) (hr : (Kd.int .i64).C w A nodes.length nodes) (hl : kLd.C w B l.length l) (hcap : l.length ≤ d) (hN : nodes.length ≤ 1000) :
    Calls Tryd.prog 15 #[.slice A nodes.length c, .slice B l.length d, .int .i64 most] w fun e w' => ∃ u v, e = .returned (.tuple #[u, v]) ∧ IsE w' (settleEr nodes l most) v ∧
      (settleEr nodes l most = .ok → kLd.R 51 w' w.heap.size (fun _ => True) u (settle nodes most.toNat l)) ∧ (settleEr nodes l most ≠ .ok → u = .slice none 0 0) ∧ Below w.heap.size w w' := by
  have HR := Lib.hid hr
  have HL := Lib.hid hl
  have HCAP := Lib.hid hcap
  have HN := Lib.hid hN
  obtain ⟨er, her⟩ : ∃ er, er = chk nodes l := ⟨_, rfl⟩
  have HER := Lib.hid her
  clear hr hl hcap hN her
  go_enter Tryd.func15, Tryd.ntmps15
  go_upto_region 1 with (fail)
  go_cut [8] (fun s7 wx => ∃ q A1 n1 c1 cd1, s7 = .pointer (some ⟨q, 0, none⟩) ∧ Aside0 (Below w.heap.size w wx ∧ w.heap.size < q ∧ IsE wx er (.agg #[.bool er.bad, .slice A1 n1 c1, .int .i64 cd1]) ∧ wx.heap[w.heap.size]? = some (.cells #[.bool false, .slice none 0 0, .int .i64 0] 34 (0, 0)) ∧ wx.heap[q]? = some (.cells #[.bool er.bad, .slice A1 n1 c1, .int .i64 cd1] 34 (0, 0))))
  case first =>
    go_wp2_with (go_at_call 11; refine (checkRef_calls _ _ _ _ _ nodes l (Kd.C_alloc HR.out _) (kLd.C_below HL.out (below_alloc (Below.refl _ _) _)) HCAP.out).mono ?_; rintro e w1 ⟨v, rfl, hv, hb⟩; rw [← HER.out] at hv; obtain ⟨A1, n1, c1, cd1, rfl⟩ := hv.open_; have HV := Aside0.mk hv; have HB := Aside0.mk hb; clear hv hb)
    go_meet
    have hb := below_first HB.out
    refine ⟨_, A1, n1, c1, cd1, rfl, ⟨below_alloc hb _, ?_, HV.out.below (below_alloc (Below.refl _ _) _), ?_, heap_alloc_new _ _⟩⟩
    · have := HB.out.size; rw [alloc_size] at this; omega
    · rw [heap_alloc_old _ _ _ (by have := HB.out.size; rw [alloc_size] at this; omega)]
      exact (HB.out.block _ (by rw [alloc_size]; exact Nat.lt_succ_self _)).trans (heap_alloc_new w _)
  case rest =>
    rename World => wx
    obtain ⟨q, A1, n1, c1, cd1, rfl, hh⟩ := hcut
    obtain ⟨hb, hq, hE, hz0, hzq⟩ := hh.out
    have hne : q ≠ w.heap.size := by omega
    have HQ := Lib.hid hq
    clear hh hq
    cases hbd : er.bad with
    | true =>
      have hno : er ≠ .ok := by intro e; rw [e] at hbd; cases hbd
      have HNO := Lib.hid hno
      have HCO := Lib.hid (show settleEr nodes l most = er by rw [HER.out]; exact settleEr_bad (by rw [← HER.out]; exact hno))
      rw [hbd] at hE hzq
      obtain ⟨⟨z0, z1, z2⟩, z3, z4, z5⟩ := E_cells (x := (0, 0)) hz0
      obtain ⟨⟨q0, q1, q2⟩, _, _, _⟩ := E_cells (x := (0, 0)) hzq
      obtain ⟨⟨y0, y1, y2⟩, _⟩ := E_cells (x := (0, 0)) (E_put hz0 (.bool true) (.slice A1 n1 c1) (.int .i64 cd1))
      have Y0 := Aside0.mk y0
      have Y1 := Aside0.mk y1
      have Y2 := Aside0.mk y2
      have hb := Aside0.mk hb
      have hE := Aside0.mk hE
      have hz0 := Aside0.mk hz0
      clear hzq y0 y1 y2 hbd hno
      go_wp2
      go_region
      all_goals
        go_wp2
        (try simp only [Exit.inBlock, Exit.then])
        have y0 := Y0.out
        have y1 := Y1.out
        have y2 := Y2.out
        refine bodyPost_ret (v := .tuple #[.slice none 0 0, .agg #[.bool true, .slice A1 n1 c1, .int .i64 cd1]]) (by simp [results, Tryd.results15, go_sem, y0, y1, y2]) rfl ?_
        rw [HCO.out]
        exact ⟨_, _, rfl, (hE.out.put hz0.out true _ _).below (Below.refl _ _).drew, fun h => absurd h HNO.out, fun _ => rfl, (below_put hb.out (Nat.le_refl _) _ _ _).drew⟩
    | false =>
      obtain rfl := Er.bad_false hbd
      have HOKE := Lib.hid (show Value.agg #[.bool false, .slice A1 n1 c1, .int .i64 cd1] = .agg #[.bool false, .slice none 0 0, .int .i64 0] from hE)
      clear hE hbd
      have HG := Lib.hid (chk_good.1 HER.out.symm)
      have HBX := Aside0.mk hb
      have HZ := Aside0.mk hz0
      have HZQ := Aside0.mk hzq
      obtain ⟨⟨q0, q1, q2⟩, _, _, _⟩ := E_cells (x := (0, 0)) hzq
      clear hb hz0 hzq
      by_cases e1 : most < 0
      · have e1b : decide (most < 0) = true := by simpa using e1
        have HCO := Lib.hid (settleEr_num HER.out.symm (Or.inl e1))
        clear e1
        go_upto_region 5 with ((go_at_call 20; refine (refN_calls _ 1).mono ?_; rintro e w3 ⟨rfl, hw3⟩; have HE3 := Aside0.mk (show w3.heap[w.heap.size]? = some (.cells #[.bool false, .slice none 0 0, .int .i64 0] 34 (0, 0)) by rw [hw3, heap_old _ _ _ (blk_lt HZ.out)]; exact HZ.out); have HB3 := Aside0.mk (show Below w.heap.size w w3 by rw [hw3]; exact (HBX.out).alloc (HBX.out).size _); have HQ3 := Aside0.mk (show w3.heap[q]? = some (.cells #[.bool false, .slice A1 n1 c1, .int .i64 cd1] 34 (0, 0)) by rw [hw3, heap_old _ _ _ (blk_lt HZQ.out)]; exact HZQ.out); obtain ⟨⟨e0, e1, e2⟩, e3, e4, e5⟩ := E_cells (x := (0, 0)) HQ3.out; clear hw3))
        clear e0 e1 e2 e3 e4 e5 q0 q1 q2
        obtain ⟨w4, hw4⟩ : ∃ w4, w4 = ((w3.setCell ⟨q, 0, none⟩ (.bool true)).setCell ⟨q, 1, none⟩ (.slice none 0 0)).setCell ⟨q, 2, none⟩ (.int .i64 1) := ⟨_, rfl⟩
        rw [← hw4]
        have hq4 : w4.heap[q]? = some (.cells #[.bool true, .slice none 0 0, .int .i64 1] 34 (0, 0)) := by rw [hw4]; exact E_put HQ3.out _ _ _
        have hz4 : w4.heap[w.heap.size]? = some (.cells #[.bool false, .slice none 0 0, .int .i64 0] 34 (0, 0)) := by rw [hw4]; exact put_far HE3.out (by omega) _ _ _
        have HB4 := Aside0.mk (show Below w.heap.size w w4 by rw [hw4]; exact below_put HB3.out (Nat.le_of_lt HQ.out) _ _ _)
        clear hw4
        obtain ⟨⟨q0, q1, q2⟩, _, _, _⟩ := E_cells (x := (0, 0)) hq4
        obtain ⟨⟨z0, z1, z2⟩, z3, z4, z5⟩ := E_cells (x := (0, 0)) hz4
        obtain ⟨⟨y0, y1, y2⟩, _⟩ := E_cells (x := (0, 0)) (E_put hz4 (.bool true) (.slice none 0 0) (.int .i64 1))
        have Y0 := Aside0.mk y0
        have Y1 := Aside0.mk y1
        have Y2 := Aside0.mk y2
        clear hq4 hz4 y0 y1 y2
        go_wp2
        go_region
        all_goals
          go_wp2
          (try simp only [Exit.inBlock, Exit.then])
          have y0 := Y0.out
          have y1 := Y1.out
          have y2 := Y2.out
          refine bodyPost_ret (v := .tuple #[.slice none 0 0, .agg #[.bool true, .slice none 0 0, .int .i64 1]]) (by simp [results, Tryd.results15, go_sem, y0, y1, y2]) rfl ?_
          rw [HCO.out]
          exact ⟨_, _, rfl, rfl, fun h => (by cases h), fun _ => rfl, (below_put HB4.out (Nat.le_refl _) _ _ _).drew⟩
      · have e1b : decide (most < 0) = false := by simpa using e1
        by_cases e2 : most > 10000
        · have e2b : decide (most > 10000) = true := by simpa using e2
          have HCO := Lib.hid (settleEr_num HER.out.symm (Or.inr e2))
          clear e1 e2
          go_upto_region 5 with ((go_at_call 20; refine (refN_calls _ 1).mono ?_; rintro e w3 ⟨rfl, hw3⟩; have HE3 := Aside0.mk (show w3.heap[w.heap.size]? = some (.cells #[.bool false, .slice none 0 0, .int .i64 0] 34 (0, 0)) by rw [hw3, heap_old _ _ _ (blk_lt HZ.out)]; exact HZ.out); have HB3 := Aside0.mk (show Below w.heap.size w w3 by rw [hw3]; exact (HBX.out).alloc (HBX.out).size _); have HQ3 := Aside0.mk (show w3.heap[q]? = some (.cells #[.bool false, .slice A1 n1 c1, .int .i64 cd1] 34 (0, 0)) by rw [hw3, heap_old _ _ _ (blk_lt HZQ.out)]; exact HZQ.out); obtain ⟨⟨e0, e1, e2⟩, e3, e4, e5⟩ := E_cells (x := (0, 0)) HQ3.out; clear hw3))
          clear e0 e1 e2 e3 e4 e5 q0 q1 q2
          obtain ⟨w4, hw4⟩ : ∃ w4, w4 = ((w3.setCell ⟨q, 0, none⟩ (.bool true)).setCell ⟨q, 1, none⟩ (.slice none 0 0)).setCell ⟨q, 2, none⟩ (.int .i64 1) := ⟨_, rfl⟩
          rw [← hw4]
          have hq4 : w4.heap[q]? = some (.cells #[.bool true, .slice none 0 0, .int .i64 1] 34 (0, 0)) := by rw [hw4]; exact E_put HQ3.out _ _ _
          have hz4 : w4.heap[w.heap.size]? = some (.cells #[.bool false, .slice none 0 0, .int .i64 0] 34 (0, 0)) := by rw [hw4]; exact put_far HE3.out (by omega) _ _ _
          have HB4 := Aside0.mk (show Below w.heap.size w w4 by rw [hw4]; exact below_put HB3.out (Nat.le_of_lt HQ.out) _ _ _)
          clear hw4
          obtain ⟨⟨q0, q1, q2⟩, _, _, _⟩ := E_cells (x := (0, 0)) hq4
          obtain ⟨⟨z0, z1, z2⟩, z3, z4, z5⟩ := E_cells (x := (0, 0)) hz4
          obtain ⟨⟨y0, y1, y2⟩, _⟩ := E_cells (x := (0, 0)) (E_put hz4 (.bool true) (.slice none 0 0) (.int .i64 1))
          have Y0 := Aside0.mk y0
          have Y1 := Aside0.mk y1
          have Y2 := Aside0.mk y2
          clear hq4 hz4 y0 y1 y2
          go_wp2
          go_region
          all_goals
            go_wp2
            (try simp only [Exit.inBlock, Exit.then])
            have y0 := Y0.out
            have y1 := Y1.out
            have y2 := Y2.out
            refine bodyPost_ret (v := .tuple #[.slice none 0 0, .agg #[.bool true, .slice none 0 0, .int .i64 1]]) (by simp [results, Tryd.results15, go_sem, y0, y1, y2]) rfl ?_
            rw [HCO.out]
            exact ⟨_, _, rfl, rfl, fun h => (by cases h), fun _ => rfl, (below_put HB4.out (Nat.le_refl _) _ _ _).drew⟩
        · have e2b : decide (most > 10000) = false := by simpa using e2
          have HCO := Lib.hid (settleEr_ok HER.out.symm (show ¬ (most < 0 ∨ 10000 < most) by omega))
          obtain ⟨n, rfl⟩ : ∃ n : Nat, most = n := ⟨most.toNat, by omega⟩
          have hn : (n : Int) ≤ 10000 := by omega
          clear e1 e2
          have HXW := Lib.hid (show w.heap.size < wx.heap.size from blk_lt HZ.out)
          have HXQ := Lib.hid (show q < wx.heap.size from blk_lt HZQ.out)
          go_wp2_with (at_builtin; refine Kd.R_append_rows kLd (w0 := wx) wx.heap.size rfl _ _ _ 51 (.agg #[.int .i64 0, .int .i64 0, .int .i64 0]) 24 rfl Tryd.underlying23 infoRL rfl (by decide) (by omega) (.slice (some ⟨wx.heap.size, 0, none⟩) 0 0) [] l B l.length d (fun _ => True) (fun _ => False) rfl rfl (kLd_empty wx _ (Nat.le_refl _) _) (kLd.C_below HL.out (below_alloc HBX.out _)) (fun x cs h => by rw [kLd_open h]; exact kLd_mkM _ _ _ x) (fun _ hk => hk.elim) (fun _ _ => trivial) (below_alloc (Below.refl _ _) _) (by simp) (by have := HG.out.fine.len; simp; omega) ?_; intro v1 w1 ho hb hg hat; rw [List.nil_append] at ho; obtain ⟨A2, c2, rfl⟩ := Kd.R_slice ho; have HRR := Aside0.mk ho; have HB1 := Aside0.mk hb; clear ho hb hg hat)
          clear q0 q1 q2
          go_loopw [2] (fun v2 wr => ∃ (m : Nat) (lk : List Ld), v2 = .int .i64 m ∧ m ≤ n ∧ lk.length = l.length ∧ Aside0 (kLd.R 51 wr wx.heap.size (fun _ => True) (.slice A2 l.length c2) lk) ∧ Aside0 (Below wx.heap.size wx wr) ∧ Hid (settle nodes n l = settle nodes m lk ∧ Good nodes lk)) (fun v _ => (intOf v).toNat)
          case atStart => exact ⟨n, l, rfl, Nat.le_refl _, rfl, HRR, HB1, rfl, HG.out⟩
          case round =>
            obtain ⟨m, lk, rfl, hm, hlk, HK, HBK, HS⟩ := hrel
            by_cases hlt : 0 < m
            · have hpk := rpick_calls wr A A2 c c2 nodes lk (Kd.C_below HR.out (below_step HBX.out HBK.out)) (by have := (Kd.R_reads' HK.out).2.2; exact this) HN.out HS.out.2
              rw [hlk] at hpk
              have HPK := Lib.hid hpk
              have HLK := Lib.hid hlk
              have HLT := Lib.hid hlt
              have k1 : (m : Int) > 0 := by omega
              have k2 : (m : Int) ≤ 10000 := by omega
              have HM2 := Lib.hid hm
              clear hpk hlk hlt hm
              by_cases hp : pickI nodes lk < 0
              · obtain ⟨p, hpp⟩ : ∃ p, p = pickI nodes lk := ⟨_, rfl⟩
                have HP := Lib.hid hpp
                have HST := Lib.hid (settle_stop hp m)
                rw [← hpp] at hp
                clear hpp
                go_upto_region 12 with (go_at_call 19; refine HPK.out.mono ?_; rintro e w3 ⟨rfl, hb⟩; have HB3 := Aside0.mk (below_step HBK.out hb); have HK3 := Aside0.mk (Kd.R_below HK.out hb); clear hb; rw [← HP.out])
                have hq4 : w3.heap[q]? = some (.cells #[.bool false, .slice A1 n1 c1, .int .i64 cd1] 34 (0, 0)) := (HB3.out.block _ HXQ.out).trans HZQ.out
                have hz4 : w3.heap[w.heap.size]? = some (.cells #[.bool false, .slice none 0 0, .int .i64 0] 34 (0, 0)) := (HB3.out.block _ HXW.out).trans HZ.out
                obtain ⟨⟨q0, q1, q2⟩, _, _, _⟩ := E_cells (x := (0, 0)) hq4
                obtain ⟨⟨z0, z1, z2⟩, z3, z4, z5⟩ := E_cells (x := (0, 0)) hz4
                obtain ⟨⟨y0, y1, y2⟩, _⟩ := E_cells (x := (0, 0)) (E_put hz4 (.bool false) (.slice A1 n1 c1) (.int .i64 cd1))
                have Y0 := Aside0.mk y0
                have Y1 := Aside0.mk y1
                have Y2 := Aside0.mk y2
                clear hq4 hz4 y0 y1 y2
                go_wp2
                go_region
                all_goals
                  go_wp2
                  (try simp only [Exit.inBlock, Exit.then])
                  have y0 := Y0.out
                  have y1 := Y1.out
                  have y2 := Y2.out
                  refine bodyPost_ret (v := .tuple #[.slice A2 l.length c2, .agg #[.bool false, .slice A1 n1 c1, .int .i64 cd1]]) (by simp [results, Tryd.results15, go_sem, y0, y1, y2]) rfl ?_
                  rw [HCO.out]
                  refine ⟨_, _, rfl, HOKE.out, fun _ => ?_, fun h => absurd rfl h, (below_put (below_step HBX.out HB3.out) (Nat.le_refl _) _ _ _).drew⟩
                  rw [Int.toNat_natCast, HS.out.1, HST.out]
                  exact Kd.R_drew (Kd.R_lower (Ld_old_put HK3.out HXW.out _ _ _) (Nat.le_of_lt HXW.out))
              · obtain ⟨p, hpp⟩ : ∃ p : Nat, pickI nodes lk = p := ⟨(pickI nodes lk).toNat, by omega⟩
                have hql : p < lk.length := by have := (pickI_bound nodes lk).2; omega
                have HP := Lib.hid hpp
                obtain ⟨m', rfl⟩ : ∃ m', m = m' + 1 := ⟨m - 1, by have := HLT.out; omega⟩
                have HST := Lib.hid (settle_step hp m')
                have HGM := Lib.hid (HS.out.2.moved (by omega))
                have hp2 : ¬ (p : Int) < 0 := by omega
                have p0 : (0 : Int) ≤ p := by omega
                have p1 : (p : Int) < l.length := by have := HLK.out; omega
                have HQL := Lib.hid hql
                obtain ⟨g, rfl, hg⟩ := own_block HK.out (by omega)
                have HGG := Lib.hid hg
                obtain ⟨tn, hto⟩ : ∃ tn, tn = loN nodes lk := ⟨_, rfl⟩
                have HTO := Lib.hid hto
                clear hp hpp hql hg hto
                go_wp2_with (go_at_call 19; refine HPK.out.mono ?_; rintro e w3 ⟨rfl, hb⟩; have HB3 := Aside0.mk hb; clear hb; rw [HP.out, ← HTO.out]; have HK3 := Aside0.mk (Kd.R_below HK.out HB3.out); obtain ⟨hce1, hce2, hce3⟩ := Ld_elem HK3.out (show p < l.length by omega); have HPUT := Aside0.mk (hce3 tn); clear hce3)
                go_roundw
                case rel =>
                  refine ⟨m', moved nodes lk, by go_num, by have := HM2.out; omega, by rw [moved_len]; exact HLK.out, ⟨?_⟩, ⟨below_set (below_step HBK.out HB3.out) HGG.out⟩, ?_, HGM.out⟩
                  · unfold moved
                    rw [HP.out, ← HTO.out]
                    exact HPUT.out
                  · rw [HS.out.1, HST.out]
                case measure => simp [intOf]
            · have k1 : ¬ (m : Int) > 0 := by omega
              have HH := Lib.hid (show m = 0 by omega)
              have HST := Lib.hid (show settle nodes m lk = lk by rw [HH.out]; rfl)
              have HB3 := HBK
              have HK3 := HK
              clear hlt
              go_upto_region 12 with (fail)
              have hq4 : wr.heap[q]? = some (.cells #[.bool false, .slice A1 n1 c1, .int .i64 cd1] 34 (0, 0)) := (HB3.out.block _ HXQ.out).trans HZQ.out
              have hz4 : wr.heap[w.heap.size]? = some (.cells #[.bool false, .slice none 0 0, .int .i64 0] 34 (0, 0)) := (HB3.out.block _ HXW.out).trans HZ.out
              obtain ⟨⟨q0, q1, q2⟩, _, _, _⟩ := E_cells (x := (0, 0)) hq4
              obtain ⟨⟨z0, z1, z2⟩, z3, z4, z5⟩ := E_cells (x := (0, 0)) hz4
              obtain ⟨⟨y0, y1, y2⟩, _⟩ := E_cells (x := (0, 0)) (E_put hz4 (.bool false) (.slice A1 n1 c1) (.int .i64 cd1))
              have Y0 := Aside0.mk y0
              have Y1 := Aside0.mk y1
              have Y2 := Aside0.mk y2
              clear hq4 hz4 y0 y1 y2
              go_wp2
              go_region
              all_goals
                go_wp2
                (try simp only [Exit.inBlock, Exit.then])
                have y0 := Y0.out
                have y1 := Y1.out
                have y2 := Y2.out
                refine bodyPost_ret (v := .tuple #[.slice A2 l.length c2, .agg #[.bool false, .slice A1 n1 c1, .int .i64 cd1]]) (by simp [results, Tryd.results15, go_sem, y0, y1, y2]) rfl ?_
                rw [HCO.out]
                refine ⟨_, _, rfl, HOKE.out, fun _ => ?_, fun h => absurd rfl h, (below_put (below_step HBX.out HB3.out) (Nat.le_refl _) _ _ _).drew⟩
                rw [Int.toNat_natCast, HS.out.1, HST.out]
                exact Kd.R_drew (Kd.R_lower (Ld_old_put HK3.out HXW.out _ _ _) (Nat.le_of_lt HXW.out))
end Go.Proofs.YthgfodfkjlpegaaDoor
