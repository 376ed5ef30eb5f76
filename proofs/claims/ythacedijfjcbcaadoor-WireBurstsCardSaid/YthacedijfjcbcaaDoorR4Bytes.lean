/- The document's TakeBytes. -/
import Derived.Test.YthacedijfjcbcaaDoorR4Int
import Derived.Test.YthacedijfjcbcaaDoorWRefD
namespace Go.Proofs.YthacedijfjcbcaaDoor
open Go.RowKit Go.Proofs.YthacedijfjcbcaaDoorW.PrintWords Go.Proofs.YthacedijfjcbcaaDoorW.PrintLast Go.Proofs.YthacedijfjcbcaaDoorW.PrintMore
set_option linter.unusedVariables false
set_option linter.unusedSimpArgs false
def RTakeBPost (w : World) (b : List UInt8) (from_ : Int) (e : Ending) (w' : World) : Prop :=
  ∃ p v, e = .returned (.tuple #[p, .int .i64 (takeB b from_).2.1, v]) ∧ kB.R 5 w' w.heap.size (fun _ => True) p (takeB b from_).1 ∧ IsE w' (takeB b from_).2.2 v ∧ Below w.heap.size w w'
set_option maxRecDepth 100000 in
set_option maxHeartbeats 2000000 in
theorem refTakeBytes_calls (w : World) (A : Option Addr) (c : Nat) (b : List UInt8) (from_ : Int) (hx : kB.C w A b.length b) (hc : b.length ≤ c) (hl : b.length ≤ 1099511627776) :
    Calls Tryd.prog 29 #[.slice A b.length c, .int .i64 from_] w (RTakeBPost w b from_) := by
  have HX := Lib.hid hx
  have HL := Lib.hid hl
  obtain ⟨t, ht⟩ : ∃ t, t = takeU b from_ := ⟨_, rfl⟩
  have hbd := takeU_bound b from_
  rw [← ht] at hbd
  obtain ⟨x, n, er⟩ := t
  have HT := Lib.hid ht
  obtain ⟨g1, g2, g3, g4, g5⟩ := hbd
  simp only at g1 g2 g3 g4 g5
  obtain ⟨n, rfl⟩ := Int.eq_ofNat_of_zero_le g2
  have hx1 : (x : Int) ≤ 18446744073709551615 := by omega
  have hx0 : (0 : Int) ≤ x := by omega
  have hl1 : (b.length : Int) ≤ 1099511627776 := by omega
  have HC := Lib.hid hc
  have G3 := Lib.hid g3
  have G5 := Lib.hid g5
  clear g1 g2 g3 g4 g5 hc
  clear hx hl ht
  go_enter Tryd.func29, Tryd.ntmps29
  go_upto_region 1 with (fail)
  go_cut [7, 8, 9] (fun s7 s8 s9 wx => s7 = .int .u64 x ∧ s8 = .int .i64 n ∧ ∃ q A1 n1 c1 cd1, s9 = .pointer (some ⟨q, 0, none⟩) ∧ Aside0 (Below w.heap.size w wx ∧ w.heap.size < q ∧ IsE wx er (.agg #[.bool er.bad, .slice A1 n1 c1, .int .i64 cd1]) ∧ wx.heap[w.heap.size]? = some (.cells #[.bool false, .slice none 0 0, .int .i64 0] 35) ∧ wx.heap[q]? = some (.cells #[.bool er.bad, .slice A1 n1 c1, .int .i64 cd1] 35)))
  case first =>
    go_wp2_with (go_at_call 26; refine (refTakeUint_calls _ _ _ b from_ (Kd.C_alloc HX.out _) HL.out).mono ?_; intro e w1 h1; unfold RTakeUPost at h1; rw [← HT.out] at h1; obtain ⟨v, rfl, hv, hb⟩ := h1; obtain ⟨A1, n1, c1, cd1, rfl⟩ := hv.open_; have HV := Aside0.mk hv; have HB := Aside0.mk hb; clear hv hb)
    go_meet
    have hb := below_first HB.out
    refine ⟨rfl, rfl, _, A1, n1, c1, cd1, rfl, ⟨below_alloc hb _, ?_, HV.out.below (below_alloc (Below.refl _ _) _), ?_, heap_alloc_new _ _⟩⟩
    · have := HB.out.size; rw [alloc_size] at this; omega
    · rw [heap_alloc_old _ _ _ (by have := HB.out.size; rw [alloc_size] at this; omega)]
      exact (HB.out.block _ (by rw [alloc_size]; exact Nat.lt_succ_self _)).trans (heap_alloc_new w _)
  case rest =>
    obtain ⟨rfl, rfl, q, A1, n1, c1, cd1, rfl, hh⟩ := hcut
    obtain ⟨hb, hq, hE, hz0, hzq⟩ := hh.out
    have hne : q ≠ w.heap.size := by omega
    have HQ := Lib.hid hq
    obtain ⟨⟨z0, z1, z2⟩, z3, z4, z5⟩ := E_cells (x := (0, 0)) hz0
    cases hbd : er.bad with
    | true =>
      rw [hbd] at hE hzq
      obtain ⟨⟨q0, q1, q2⟩, _, _, _⟩ := E_cells (x := (0, 0)) hzq
      have HE := Lib.hid (show takeB b from_ = ([], 0, er) by
        unfold takeB; rw [← HT.out]
        cases er with
        | ok => cases hbd
        | num c => rfl
        | at_ kind k c => rfl)
      obtain ⟨⟨y0, y1, y2⟩, _⟩ := E_cells (x := (0, 0)) (E_put hz0 (.bool true) (.slice A1 n1 c1) (.int .i64 cd1))
      have Y0 := Aside0.mk y0
      have Y1 := Aside0.mk y1
      have Y2 := Aside0.mk y2
      have hb := Aside0.mk hb
      have hE := Aside0.mk hE
      have hz0 := Aside0.mk hz0
      clear hh hq hzq y0 y1 y2 hbd
      go_wp2
      go_region
      all_goals
        go_wp2
        (try simp only [Exit.inBlock, Exit.then])
        have y0 := Y0.out
        have y1 := Y1.out
        have y2 := Y2.out
        refine bodyPost_ret (v := .tuple #[.slice none 0 0, .int .i64 0, .agg #[.bool true, .slice A1 n1 c1, .int .i64 cd1]]) (by simp [results, Tryd.results29, go_sem, y0, y1, y2]) rfl ?_
        unfold RTakeBPost
        rw [HE.out]
        exact ⟨_, _, rfl, Kd.R_nil _ _ _ _ _, (hE.out.put hz0.out true _ _).below (Below.refl _ _).drew, (below_put hb.out (Nat.le_refl _) _ _ _).drew⟩
    | false =>
      rw [hbd] at hE hzq
      obtain rfl := Er.bad_false hbd
      cases hE
      have HZQ := Aside0.mk hzq
      have hb := Aside0.mk hb
      have hz0 := Aside0.mk hz0
      obtain ⟨⟨q0, q1, q2⟩, _, _, _⟩ := E_cells (x := (0, 0)) hzq
      clear hh hq hzq hbd
      have g5 := G5.out rfl
      have g3 := G3.out
      by_cases hm : 1048576 < x
      · have hm' : (1048576 : Int) < x := by omega
        have HE := Lib.hid (show takeB b from_ = ([], 0, .at_ 1 from_ 2) by unfold takeB; rw [← HT.out]; simp only []; rw [if_pos hm])
        clear hm g5 g3
        go_wp2_with (go_at_call 41; refine (refat_calls _ _ _).mono ?_; rintro e w2 ⟨v, rfl, hv, hb2⟩; obtain ⟨A2, n2, c2, cd2, rfl⟩ := hv.open_bad rfl; have hz2 := (hb2.block _ (blk_lt hz0.out)).trans hz0.out; obtain ⟨⟨z0, z1, z2⟩, z3, z4, z5⟩ := E_cells (x := (0, 0)) hz2; have HVV := Aside0.mk hv; have HB2 := Aside0.mk (below_step hb.out hb2); have HZ := Aside0.mk hz2; clear hv hb2 hz2)
        (try simp only [Exit.inBlock, Exit.then])
        obtain ⟨⟨y0, y1, y2⟩, _⟩ := E_cells (x := (0, 0)) (E_put HZ.out (.bool true) (.slice A2 n2 c2) (.int .i64 cd2))
        refine bodyPost_ret (v := .tuple #[.slice none 0 0, .int .i64 0, .agg #[.bool true, .slice A2 n2 c2, .int .i64 cd2]]) (by simp [results, Tryd.results29, go_sem, y0, y1, y2]) rfl ?_
        unfold RTakeBPost
        rw [HE.out]
        exact ⟨_, _, rfl, Kd.R_nil _ _ _ _ _, HVV.out.put HZ.out _ _ _, below_put HB2.out (Nat.le_refl _) _ _ _⟩
      · have hm' : ¬ (1048576 : Int) < x := by omega
        have w1 : IntKind.i64.wrap (x : Int) = (x : Int) := by rw [IntKind.wrap_i64]; omega
        have w2 : IntKind.i64.wrap ((n : Int) + (x : Int)) = (n : Int) + (x : Int) := by rw [IntKind.wrap_i64]; omega
        by_cases hs : (b.length : Int) - n < x
        · have HE := Lib.hid (show takeB b from_ = ([], 0, .at_ 1 b.length 6) by unfold takeB; rw [← HT.out]; simp only []; rw [if_neg hm, if_pos hs])
          clear hm g5
          go_wp2_with (go_at_call 41; refine (refat_calls _ _ _).mono ?_; rintro e w2 ⟨v, rfl, hv, hb2⟩; obtain ⟨A2, n2, c2, cd2, rfl⟩ := hv.open_bad rfl; have hz2 := (hb2.block _ (blk_lt hz0.out)).trans hz0.out; obtain ⟨⟨z0, z1, z2⟩, z3, z4, z5⟩ := E_cells (x := (0, 0)) hz2; have HVV := Aside0.mk hv; have HB2 := Aside0.mk (below_step hb.out hb2); have HZ := Aside0.mk hz2; clear hv hb2 hz2)
          (try simp only [Exit.inBlock, Exit.then])
          obtain ⟨⟨y0, y1, y2⟩, _⟩ := E_cells (x := (0, 0)) (E_put HZ.out (.bool true) (.slice A2 n2 c2) (.int .i64 cd2))
          refine bodyPost_ret (v := .tuple #[.slice none 0 0, .int .i64 0, .agg #[.bool true, .slice A2 n2 c2, .int .i64 cd2]]) (by simp [results, Tryd.results29, go_sem, y0, y1, y2]) rfl ?_
          unfold RTakeBPost
          rw [HE.out]
          exact ⟨_, _, rfl, Kd.R_nil _ _ _ _ _, HVV.out.put HZ.out _ _ _, below_put HB2.out (Nat.le_refl _) _ _ _⟩
        have HE := Lib.hid (show takeB b from_ = ((b.take (n + x)).drop n, (n : Int) + x, .ok) by unfold takeB; rw [← HT.out]; simp only []; rw [if_neg hm, if_neg hs]; rfl)
        obtain ⟨A', hcut, hD, hc2⟩ := B_win (lo := n) (hi := n + x) HX.out (by omega) (by omega) HC.out n ((n : Int) + x) rfl (by simp)
        obtain ⟨ys, hys⟩ : ∃ ys, ys = (b.take (n + x)).drop n := ⟨_, rfl⟩
        have hyl : ys.length ≤ 1099511627776 := by rw [hys, List.length_drop, List.length_take]; omega
        rw [← hys] at hcut hD hc2 HE
        have HD := Aside0.mk hD
        have HYL := Lib.hid hyl
        have v0 : (0 : Int) ≤ (n : Int) + (x : Int) := by omega
        have v1 : (n : Int) + (x : Int) ≤ b.length := by omega
        have v2 : (n : Int) + (x : Int) ≤ c := by have := HC.out; omega
        clear hm g5 hD hys hc2 hyl
        go_wp2
        refine wp_region_noPanic ?_
        refine wp_region_held_drew (S := fun W => W.heap[q]? = some (.cells #[.bool false, .slice none 0 0, .int .i64 0] 35)) (by kernel_rfl) HZQ.out (fun hHeld => ?_)
        refine wpAnyH_take (i := 0) (v := ?_) rfl (by kernel_rfl) (by kernel_rfl) (by kernel_rfl) (fun _ _ _ h => h) (Or.inl ⟨by rfl, ?_⟩) (by assumption) ?_
        rotate_left 1
        · first | (intro w hSw; go_simp; done) | (intro w hSw; go_simp; with_reducible rfl)
        try simp only [Act.put, List.getElem_toArray, List.getElem_cons_zero, List.getElem_cons_succ, List.setIfInBounds_toArray, List.set_cons_zero, List.set_cons_succ]
        refine wpAnyH_take (i := 1) (v := ?_) rfl (by kernel_rfl) (by kernel_rfl) (by kernel_rfl) (fun _ _ _ h => h) (Or.inl ⟨by rfl, ?_⟩) (by assumption) ?_
        rotate_left 1
        · first | (intro w hSw; go_simp; done) | (intro w hSw; go_simp; with_reducible rfl)
        try simp only [Act.put, List.getElem_toArray, List.getElem_cons_zero, List.getElem_cons_succ, List.setIfInBounds_toArray, List.set_cons_zero, List.set_cons_succ]
        refine wpAnyH_take (i := 2) (v := ?_) rfl (by kernel_rfl) (by kernel_rfl) (by kernel_rfl) (fun _ _ _ h => h) (Or.inl ⟨by rfl, ?_⟩) (by assumption) ?_
        rotate_left 1
        · first | (intro w hSw; go_simp; done) | (intro w hSw; go_simp; with_reducible rfl)
        try simp only [Act.put, List.getElem_toArray, List.getElem_cons_zero, List.getElem_cons_succ, List.setIfInBounds_toArray, List.set_cons_zero, List.set_cons_succ]
        refine wpAnyH_take (i := 3) (v := ?_) rfl (by kernel_rfl) (by kernel_rfl) (by kernel_rfl) (fun _ _ _ h => h) (Or.inl ⟨by rfl, ?_⟩) (by assumption) ?_
        rotate_left 1
        · first | (intro w hSw; go_simp; done) | (intro w hSw; go_simp; with_reducible rfl)
        try simp only [Act.put, List.getElem_toArray, List.getElem_cons_zero, List.getElem_cons_succ, List.setIfInBounds_toArray, List.set_cons_zero, List.set_cons_succ]
        refine wpAnyH_take (i := 4) (v := ?_) rfl (by kernel_rfl) (by kernel_rfl) (by kernel_rfl) (fun _ _ _ h => h) (Or.inl ⟨by rfl, ?_⟩) (by assumption) ?_
        rotate_left 1
        · first | (intro w hSw; go_simp; done) | (intro w hSw; go_simp; with_reducible rfl)
        try simp only [Act.put, List.getElem_toArray, List.getElem_cons_zero, List.getElem_cons_succ, List.setIfInBounds_toArray, List.set_cons_zero, List.set_cons_succ]
        refine wpAnyH_take (i := 5) (v := ?_) rfl (by kernel_rfl) (by kernel_rfl) (by kernel_rfl) (fun _ _ _ h => h) (Or.inl ⟨by rfl, ?_⟩) (by assumption) ?_
        rotate_left 1
        · first | (intro w hSw; go_simp; done) | (intro w hSw; go_simp; with_reducible rfl)
        try simp only [Act.put, List.getElem_toArray, List.getElem_cons_zero, List.getElem_cons_succ, List.setIfInBounds_toArray, List.set_cons_zero, List.set_cons_succ]
        refine wpAnyH_take (i := 6) (v := ?_) rfl (by kernel_rfl) (by kernel_rfl) (by kernel_rfl) (fun _ _ _ h => h) (Or.inl ⟨by rfl, ?_⟩) (by assumption) ?_
        rotate_left 1
        · first | (intro w hSw; go_simp; done) | (intro w hSw; go_simp; with_reducible rfl)
        try simp only [Act.put, List.getElem_toArray, List.getElem_cons_zero, List.getElem_cons_succ, List.setIfInBounds_toArray, List.set_cons_zero, List.set_cons_succ]
        refine wpAnyH_take (i := 8) (v := ?_) rfl (by kernel_rfl) (by kernel_rfl) (by kernel_rfl) (fun _ _ _ h => h) (Or.inl ⟨by rfl, ?_⟩) (by assumption) ?_
        rotate_left 1
        · first | (intro w hSw; go_simp; done) | (intro w hSw; go_simp; with_reducible rfl)
        try simp only [Act.put, List.getElem_toArray, List.getElem_cons_zero, List.getElem_cons_succ, List.setIfInBounds_toArray, List.set_cons_zero, List.set_cons_succ]
        refine wpAnyH_take (i := 9) (v := ?_) rfl (by kernel_rfl) (by kernel_rfl) (by kernel_rfl) (fun _ _ _ h => h) (Or.inl ⟨by rfl, ?_⟩) (by assumption) ?_
        rotate_left 1
        · first | (intro w hSw; go_simp; done) | (intro w hSw; go_simp; with_reducible rfl)
        try simp only [Act.put, List.getElem_toArray, List.getElem_cons_zero, List.getElem_cons_succ, List.setIfInBounds_toArray, List.set_cons_zero, List.set_cons_succ]
        refine wpAnyH_take (i := 10) (v := ?_) rfl (by kernel_rfl) (by kernel_rfl) (by kernel_rfl) (fun _ _ _ h => h) (Or.inl ⟨by rfl, ?_⟩) (by assumption) ?_
        rotate_left 1
        · first | (intro w hSw; go_simp; done) | (intro w hSw; go_simp; with_reducible rfl)
        try simp only [Act.put, List.getElem_toArray, List.getElem_cons_zero, List.getElem_cons_succ, List.setIfInBounds_toArray, List.set_cons_zero, List.set_cons_succ]
        refine wpAnyH_take (i := 11) (v := ?_) rfl (by kernel_rfl) (by kernel_rfl) (by kernel_rfl) (fun _ _ _ h => h) (Or.inl ⟨by rfl, ?_⟩) (by assumption) ?_
        rotate_left 1
        · first | (intro w hSw; go_simp; done) | (intro w hSw; go_simp; with_reducible rfl)
        try simp only [Act.put, List.getElem_toArray, List.getElem_cons_zero, List.getElem_cons_succ, List.setIfInBounds_toArray, List.set_cons_zero, List.set_cons_succ]
        refine wpAnyH_take (i := 12) (v := ?_) rfl (by kernel_rfl) (by kernel_rfl) (by kernel_rfl) (fun _ _ _ h => h) (Or.inl ⟨by rfl, ?_⟩) (by assumption) ?_
        rotate_left 1
        · first | (intro w hSw; obtain ⟨⟨q0, q1, q2⟩, _⟩ := E_cells (x := (0, 0)) hSw; go_simp; done) | (intro w hSw; obtain ⟨⟨q0, q1, q2⟩, _⟩ := E_cells (x := (0, 0)) hSw; go_simp; with_reducible rfl)
        try simp only [Act.put, List.getElem_toArray, List.getElem_cons_zero, List.getElem_cons_succ, List.setIfInBounds_toArray, List.set_cons_zero, List.set_cons_succ]
        refine wpAnyH_ready (rs := [7]) (by kernel_rfl) (by simp) ?_
        refine AllReadyH.cons rfl (fun K hK => ?_) AllReadyH.nil
        go_simp
        refine (twin_calls _ _ _ ys (Kd.C_below HD.out hb.out.drew) HYL.out).mono ?_; rintro e w2 ⟨v, rfl, hv, hb2⟩; have HVV := Aside0.mk hv; have hH2 := (hb2.block q (blk_lt hHeld)).trans hHeld; have hz2 := (hb2.block _ (blk_lt hz0.out)).trans hz0.out; obtain ⟨⟨z0, z1, z2⟩, z3, z4, z5⟩ := E_cells (x := (0, 0)) hz2; have HZ := Aside0.mk hz2; have HB2 := Aside0.mk (below_step hb.out.drew hb2); clear hv hb2 hz2
        go_simp
        refine hK.out _ _ hH2 (fun hHeld => ?_)
        clear hK K
        try simp only [Act.put, List.getElem_toArray, List.getElem_cons_zero, List.getElem_cons_succ, List.setIfInBounds_toArray, List.set_cons_zero, List.set_cons_succ]
        refine wpAnyH_take (i := 13) (v := ?_) rfl (by kernel_rfl) (by kernel_rfl) (by kernel_rfl) (fun _ _ _ h => h) (Or.inl ⟨by rfl, ?_⟩) (by assumption) ?_
        rotate_left 1
        · first | (intro w hSw; go_simp; done) | (intro w hSw; go_simp; with_reducible rfl)
        try simp only [Act.put, List.getElem_toArray, List.getElem_cons_zero, List.getElem_cons_succ, List.setIfInBounds_toArray, List.set_cons_zero, List.set_cons_succ]
        refine wpAnyH_take (i := 14) (v := ?_) rfl (by kernel_rfl) (by kernel_rfl) (by kernel_rfl) (fun _ _ _ h => h) (Or.inl ⟨by rfl, ?_⟩) (by assumption) ?_
        rotate_left 1
        · first | (intro w hSw; go_simp; done) | (intro w hSw; go_simp; with_reducible rfl)
        try simp only [Act.put, List.getElem_toArray, List.getElem_cons_zero, List.getElem_cons_succ, List.setIfInBounds_toArray, List.set_cons_zero, List.set_cons_succ]
        refine wpAnyH_ready (rs := [15]) (by kernel_rfl) (by simp) ?_
        refine AllReadyH.cons rfl (fun K hK => ?_) AllReadyH.nil
        go_simp
        skip
        go_simp
        refine hK.out _ _ ((Below.heap_setCell _ _ _ _ hne).trans ((Below.heap_setCell _ _ _ _ hne).trans ((Below.heap_setCell _ _ _ _ hne).trans hHeld))) (fun hHeld => ?_)
        clear hK K
        try simp only [Act.put, List.getElem_toArray, List.getElem_cons_zero, List.getElem_cons_succ, List.setIfInBounds_toArray, List.set_cons_zero, List.set_cons_succ]
        refine wpAnyH_done (by kernel_rfl) ?_ _
        refine NoPanic.normal ?_
        go_wp2
        (try simp only [Exit.inBlock, Exit.then])
        obtain ⟨⟨y0, y1, y2⟩, _⟩ := E_cells (x := (0, 0)) (E_put HZ.out (.bool false) (.slice none 0 0) (.int .i64 0))
        refine bodyPost_ret (v := .tuple #[v, .int .i64 ((n : Int) + x), .agg #[.bool false, .slice none 0 0, .int .i64 0]]) (by simp [results, Tryd.results29, go_sem, y0, y1, y2]) rfl ?_
        unfold RTakeBPost
        rw [HE.out]
        have hs1 : w.heap.size < wc.heap.size := blk_lt hz0.out
        have hr := Kd.R_lower (base' := w.heap.size) (Kd.R_mono (Kd.R_bound HVV.out) (ok' := fun k => wc.heap.size ≤ k) (fun k hk => hk.2.1)) (Nat.le_of_lt hs1)
        have far : ∀ k, wc.heap.size ≤ k → k ≠ w.heap.size := fun k hk => by omega
        exact ⟨_, _, rfl, Kd.R_mono (Kd.R_far (Kd.R_far (Kd.R_far hr far _) far _) far _) (fun _ _ => trivial), rfl, below_put HB2.out (Nat.le_refl _) _ _ _⟩
end Go.Proofs.YthacedijfjcbcaaDoor
