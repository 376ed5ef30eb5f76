/- The document's TakeFrame. -/
import Derived.Test.YthacedijfjcbcaaDoorR4Frame
namespace Go.Proofs.YthacedijfjcbcaaDoor
open Go.RowKit Go.Proofs.YthacedijfjcbcaaDoorW.PrintWords Go.Proofs.YthacedijfjcbcaaDoorW.PrintLast Go.Proofs.YthacedijfjcbcaaDoorW.PrintMore
set_option linter.unusedVariables false
set_option linter.unusedSimpArgs false
theorem gb_drop (b : List UInt8) (f k : Nat) : gb (b.drop f) k = gb b (f + k) := by
  simp [gb, List.getD_eq_getElem?_getD, List.getElem?_drop]
theorem numA_drop (b : List UInt8) (f k : Nat) : numA (b.drop f) k = numA b (f + k) := by
  unfold numA
  rw [gb_drop, gb_drop, gb_drop, gb_drop]
  rfl
theorem takeF_at (b : List UInt8) (f : Nat) (hf : f ≤ b.length) : takeF b (f : Int) = if b.length - f < 8 then (([], 0, .at_ 1 b.length 6) : List UInt8 × Int × Er)
    else if 1048576 < numA b f then ([], 0, .at_ 1 (f : Int) 2)
    else if b.length - f - 8 < numA b f then ([], 0, .at_ 1 b.length 6)
    else if sumN ((b.take (f + 8 + numA b f)).drop (f + 8)) ≠ numA b (f + 4) then ([], 0, .at_ 1 (f + 4) 7)
    else ((b.take (f + 8 + numA b f)).drop (f + 8), (f : Int) + 8 + numA b f, .ok) := by
  unfold takeF
  rw [if_pos (by omega), Int.toNat_natCast]
  dsimp only
  rw [List.length_drop, numA_drop, numA_drop, Nat.add_zero]
  have e : ((b.drop f).take (8 + numA b f)).drop 8 = (b.take (f + 8 + numA b f)).drop (f + 8) := by
    rw [List.take_drop, List.drop_drop, ← Nat.add_assoc]
  rw [e]
def RTakeFPost (w : World) (b : List UInt8) (from_ : Int) (e : Ending) (w' : World) : Prop :=
  ∃ p v, e = .returned (.tuple #[p, .int .i64 (takeF b from_).2.1, v]) ∧ kB.R 5 w' w.heap.size (fun _ => True) p (takeF b from_).1 ∧ IsE w' (takeF b from_).2.2 v ∧ Below w.heap.size w w'
set_option maxRecDepth 100000 in
theorem refTakeFrame_num (w : World) (A : Option Addr) (c : Nat) (b : List UInt8) (from_ : Int) (h : from_ < 0 ∨ (b.length : Int) < from_) :
    Calls Tryd.prog 22 #[.slice A b.length c, .int .i64 from_] w (RTakeFPost w b from_) := by
  have HE := Lib.hid (show takeF b from_ = ([], 0, .num 1) by unfold takeF; rw [if_neg (by omega)])
  by_cases h0 : from_ < 0
  · clear h
    go_enter Tryd.func22, Tryd.ntmps22
    go_wp2_with (go_at_call 13; refine (refN_calls _ 1).mono ?_; rintro e w1 ⟨rfl, rfl⟩)
    (try simp only [Exit.inBlock, Exit.then])
    refine bodyPost_ret (v := .tuple #[.slice none 0 0, .int .i64 0, .agg #[.bool true, .slice none 0 0, .int .i64 1]]) (by simp [results, Tryd.results22, go_sem]) rfl ?_
    unfold RTakeFPost
    rw [HE.out]
    refine ⟨_, _, rfl, Kd.R_nil _ _ _ _ _, rfl, ?_⟩
    repeat (first | exact Below.refl _ _ | refine below_set ?_ (Nat.le_refl _) | refine below_alloc ?_ _)
  · have h1 : (b.length : Int) < from_ := by omega
    clear h
    go_enter Tryd.func22, Tryd.ntmps22
    go_wp2_with (go_at_call 13; refine (refN_calls _ 1).mono ?_; rintro e w1 ⟨rfl, rfl⟩)
    (try simp only [Exit.inBlock, Exit.then])
    refine bodyPost_ret (v := .tuple #[.slice none 0 0, .int .i64 0, .agg #[.bool true, .slice none 0 0, .int .i64 1]]) (by simp [results, Tryd.results22, go_sem]) rfl ?_
    unfold RTakeFPost
    rw [HE.out]
    refine ⟨_, _, rfl, Kd.R_nil _ _ _ _ _, rfl, ?_⟩
    repeat (first | exact Below.refl _ _ | refine below_set ?_ (Nat.le_refl _) | refine below_alloc ?_ _)
set_option maxRecDepth 100000 in
set_option maxHeartbeats 2000000 in
theorem refTakeFrame_calls (w : World) (A : Option Addr) (c : Nat) (b : List UInt8) (from_ : Int) (hx : kB.C w A b.length b) (hc : b.length ≤ c) (hl : b.length ≤ 1099511627776) :
    Calls Tryd.prog 22 #[.slice A b.length c, .int .i64 from_] w (RTakeFPost w b from_) := by
  by_cases hr : from_ < 0 ∨ (b.length : Int) < from_
  · exact refTakeFrame_num w A c b from_ hr
  have HX := Lib.hid hx
  have HC := Lib.hid hc
  have HL := Lib.hid hl
  have hl1 : (b.length : Int) ≤ 1099511627776 := by omega
  obtain ⟨f, rfl⟩ := Int.eq_ofNat_of_zero_le (show 0 ≤ from_ by omega)
  have hf : f ≤ b.length := by omega
  have hE := takeF_at b f hf
  have d1 : decide ((f : Int) < 0) = false := by simp
  have d2 : decide (b.length < f) = false := by simp; omega
  have f0 : (0 : Int) ≤ f := by omega
  have f1 : (f : Int) ≤ b.length := by omega
  clear hr hx hl
  by_cases h8 : b.length - f < 8
  · have h8' : (b.length : Int) - f < 8 := by omega
    have HE := Lib.hid (show takeF b (f : Int) = ([], 0, .at_ 1 b.length 6) by rw [hE, if_pos h8])
    clear hE hf h8 hc
    go_enter Tryd.func22, Tryd.ntmps22
    go_wp2_with (go_at_call 41; refine (refat_calls _ _ _).mono ?_; rintro e w1 ⟨v, rfl, hv, hb⟩; obtain ⟨A1, n1, c1, cd1, rfl⟩ := hv.open_bad rfl; have hz := (hb.block w.heap.size (blk_lt (heap_alloc_new w _))).trans (heap_alloc_new w _); obtain ⟨⟨z0, z1, z2⟩, z3, z4, z5⟩ := E_cells (x := (0, 0)) hz; have HV := Aside0.mk hv; have HB := Aside0.mk (below_step (below_alloc (Below.refl _ _) _) hb); have HZ := Aside0.mk hz; clear hv hb hz)
    (try simp only [Exit.inBlock, Exit.then])
    obtain ⟨⟨y0, y1, y2⟩, _⟩ := E_cells (x := (0, 0)) (E_put HZ.out (.bool true) (.slice A1 n1 c1) (.int .i64 cd1))
    refine bodyPost_ret (v := .tuple #[.slice none 0 0, .int .i64 0, .agg #[.bool true, .slice A1 n1 c1, .int .i64 cd1]]) (by simp [results, Tryd.results22, go_sem, y0, y1, y2]) rfl ?_
    unfold RTakeFPost
    rw [HE.out]
    exact ⟨_, _, rfl, Kd.R_nil _ _ _ _ _, HV.out.put HZ.out _ _ _, below_put HB.out (Nat.le_refl _) _ _ _⟩
  rw [if_neg h8] at hE
  have h8' : ¬ (b.length : Int) - f < 8 := by omega
  obtain ⟨A0, hcut0, hD0, _⟩ := B_win (lo := f) (hi := f + 4) HX.out (by omega) (by omega) hc (f : Int) ((f : Int) + 4) rfl (by simp)
  have e0 := four_at b f (by omega)
  rw [e0] at hcut0 hD0
  replace hcut0 : ∀ W : World, (Instr.slice 23 (.slice A b.length c) (some (.int .i64 (f : Int))) (some (.int .i64 ((f : Int) + 4))) none).run Tryd.prog W = .ok (.slice A0 4 (c - f)) W := hcut0
  replace hD0 : kB.C w A0 4 [gb b f, gb b (f + 1), gb b (f + 2), gb b (f + 3)] := hD0
  have HD0 := Aside0.mk hD0
  obtain ⟨n, hn⟩ : ∃ n, n = numA b f := ⟨_, rfl⟩
  have hnl : n < 4294967296 := by rw [hn]; exact numF_lt _ _ _ _
  rw [← hn] at hE
  have HN := Lib.hid (show numF (gb b f) (gb b (f + 1)) (gb b (f + 2)) (gb b (f + 3)) = n from hn.symm)
  have n1 : (n : Int) ≤ 4294967295 := by omega
  have HFL := Lib.hid (show f + 8 ≤ b.length by omega)
  clear hD0 e0 hn
  go_enter Tryd.func22, Tryd.ntmps22
  go_upto_region 5 with (fail)
  go_cut [7] (fun s7 wx => s7 = .int .i64 (n : Int) ∧ Aside0 (Below w.heap.size w wx ∧ wx.heap[w.heap.size]? = some (.cells #[.bool false, .slice none 0 0, .int .i64 0] 35)))
  case first =>
    clear hE
    go_wp2_with (go_at_call 42; refine (refBack_calls _ _ _ _ _ _ _ (Kd.C_alloc HD0.out _)).mono ?_; rintro e w1 ⟨rfl, m, rfl⟩; rw [HN.out])
    go_meet
    exact ⟨rfl, ⟨pw_below_drewN (below_alloc (Below.refl _ _) _) _, heap_alloc_new w _⟩⟩
  case rest =>
    obtain ⟨rfl, hh⟩ := hcut
    obtain ⟨hb0, hz0⟩ := hh.out
    obtain ⟨⟨z0, z1, z2⟩, z3, z4, z5⟩ := E_cells (x := (0, 0)) hz0
    have hb0 := Aside0.mk hb0
    have hz0 := Aside0.mk hz0
    clear hh
    by_cases hm : 1048576 < n
    · have hm' : (1048576 : Int) < n := by omega
      have HE := Lib.hid (show takeF b (f : Int) = ([], 0, .at_ 1 f 2) by rw [hE, if_pos hm])
      clear hE hf h8 hc hm hnl
      go_wp2_with (go_at_call 41; refine (refat_calls _ _ _).mono ?_; rintro e w1 ⟨v, rfl, hv, hb⟩; obtain ⟨A1, n1, c1, cd1, rfl⟩ := hv.open_bad rfl; have hz := (hb.block w.heap.size (blk_lt (hz0.out))).trans (hz0.out); obtain ⟨⟨z0, z1, z2⟩, z3, z4, z5⟩ := E_cells (x := (0, 0)) hz; have HV := Aside0.mk hv; have HB := Aside0.mk (below_step (hb0.out) hb); have HZ := Aside0.mk hz; clear hv hb hz)
      (try simp only [Exit.inBlock, Exit.then])
      obtain ⟨⟨y0, y1, y2⟩, _⟩ := E_cells (x := (0, 0)) (E_put HZ.out (.bool true) (.slice A1 n1 c1) (.int .i64 cd1))
      refine bodyPost_ret (v := .tuple #[.slice none 0 0, .int .i64 0, .agg #[.bool true, .slice A1 n1 c1, .int .i64 cd1]]) (by simp [results, Tryd.results22, go_sem, y0, y1, y2]) rfl ?_
      unfold RTakeFPost
      rw [HE.out]
      exact ⟨_, _, rfl, Kd.R_nil _ _ _ _ _, HV.out.put HZ.out _ _ _, below_put HB.out (Nat.le_refl _) _ _ _⟩
    rw [if_neg hm] at hE
    have hm' : ¬ (1048576 : Int) < n := by omega
    by_cases hs : b.length - f - 8 < n
    · have hs' : (b.length : Int) - f - 8 < n := by omega
      have HE := Lib.hid (show takeF b (f : Int) = ([], 0, .at_ 1 b.length 6) by rw [hE, if_pos hs])
      clear hE hf h8 hc hm hnl hs
      go_wp2_with (go_at_call 41; refine (refat_calls _ _ _).mono ?_; rintro e w1 ⟨v, rfl, hv, hb⟩; obtain ⟨A1, n1, c1, cd1, rfl⟩ := hv.open_bad rfl; have hz := (hb.block w.heap.size (blk_lt (hz0.out))).trans (hz0.out); obtain ⟨⟨z0, z1, z2⟩, z3, z4, z5⟩ := E_cells (x := (0, 0)) hz; have HV := Aside0.mk hv; have HB := Aside0.mk (below_step (hb0.out) hb); have HZ := Aside0.mk hz; clear hv hb hz)
      (try simp only [Exit.inBlock, Exit.then])
      obtain ⟨⟨y0, y1, y2⟩, _⟩ := E_cells (x := (0, 0)) (E_put HZ.out (.bool true) (.slice A1 n1 c1) (.int .i64 cd1))
      refine bodyPost_ret (v := .tuple #[.slice none 0 0, .int .i64 0, .agg #[.bool true, .slice A1 n1 c1, .int .i64 cd1]]) (by simp [results, Tryd.results22, go_sem, y0, y1, y2]) rfl ?_
      unfold RTakeFPost
      rw [HE.out]
      exact ⟨_, _, rfl, Kd.R_nil _ _ _ _ _, HV.out.put HZ.out _ _ _, below_put HB.out (Nat.le_refl _) _ _ _⟩
    have hs' : ¬ (b.length : Int) - f - 8 < n := by omega
    rw [if_neg hs] at hE
    obtain ⟨A1, hcut1, hD1, _⟩ := B_win (lo := f + 8) (hi := f + 8 + n) HX.out (by omega) (by omega) hc ((f : Int) + 8) ((f : Int) + 8 + (n : Int)) (by simp) (by simp)
    obtain ⟨q, hq⟩ : ∃ q, q = (b.take (f + 8 + n)).drop (f + 8) := ⟨_, rfl⟩
    have hql : q.length = n := by rw [hq, List.length_drop, List.length_take]; omega
    rw [← hq] at hcut1 hD1 hE
    obtain ⟨A2, hcut2, hD2, _⟩ := B_win (lo := f + 4) (hi := f + 8) HX.out (by omega) (by omega) hc ((f : Int) + 4) ((f : Int) + 8) (by simp) (by simp)
    have e2 := four_at b (f + 4) (by omega)
    rw [show f + 4 + 4 = f + 8 by omega] at e2
    rw [e2] at hcut2 hD2
    replace hcut2 : ∀ W : World, (Instr.slice 23 (.slice A b.length c) (some (.int .i64 ((f : Int) + 4))) (some (.int .i64 ((f : Int) + 8))) none).run Tryd.prog W = .ok (.slice A2 4 (c - (f + 4))) W := hcut2
    replace hD2 : kB.C w A2 4 [gb b (f + 4), gb b (f + 4 + 1), gb b (f + 4 + 2), gb b (f + 4 + 3)] := hD2
    have HD1 := Aside0.mk (Kd.C_below hD1 hb0.out)
    have HD2 := Aside0.mk (Kd.C_below hD2 hb0.out)
    obtain ⟨y, hy⟩ : ∃ y, y = numA b (f + 4) := ⟨_, rfl⟩
    rw [← hy] at hE
    have HY := Lib.hid (show numF (gb b (f + 4)) (gb b (f + 4 + 1)) (gb b (f + 4 + 2)) (gb b (f + 4 + 3)) = y from hy.symm)
    have HQL := Lib.hid (show q.length ≤ 1099511627776 by omega)
    obtain ⟨s, hsm⟩ : ∃ s, s = sumN q := ⟨_, rfl⟩
    rw [← hsm] at hE
    have HS := Lib.hid hsm.symm
    have w1 : IntKind.i64.wrap ((f : Int) + 8) = f + 8 := by rw [IntKind.wrap_i64]; omega
    have w2 : IntKind.i64.wrap ((f : Int) + 4) = f + 4 := by rw [IntKind.wrap_i64]; omega
    have w3 : IntKind.i64.wrap ((f : Int) + 8 + n) = f + 8 + n := by rw [IntKind.wrap_i64]; omega
    have v1 : (f : Int) + 8 + n ≤ b.length := by omega
    by_cases hsy : s = y
    · have hdec : (((sumN q : Nat) : Int) == ((numF (gb b (f + 4)) (gb b (f + 4 + 1)) (gb b (f + 4 + 2)) (gb b (f + 4 + 3)) : Nat) : Int)) = true := beq_iff_eq.2 (by have := HS.out; have := HY.out; omega)
      have HE := Lib.hid (show takeF b (f : Int) = (q, (f : Int) + 8 + n, .ok) by rw [hE, if_neg (by simpa using hsy)])
      clear hE hf h8 hc hm hnl hs hq hql hD1 hD2 e2 hy hsm hsy
      go_wp2
      go_quiet ((first
        | (go_at_call 20; exact Calls.quiet_of_same ((refSum_calls _ _ _ q (Kd.C_drewN HD1.out _)).mono fun _ _ ⟨h, k⟩ => ⟨h, k.symm⟩))
        | (go_at_call 42; exact Calls.quiet_of (refBack_calls _ _ _ _ _ _ _ (Kd.C_drewN HD2.out _)))))
      go_wp2_with (go_at_call 16; refine (twin_calls _ _ _ q (Kd.C_drewN HD1.out _) HQL.out).mono ?_; rintro e w2 ⟨v, rfl, hv, hb⟩; have HVV := Aside0.mk hv; have hz := (hb.block w.heap.size (blk_lt (show (wc.drewN _).heap[w.heap.size]? = _ from hz0.out))).trans (show (wc.drewN _).heap[w.heap.size]? = _ from hz0.out); obtain ⟨⟨z0, z1, z2⟩, z3, z4, z5⟩ := E_cells (x := (0, 0)) hz; have HZ := Aside0.mk hz; have HB := Aside0.mk (below_step (pw_below_drewN hb0.out _) hb); clear hv hb hz)
      (try simp only [Exit.inBlock, Exit.then])
      obtain ⟨⟨y0, y1, y2⟩, _⟩ := E_cells (x := (0, 0)) (E_put HZ.out (.bool false) (.slice none 0 0) (.int .i64 0))
      refine bodyPost_ret (v := .tuple #[v, .int .i64 ((f : Int) + 8 + n), .agg #[.bool false, .slice none 0 0, .int .i64 0]]) (by simp [results, Tryd.results22, go_sem, y0, y1, y2]) rfl ?_
      unfold RTakeFPost
      rw [HE.out]
      have hs1 : w.heap.size < wc.heap.size := blk_lt hz0.out
      have hr := Kd.R_lower (base' := w.heap.size) (Kd.R_mono (Kd.R_bound HVV.out) (ok' := fun k => wc.heap.size ≤ k) (fun k hk => hk.2.1)) (Nat.le_of_lt hs1)
      have far : ∀ k, wc.heap.size ≤ k → k ≠ w.heap.size := fun k hk => by omega
      exact ⟨_, _, rfl, Kd.R_mono (Kd.R_far (Kd.R_far (Kd.R_far hr far _) far _) far _) (fun _ _ => trivial), rfl, below_put HB.out (Nat.le_refl _) _ _ _⟩
    · have hdec : (((sumN q : Nat) : Int) == ((numF (gb b (f + 4)) (gb b (f + 4 + 1)) (gb b (f + 4 + 2)) (gb b (f + 4 + 3)) : Nat) : Int)) = false := beq_eq_false_iff_ne.2 (by have := HS.out; have := HY.out; omega)
      have HE := Lib.hid (show takeF b (f : Int) = ([], 0, .at_ 1 ((f : Int) + 4) 7) by rw [hE, if_pos hsy])
      clear hE hf h8 hc hm hnl hs hq hql hD1 hD2 e2 hy hsm hsy
      go_wp2
      go_quiet ((first
        | (go_at_call 20; exact Calls.quiet_of_same ((refSum_calls _ _ _ q (Kd.C_drewN HD1.out _)).mono fun _ _ ⟨h, k⟩ => ⟨h, k.symm⟩))
        | (go_at_call 42; exact Calls.quiet_of (refBack_calls _ _ _ _ _ _ _ (Kd.C_drewN HD2.out _)))))
      go_wp2_with (go_at_call 41; refine (refat_calls _ _ _).mono ?_; rintro e w1 ⟨v, rfl, hv, hb⟩; obtain ⟨A1, n1, c1, cd1, rfl⟩ := hv.open_bad rfl; have hz := (hb.block w.heap.size (blk_lt ((show (wc.drewN _).heap[w.heap.size]? = _ from hz0.out)))).trans ((show (wc.drewN _).heap[w.heap.size]? = _ from hz0.out)); obtain ⟨⟨z0, z1, z2⟩, z3, z4, z5⟩ := E_cells (x := (0, 0)) hz; have HV := Aside0.mk hv; have HB := Aside0.mk (below_step (pw_below_drewN hb0.out _) hb); have HZ := Aside0.mk hz; clear hv hb hz)
      (try simp only [Exit.inBlock, Exit.then])
      obtain ⟨⟨y0, y1, y2⟩, _⟩ := E_cells (x := (0, 0)) (E_put HZ.out (.bool true) (.slice A1 n1 c1) (.int .i64 cd1))
      refine bodyPost_ret (v := .tuple #[.slice none 0 0, .int .i64 0, .agg #[.bool true, .slice A1 n1 c1, .int .i64 cd1]]) (by simp [results, Tryd.results22, go_sem, y0, y1, y2]) rfl ?_
      unfold RTakeFPost
      rw [HE.out]
      exact ⟨_, _, rfl, Kd.R_nil _ _ _ _ _, HV.out.put HZ.out _ _ _, below_put HB.out (Nat.le_refl _) _ _ _⟩
end Go.Proofs.YthacedijfjcbcaaDoor
