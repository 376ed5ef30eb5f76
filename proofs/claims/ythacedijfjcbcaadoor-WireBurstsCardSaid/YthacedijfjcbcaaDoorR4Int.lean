/- The document's TakeInt, TakeBytes. -/
import Derived.Test.YthacedijfjcbcaaDoorR4Take
import Derived.BigRegion
import Derived.Deep.RegionHeld3
import Derived.Deep.RegionWith
namespace Go.Proofs.YthacedijfjcbcaaDoor
open Go.RowKit Go.Proofs.YthacedijfjcbcaaDoorW.PrintWords Go.Proofs.YthacedijfjcbcaaDoorW.PrintLast Go.Proofs.YthacedijfjcbcaaDoorW.PrintMore
set_option linter.unusedVariables false
set_option linter.unusedSimpArgs false
theorem zag_ref (x : Nat) (h : x < 18446744073709551616) : (x % 2 = 0 → zag x = (x : Int) / 2) ∧ (¬ x % 2 = 0 → zag x = -((x : Int) / 2) - 1) := by
  unfold zag
  constructor
  · intro h2; rw [if_pos h2]; omega
  · intro h2; rw [if_neg h2]; omega
theorem takeU_zero {b : List UInt8} {f : Int} {x : Nat} {n : Int} {er : Er} (h : (x, n, er) = takeU b f) (hb : er.bad = true) : x = 0 ∧ n = 0 := by
  have := (takeU_bound b f).2.2.2.1
  rw [← h] at this
  exact this (by intro e; simp only at e; rw [e] at hb; cases hb)
def RTakeIPost (w : World) (b : List UInt8) (from_ : Int) (e : Ending) (w' : World) : Prop :=
  ∃ v, e = .returned (.tuple #[.int .i64 (zag (takeU b from_).1), .int .i64 (takeU b from_).2.1, v]) ∧ IsE w' (takeU b from_).2.2 v ∧ Below w.heap.size w w'
set_option maxRecDepth 100000 in
set_option maxHeartbeats 2000000 in
theorem refTakeInt_calls (w : World) (A : Option Addr) (c : Nat) (b : List UInt8) (from_ : Int) (hx : kB.C w A b.length b) (hl : b.length ≤ 1099511627776) :
    Calls Tryd.prog 28 #[.slice A b.length c, .int .i64 from_] w (RTakeIPost w b from_) := by
  have HX := Lib.hid hx
  have HL := Lib.hid hl
  obtain ⟨t, ht⟩ : ∃ t, t = takeU b from_ := ⟨_, rfl⟩
  have hbd := takeU_bound b from_
  rw [← ht] at hbd
  obtain ⟨x, n, er⟩ := t
  have HT := Lib.hid ht
  have hx1 : (x : Int) ≤ 18446744073709551615 := by have := hbd.1; simp at this; omega
  have hx0 : (0 : Int) ≤ x := by omega
  have hz := Lib.hid (zag_ref x (by omega))
  clear hx hl ht hbd
  go_enter Tryd.func28, Tryd.ntmps28
  go_upto_region 1 with (fail)
  go_cut [7, 8, 9] (fun s7 s8 s9 wx => s7 = .int .u64 x ∧ s8 = .int .i64 n ∧ ∃ q A1 n1 c1 cd1, s9 = .pointer (some ⟨q, 0, none⟩) ∧ Aside0 (Below w.heap.size w wx ∧ w.heap.size < q ∧ IsE wx er (.agg #[.bool er.bad, .slice A1 n1 c1, .int .i64 cd1]) ∧ wx.heap[w.heap.size]? = some (.cells #[.bool false, .slice none 0 0, .int .i64 0] 35) ∧ wx.heap[q]? = some (.cells #[.bool er.bad, .slice A1 n1 c1, .int .i64 cd1] 35)))
  case first =>
    go_wp2_with (go_at_call 26; refine (refTakeUint_calls _ _ _ b from_ (Kd.C_alloc HX.out _) HL.out).mono ?_; intro e w1 h1; unfold RTakeUPost at h1; rw [← HT.out] at h1; obtain ⟨v, rfl, hv, hb⟩ := h1; obtain ⟨A1, n1, c1, cd1, rfl⟩ := hv.open_; have HV := Aside0.mk hv; have HB := Aside0.mk hb; clear hv hb)
    go_meet
    have hb := below_first HB.out
    refine ⟨rfl, rfl, _, A1, n1, c1, cd1, rfl, ⟨below_alloc hb _, ?_, HV.out.below (below_alloc (Below.refl _ _) _), ?_, heap_alloc_new _ _⟩⟩
    · have := HB.out.size; rw [alloc_size] at this; omega
    · rw [heap_alloc_old _ _ _ (by have := HB.out.size; rw [alloc_size] at this; omega)]
      exact (HB.out.block _ (by rw [alloc_size]; exact Nat.lt_succ_self _)).trans (heap_alloc_new w _)
  case rest =>
    obtain ⟨rfl, rfl, q, A1, n1, c1, cd1, rfl, hh⟩ := hcut
    obtain ⟨hb, hq, hE, hz0, hzq⟩ := hh.out
    have hne : q ≠ w.heap.size := by omega
    have HQ := Lib.hid hq
    obtain ⟨⟨z0, z1, z2⟩, z3, z4, z5⟩ := E_cells (x := (0, 0)) hz0
    cases hbd : er.bad with
    | true =>
      rw [hbd] at hE hzq
      obtain ⟨⟨q0, q1, q2⟩, _, _, _⟩ := E_cells (x := (0, 0)) hzq
      obtain ⟨rfl, rfl⟩ := takeU_zero HT.out hbd
      obtain ⟨⟨y0, y1, y2⟩, _⟩ := E_cells (x := (0, 0)) (E_put hz0 (.bool true) (.slice A1 n1 c1) (.int .i64 cd1))
      have Y0 := Aside0.mk y0
      have Y1 := Aside0.mk y1
      have Y2 := Aside0.mk y2
      have hb := Aside0.mk hb
      have hE := Aside0.mk hE
      have hz0 := Aside0.mk hz0
      clear hh hq hzq y0 y1 y2 hbd
      go_wp2
      go_region
      all_goals
        go_wp2
        (try simp only [Exit.inBlock, Exit.then])
        have y0 := Y0.out
        have y1 := Y1.out
        have y2 := Y2.out
        refine bodyPost_ret (v := .tuple #[.int .i64 0, .int .i64 0, .agg #[.bool true, .slice A1 n1 c1, .int .i64 cd1]]) (by simp [results, Tryd.results28, go_sem, y0, y1, y2]) rfl ?_
        unfold RTakeIPost
        rw [← HT.out]
        simp only [show zag 0 = 0 by decide]
        exact ⟨_, rfl, (hE.out.put hz0.out true _ _).below (Below.refl _ _).drew, (below_put hb.out (Nat.le_refl _) _ _ _).drew⟩
    | false =>
      rw [hbd] at hE hzq
      obtain ⟨⟨q0, q1, q2⟩, _, _, _⟩ := E_cells (x := (0, 0)) hzq
      obtain ⟨⟨y0, y1, y2⟩, _⟩ := E_cells (x := (0, 0)) (E_put hz0 (.bool false) (.slice A1 n1 c1) (.int .i64 cd1))
      have Y0 := Aside0.mk y0
      have Y1 := Aside0.mk y1
      have Y2 := Aside0.mk y2
      have hb := Aside0.mk hb
      have hE := Aside0.mk hE
      have hz0 := Aside0.mk hz0
      clear hh hq hzq y0 y1 y2 hbd
      by_cases hp : x % 2 = 0
      · have p1 : ((x : Int) % 2 == 0) = true := beq_iff_eq.2 (by omega)
        have HZ := Lib.hid (hz.out.1 hp)
        clear hp
        go_wp2
        go_region
        all_goals
          go_wp2
          (try simp only [Exit.inBlock, Exit.then])
          have y0 := Y0.out
          have y1 := Y1.out
          have y2 := Y2.out
          refine bodyPost_ret (v := .tuple #[.int .i64 ((x : Int) / 2), .int .i64 n, .agg #[.bool false, .slice A1 n1 c1, .int .i64 cd1]]) (by simp [results, Tryd.results28, go_sem, y0, y1, y2]) rfl ?_
          unfold RTakeIPost
          rw [← HT.out]
          simp only [HZ.out]
          exact ⟨_, rfl, (hE.out.put hz0.out false _ _).below (Below.refl _ _).drew, (below_put hb.out (Nat.le_refl _) _ _ _).drew⟩
      · have p1 : ((x : Int) % 2 == 0) = false := beq_eq_false_iff_ne.2 (by omega)
        have HZ := Lib.hid (hz.out.2 hp)
        clear hp
        go_wp2
        go_region
        all_goals
          go_wp2
          (try simp only [Exit.inBlock, Exit.then])
          have y0 := Y0.out
          have y1 := Y1.out
          have y2 := Y2.out
          refine bodyPost_ret (v := .tuple #[.int .i64 (-((x : Int) / 2) - 1), .int .i64 n, .agg #[.bool false, .slice A1 n1 c1, .int .i64 cd1]]) (by simp [results, Tryd.results28, go_sem, y0, y1, y2]) rfl ?_
          unfold RTakeIPost
          rw [← HT.out]
          simp only [HZ.out]
          exact ⟨_, rfl, (hE.out.put hz0.out false _ _).below (Below.refl _ _).drew, (below_put hb.out (Nat.le_refl _) _ _ _).drew⟩
end Go.Proofs.YthacedijfjcbcaaDoor
