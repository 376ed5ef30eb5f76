/- The document's Frame, DocFrame, TakeFrame. -/
import Derived.Test.YthacedijfjcbcaaDoorR4Sum
import Derived.Test.YthacedijfjcbcaaDoorR4Bytes
import Derived.Test.YthacedijfjcbcaaDoorDTakes
namespace Go.Proofs.YthacedijfjcbcaaDoor
open Go.RowKit Go.Proofs.YthacedijfjcbcaaDoorW.PrintWords Go.Proofs.YthacedijfjcbcaaDoorW.PrintLast Go.Proofs.YthacedijfjcbcaaDoorW.PrintMore
set_option linter.unusedVariables false
set_option linter.unusedSimpArgs false
set_option maxRecDepth 100000 in
theorem refFrame_calls (w : World) (A : Option Addr) (c : Nat) (p : List UInt8) (hx : kB.C w A p.length p) (hl : p.length ≤ 1048576) :
    Calls Tryd.prog 38 #[.slice A p.length c] w (NewBytes w (frameF p)) := by
  have HX := Lib.hid hx
  have HL := Lib.hid hl
  have h1 : (p.length : Int) ≤ 1048576 := by omega
  obtain ⟨L, hL⟩ : ∃ L, L = fourF p.length ++ fourF (sumN p) := ⟨_, rfl⟩
  have HQ := Lib.hid hL
  have HLL := Lib.hid (show L.length = 8 by rw [hL]; rfl)
  clear hx hl hL
  go_enter Tryd.func38, Tryd.ntmps38
  go_wp2_with (first
    | (go_at_call 46; refine (join_calls _ _ _ L _ _ p HC3.out (Kd.C_below HX.out H3.out) (by have := HL.out; have := HLL.out; omega)).mono ?_; intro e w4 h4; rw [show L ++ p = frameF p by rw [HQ.out]; rfl] at h4; obtain ⟨v4, rfl, hr, hb⟩ := h4; have HR4 := Aside0.mk hr; have HS3 := Aside0.mk H3.out.size; have H4 := Aside0.mk (below_step H3.out hb); clear hr hb)
    | (go_at_call 46; refine (join_calls _ _ _ (fourF p.length) _ _ (fourF (sumN p)) (Kd.C_below HC1.out HB2.out) HC2.out (by rw [fourF_len, fourF_len]; decide)).mono ?_; intro e w3 h3; rw [← HQ.out] at h3; obtain ⟨A3, c3, rfl, _, _, hC, hb⟩ := h3.open_; have HC3 := Aside0.mk hC; have H3 := Aside0.mk (below_step H2.out hb); clear h3 hC hb)
    | (go_at_call_of 47 (Value.int .u32 (sumN p : Int)); refine (refFour_calls _ (sumN p) (sumN_lt p)).mono ?_; intro e w2 h2; obtain ⟨A2, c2, rfl, _, _, hC, hb⟩ := h2.open_; have HC2 := Aside0.mk hC; have HB2 := Aside0.mk hb; have H2 := Aside0.mk (below_step HB1.out hb); clear h2 hC hb)
    | (go_at_call 47; refine (refFour_calls _ p.length (by have := HL.out; omega)).mono ?_; intro e w1 h1; obtain ⟨A1, c1, rfl, _, _, hC, hb⟩ := h1.open_; have HC1 := Aside0.mk hC; have HB1 := Aside0.mk hb; clear h1 hC hb)
    | (go_at_call 20; refine (refSum_calls _ _ _ p (Kd.C_below HX.out HB1.out)).mono ?_; rintro e w1' ⟨rfl, rfl⟩))
  go_ret
  exact ⟨_, rfl, Kd.R_lower HR4.out HS3.out, H4.out⟩
set_option maxRecDepth 100000 in
theorem refDoc_calls (w : World) (A : Option Addr) (c : Nat) (p : List UInt8) (hx : kB.C w A p.length p) (hl : p.length ≤ 1048576) :
    Calls Tryd.prog 17 #[.slice A p.length c] w fun e w' => ∃ B d, e = .returned (.tuple #[.slice B (frameF p).length d, .agg #[.bool false, .slice none 0 0, .int .i64 0]]) ∧ kB.C w' B (frameF p).length (frameF p) ∧ Below w.heap.size w w' := by
  have HX := Lib.hid hx
  have HL := Lib.hid hl
  have h1 : (p.length : Int) ≤ 1048576 := by omega
  obtain ⟨F, hF⟩ : ∃ F, F = frameF p := ⟨_, rfl⟩
  rw [← hF]
  have HF := Lib.hid hF
  clear hx hl hF
  go_enter Tryd.func17, Tryd.ntmps17
  go_wp2_with (go_at_call 38; refine (refFrame_calls _ _ _ p (Kd.C_alloc HX.out _) HL.out).mono ?_; intro e w1 h; rw [← HF.out] at h; obtain ⟨A1, c1, rfl, _, _, hC, hb⟩ := h.open_; have hz := (hb.block _ (by rw [alloc_size]; exact Nat.lt_succ_self _)).trans (heap_alloc_new w _); obtain ⟨⟨z0, z1, z2⟩, z3, z4, z5⟩ := E_cells (x := (0, 0)) hz; have HZ := Aside0.mk hz; have HC1 := Aside0.mk hC; have H1 := Aside0.mk (below_first hb); clear h hb hC hz)
  (try simp only [Exit.inBlock, Exit.then])
  obtain ⟨⟨y0, y1, y2⟩, _⟩ := E_cells (x := (0, 0)) (E_put HZ.out (.bool false) (.slice none 0 0) (.int .i64 0))
  refine bodyPost_ret (v := .tuple #[.slice A1 F.length c1, .agg #[.bool false, .slice none 0 0, .int .i64 0]]) (by simp [results, Tryd.results17, go_sem, y0, y1, y2]) rfl ⟨A1, c1, rfl, ?_, below_put H1.out (Nat.le_refl _) _ _ _⟩
  exact C_farput HC1.out HZ.out _ _ _ _ _
end Go.Proofs.YthacedijfjcbcaaDoor
