/- The document's wave: Begin, Done. -/
import Derived.Test.YtpnokpoikhpiiaaDoorW19T
import Derived.Deep.RegionWith
namespace Go.Proofs.YtpnokpoikhpiiaaDoor
open Go.RowKit Go.Maps Go.Proofs.YtpnokpoikhpiiaaDoorW.PrintWords Go.Proofs.YtpnokpoikhpiiaaDoorW.PrintLast Go.Proofs.YtpnokpoikhpiiaaDoorW.PrintMore WvSim
set_option linter.unusedVariables false
set_option linter.unusedSimpArgs false
theorem three_mid (w : World) (o1 o2 o3 : Obj) : (((w.alloc o1).alloc o2).alloc o3).heap[w.heap.size + 1]? = some o2 := by
  rw [heap_alloc_old _ _ _ (by simp only [alloc_size]; omega)]
  exact heap_alloc_here _ _ _ (by simp only [alloc_size])
theorem three_top (w : World) (o1 o2 o3 : Obj) : (((w.alloc o1).alloc o2).alloc o3).heap[w.heap.size + 1 + 1]? = some o3 := heap_alloc_here _ _ _ (by simp only [alloc_size])
theorem below_three {w W : World} {o1 o2 o3 : Obj} (h : Below (((w.alloc o1).alloc o2).alloc o3).heap.size (((w.alloc o1).alloc o2).alloc o3) W) : Below w.heap.size w W :=
  below_weaken (below_alloc (below_alloc (below_alloc (Below.refl _ _) o1) o2) o3) (by simp only [alloc_size]; omega) h
/-- Behind the stores of a wave and of no error as results. -/
theorem put_both {W : World} {g h : Nat} {a b c d x y z : Value} {t u : Nat} (h1 : W.heap[g]? = some (.cells #[a, b, c, d] t)) (h2 : W.heap[h]? = some (.cells #[x, y, z] u)) (hgh : g ≠ h) (a' b' c' d' : Value) :
    ((((W.setCell ⟨g, 0, none⟩ a').setCell ⟨g, 1, none⟩ b').setCell ⟨g, 2, none⟩ c').setCell ⟨g, 3, none⟩ d').heap[h]? = some (.cells #[x, y, z] u) :=
  (Below.heap_setCell _ _ _ _ (Ne.symm hgh)).trans ((Below.heap_setCell _ _ _ _ (Ne.symm hgh)).trans ((Below.heap_setCell _ _ _ _ (Ne.symm hgh)).trans ((Below.heap_setCell _ _ _ _ (Ne.symm hgh)).trans h2)))
theorem put_back {W : World} {g h : Nat} {a b c d : Value} {t : Nat} (h1 : W.heap[g]? = some (.cells #[a, b, c, d] t)) (hgh : g ≠ h) (x y z : Value) :
    (((W.setCell ⟨h, 0, none⟩ x).setCell ⟨h, 1, none⟩ y).setCell ⟨h, 2, none⟩ z).heap[g]? = some (.cells #[a, b, c, d] t) :=
  (Below.heap_setCell _ _ _ _ hgh).trans ((Below.heap_setCell _ _ _ _ hgh).trans ((Below.heap_setCell _ _ _ _ hgh).trans h1))
/-- A row that lies behind two blocks stands while they are written. -/
theorem R_put7 {W : World} {e base g h : Nat} {v : Value} {xs : List Int} (hr : (Kd.int .i64).R e W base (fun _ => True) v xs) (hg : g < base) (hh : h < base) (a b c d x y z : Value) :
    (Kd.int .i64).R e (((((((W.setCell ⟨g, 0, none⟩ a).setCell ⟨g, 1, none⟩ b).setCell ⟨g, 2, none⟩ c).setCell ⟨g, 3, none⟩ d).setCell ⟨h, 0, none⟩ x).setCell ⟨h, 1, none⟩ y).setCell ⟨h, 2, none⟩ z) base (fun _ => True) v xs := by
  have r := Kd.R_mono (Kd.R_bound hr) (ok' := fun q => base ≤ q) (fun q hq => hq.2.1)
  have f1 : ∀ q, base ≤ q → q ≠ g := fun q hq => by omega
  have f2 : ∀ q, base ≤ q → q ≠ h := fun q hq => by omega
  exact Kd.R_mono (Kd.R_far (Kd.R_far (Kd.R_far (R_far4 r f1 a b c d) f2 x) f2 y) f2 z) (fun _ _ => trivial)
set_option maxRecDepth 100000 in
theorem refDone_calls (w : World) (nd : Nd) (hF : Fine nd) (v : Value) (hv : IsM w nd v) :
    Calls Tryd.prog 15 #[v] w fun e w' => e = .returned (.bool (nd.bg && nd.heard.length == nd.near.length)) ∧ Below w.heap.size w w' := by
  obtain ⟨A, a, B, b, C, c, rfl, h1, h2, h3⟩ := hv
  obtain ⟨bb, hbb⟩ : ∃ bb, bb = nd.bg := ⟨_, rfl⟩
  rw [← hbb]
  have n8 : (nd.near.length : Int) ≤ 8 := by have := hF.near8; omega
  have m8 : (nd.heard.length : Int) ≤ 8 := by have := hF.heard8; omega
  clear hF h1 h2 h3 hbb
  cases bb with
  | true =>
    have e : (((nd.heard.length : Int) == (nd.near.length : Int)) : Bool) = (true && nd.heard.length == nd.near.length) := by
      rw [Bool.eq_iff_iff]
      simp
      omega
    rw [← e]
    clear e
    go_enter Tryd.func15, Tryd.ntmps15
    go_wp2
    go_ret
    refine ⟨?_, below_alloc (Below.refl _ _) _⟩
    first
      | rfl
      | (simp; done)
  | false =>
    go_enter Tryd.func15, Tryd.ntmps15
    go_wp2
    go_ret
    exact ⟨rfl, below_alloc (Below.refl _ _) _⟩
set_option maxRecDepth 100000 in
set_option maxHeartbeats 1000000 in
theorem refBegin_again (w : World) (A B C : Option Addr) (la lb lc a b c : Nat) :
    Calls Tryd.prog 10 #[.agg #[.slice A la a, .slice B lb b, .slice C lc c, .bool true]] w fun e w' =>
      e = .returned (.tuple #[.agg #[.slice A la a, .slice B lb b, .slice C lc c, .bool true], .slice none 0 0, .agg #[.bool true, .slice none 0 0, .int .i64 21]]) ∧ Below w.heap.size w w' := by
  go_enter Tryd.func10, Tryd.ntmps10
  go_wp2
  go_region_with (go_at_call 16; refine (refN_calls _ 21).mono ?_; rintro e w1 ⟨rfl, rfl⟩)
  all_goals
    go_wp2
    (try simp only [Exit.inBlock, Exit.then])
    refine bodyPost_ret (v := .tuple #[.agg #[.slice A la a, .slice B lb b, .slice C lc c, .bool true], .slice none 0 0, .agg #[.bool true, .slice none 0 0, .int .i64 21]]) (by simp [results, Tryd.results10, go_sem]) rfl ⟨rfl, ?_⟩
    repeat (first | exact Below.refl _ _ | refine Below.drew ?_ | refine below_set ?_ (by first | exact Nat.le_refl _ | exact Nat.le_succ _ | omega) | refine below_alloc ?_ _)
set_option maxRecDepth 100000 in
set_option maxHeartbeats 2000000 in
theorem refBegin_calls (w : World) (nd : Nd) (hF : Fine nd) (A B C : Option Addr) (a b c : Nat) (h1 : (Kd.int .i64).C w A nd.near.length nd.near) (h2 : (Kd.int .i64).C w B nd.heard.length nd.heard) (h3 : (Kd.int .i64).C w C nd.told.length nd.told) :
    Calls Tryd.prog 10 #[.agg #[.slice A nd.near.length a, .slice B nd.heard.length b, .slice C nd.told.length c, .bool false]] w fun e w' => ∃ A1 k1 A2 k2, e = .returned (.tuple #[.agg #[.slice A nd.near.length a, .slice B nd.heard.length b, .slice A1 (nd.told ++ tells nd.near nd.heard nd.told true).length k1, .bool true], .slice A2 (tells nd.near nd.heard nd.told true).length k2, .agg #[.bool false, .slice none 0 0, .int .i64 0]]) ∧
      (Kd.int .i64).R 3 w' w.heap.size (fun _ => True) (.slice A1 (nd.told ++ tells nd.near nd.heard nd.told true).length k1) (nd.told ++ tells nd.near nd.heard nd.told true) ∧ (Kd.int .i64).R 3 w' w.heap.size (fun _ => True) (.slice A2 (tells nd.near nd.heard nd.told true).length k2) (tells nd.near nd.heard nd.told true) ∧ Below w.heap.size w w' := by
  have HF := Lib.hid (show Fine { nd with bg := true } from hF.begun)
  have H1 := Aside0.mk h1
  have H2 := Aside0.mk h2
  have H3 := Aside0.mk h3
  obtain ⟨T, hT⟩ : ∃ T, T = tells nd.near nd.heard nd.told true := ⟨_, rfl⟩
  obtain ⟨L, hL⟩ : ∃ L, L = nd.told ++ tells nd.near nd.heard nd.told true := ⟨_, rfl⟩
  rw [← hL, ← hT]
  have HT := Lib.hid hT
  have HL := Lib.hid hL
  clear hF h1 h2 h3 hT hL
  go_enter Tryd.func10, Tryd.ntmps10
  go_upto_region 4 with (fail)
  go_cut [5, 6] (fun s5 s6 wx => ∃ q A1 k1 A2 k2, s5 = .pointer (some ⟨q, 0, none⟩) ∧ s6 = .slice A2 T.length k2 ∧ Aside0 (Below w.heap.size w wx ∧ wx.heap[q]? = some (.cells #[.slice A nd.near.length a, .slice B nd.heard.length b, .slice A1 L.length k1, .bool true] 31) ∧
    wx.heap[w.heap.size + 1]? = some (.cells #[.slice none 0 0, .slice none 0 0, .slice none 0 0, .bool false] 31) ∧ wx.heap[w.heap.size + 1 + 1]? = some (.cells #[.bool false, .slice none 0 0, .int .i64 0] 35) ∧
    (Kd.int .i64).R 3 wx (w.heap.size + 3) (fun _ => True) (.slice A1 L.length k1) L ∧ (Kd.int .i64).R 3 wx (w.heap.size + 3) (fun _ => True) (.slice A2 T.length k2) T))
  case first =>
    go_wp2_with (go_at_call 22; refine (refTell_calls _ { nd with bg := true } HF.out A B C a b c (Kd.C_alloc (Kd.C_alloc (Kd.C_alloc H1.out _) _) _) (Kd.C_alloc (Kd.C_alloc (Kd.C_alloc H2.out _) _) _) (Kd.C_alloc (Kd.C_alloc (Kd.C_alloc H3.out _) _) _)).mono ?_; intro e w1 hh; simp only [] at hh; rw [← HL.out, ← HT.out] at hh; obtain ⟨A1, k1, A2, k2, rfl, r1, r2, hb⟩ := hh; have R1 := Aside0.mk (Kd.R_lower (base' := w.heap.size + 3) r1 (by simp only [alloc_size]; omega)); have R2 := Aside0.mk (Kd.R_lower (base' := w.heap.size + 3) r2 (by simp only [alloc_size]; omega)); have HB := Aside0.mk (below_three hb); have HQ1 := Aside0.mk ((hb.block _ (by simp only [alloc_size]; omega)).trans (three_mid w _ _ _)); have HQ2 := Aside0.mk ((hb.block _ (by simp only [alloc_size]; omega)).trans (three_top w _ _ _)); clear hb r1 r2)
    go_meet
    exact ⟨_, A1, k1, A2, k2, rfl, rfl, ⟨below_alloc HB.out _, heap_alloc_new _ _, (heap_alloc_old _ _ _ (blk_lt HQ1.out)).trans HQ1.out, (heap_alloc_old _ _ _ (blk_lt HQ2.out)).trans HQ2.out, Kd.R_alloc R1.out _, Kd.R_alloc R2.out _⟩⟩
  case rest =>
    obtain ⟨q, A1, k1, A2, k2, rfl, rfl, hh⟩ := hcut
    obtain ⟨hb, hq, hq1, hq2, hr1, hr2⟩ := hh.out
    obtain ⟨⟨c0, c1, c2, c3⟩, _⟩ := M_cells hq
    obtain ⟨⟨g0, g1, g2, g3⟩, g4, g5, g6, g7⟩ := M_cells hq1
    have hE := put_both hq1 hq2 (by omega) (.slice A nd.near.length a) (.slice B nd.heard.length b) (.slice A1 L.length k1) (.bool true)
    obtain ⟨⟨z0, z1, z2⟩, z3, z4, z5⟩ := E_cells (x := (0, 0)) hE
    have HP := Aside0.mk (M_put hq1 (.slice A nd.near.length a) (.slice B nd.heard.length b) (.slice A1 L.length k1) (.bool true))
    have HE := Aside0.mk hE
    have HB := Aside0.mk hb
    have R1 := Aside0.mk hr1
    have R2 := Aside0.mk hr2
    clear hh hb hq hq1 hq2 hr1 hr2 hE
    go_wp2
    (try simp only [Exit.inBlock, Exit.then])
    obtain ⟨⟨y0, y1, y2, y3⟩, _⟩ := M_cells (put_back HP.out (h := w.heap.size + 1 + 1) (by omega) (.bool false) (.slice none 0 0) (.int .i64 0))
    obtain ⟨⟨x0, x1, x2⟩, _⟩ := E_cells (x := (0, 0)) (E_put HE.out (.bool false) (.slice none 0 0) (.int .i64 0))
    refine bodyPost_ret (v := .tuple #[.agg #[.slice A nd.near.length a, .slice B nd.heard.length b, .slice A1 L.length k1, .bool true], .slice A2 T.length k2, .agg #[.bool false, .slice none 0 0, .int .i64 0]]) (by simp [results, Tryd.results10, go_sem, y0, y1, y2, y3, x0, x1, x2]) rfl ⟨A1, k1, A2, k2, rfl, ?_, ?_, ?_⟩
    · exact Kd.R_lower (R_put7 R1.out (by omega) (by omega) _ _ _ _ _ _ _) (by omega)
    · exact Kd.R_lower (R_put7 R2.out (by omega) (by omega) _ _ _ _ _ _ _) (by omega)
    · exact below_put (below_put4 HB.out (by omega) _ _ _ _) (by omega) _ _ _
end Go.Proofs.YtpnokpoikhpiiaaDoor
