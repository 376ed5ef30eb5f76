/- The document's desk: decide, Change, Decided, Waits. -/
import Derived.Test.YtmhfigkdeeldnaaDoorErP
import Derived.Test.YtmhfigkdeeldnaaDoorCmRep
import Derived.Test.YtmhfigkdeeldnaaDoorCmOnceF
import Derived.Test.YtmhfigkdeeldnaaDoorHas
import Derived.Test.YtmhfigkdeeldnaaDoorInts
import Derived.Deep.DeepCutAuto
import Derived.Deep.RegionHeld3
import Derived.Deep.RegionLaw
import Derived.Deep.RegionWith
namespace Go.Proofs.YtmhfigkdeeldnaaDoor
open Go.RowKit Go.Proofs.YtmhfigkdeeldnaaDoorW.PrintWords Go.Proofs.YtmhfigkdeeldnaaDoorW.PrintLast Go.Proofs.YtmhfigkdeeldnaaDoorW.PrintMore
set_option linter.unusedVariables false
set_option linter.unusedSimpArgs false
theorem M_cells {W : World} {g : Nat} {a b c d : Value} {t : Nat} (h : W.heap[g]? = some (.cells #[a, b, c, d] t)) :
    (W.cell? ⟨g, 0, none⟩ = some a ∧ W.cell? ⟨g, 1, none⟩ = some b ∧ W.cell? ⟨g, 2, none⟩ = some c ∧ W.cell? ⟨g, 3, none⟩ = some d) ∧ W.frozen? ⟨g, 0, none⟩ = false ∧ W.frozen? ⟨g, 1, none⟩ = false ∧ W.frozen? ⟨g, 2, none⟩ = false ∧ W.frozen? ⟨g, 3, none⟩ = false := by
  unfold World.cell? World.frozen?
  rw [h]
  exact ⟨⟨rfl, rfl, rfl, rfl⟩, rfl, rfl, rfl, rfl⟩
theorem M_put {W : World} {g : Nat} {a b c d : Value} {t : Nat} (h : W.heap[g]? = some (.cells #[a, b, c, d] t)) (a' b' c' d' : Value) :
    ((((W.setCell ⟨g, 0, none⟩ a').setCell ⟨g, 1, none⟩ b').setCell ⟨g, 2, none⟩ c').setCell ⟨g, 3, none⟩ d').heap[g]? = some (.cells #[a', b', c', d'] t) := blk_set (blk_set (blk_set (blk_set h 0 a') 1 b') 2 c') 3 d'
theorem below_put4 {w W : World} {n g : Nat} (h : Below n w W) (hg : n ≤ g) (a b c d : Value) : Below n w ((((W.setCell ⟨g, 0, none⟩ a).setCell ⟨g, 1, none⟩ b).setCell ⟨g, 2, none⟩ c).setCell ⟨g, 3, none⟩ d) := (((h.setCell hg _).setCell hg _).setCell hg _).setCell hg _
theorem below_put3 {w W : World} {n g : Nat} (h : Below n w W) (hg : n ≤ g) (x y z : Value) : Below n w (((W.setCell ⟨g, 0, none⟩ x).setCell ⟨g, 1, none⟩ y).setCell ⟨g, 2, none⟩ z) := ((h.setCell hg _).setCell hg _).setCell hg _
theorem put_both {W : World} {g h : Nat} {o : Obj} (h2 : W.heap[h]? = some o) (hgh : g ≠ h) (a' b' c' d' : Value) :
    ((((W.setCell ⟨g, 0, none⟩ a').setCell ⟨g, 1, none⟩ b').setCell ⟨g, 2, none⟩ c').setCell ⟨g, 3, none⟩ d').heap[h]? = some o :=
  (Below.heap_setCell _ _ _ _ (Ne.symm hgh)).trans ((Below.heap_setCell _ _ _ _ (Ne.symm hgh)).trans ((Below.heap_setCell _ _ _ _ (Ne.symm hgh)).trans ((Below.heap_setCell _ _ _ _ (Ne.symm hgh)).trans h2)))
theorem put_back {W : World} {g h : Nat} {o : Obj} (h1 : W.heap[g]? = some o) (hgh : g ≠ h) (x y z : Value) :
    (((W.setCell ⟨h, 0, none⟩ x).setCell ⟨h, 1, none⟩ y).setCell ⟨h, 2, none⟩ z).heap[g]? = some o :=
  (Below.heap_setCell _ _ _ _ hgh).trans ((Below.heap_setCell _ _ _ _ hgh).trans ((Below.heap_setCell _ _ _ _ hgh).trans h1))
theorem R_put4 {W : World} {e base g : Nat} {v : Value} {xs : List Int} (hr : (Kd.int .i64).R e W base (fun _ => True) v xs) (hg : g < base) (a b c d : Value) :
    (Kd.int .i64).R e ((((W.setCell ⟨g, 0, none⟩ a).setCell ⟨g, 1, none⟩ b).setCell ⟨g, 2, none⟩ c).setCell ⟨g, 3, none⟩ d) base (fun _ => True) v xs := by
  have r := Kd.R_mono (Kd.R_bound hr) (ok' := fun q => base ≤ q) (fun q hq => hq.2.1)
  have f1 : ∀ q, base ≤ q → q ≠ g := fun q hq => by omega
  exact Kd.R_mono (Kd.R_far (Kd.R_far (Kd.R_far (Kd.R_far r f1 a) f1 b) f1 c) f1 d) (fun _ _ => trivial)
theorem R_put3 {W : World} {e base g : Nat} {v : Value} {xs : List Int} (hr : (Kd.int .i64).R e W base (fun _ => True) v xs) (hg : g < base) (a b c : Value) :
    (Kd.int .i64).R e (((W.setCell ⟨g, 0, none⟩ a).setCell ⟨g, 1, none⟩ b).setCell ⟨g, 2, none⟩ c) base (fun _ => True) v xs := by
  have r := Kd.R_mono (Kd.R_bound hr) (ok' := fun q => base ≤ q) (fun q hq => hq.2.1)
  have f1 : ∀ q, base ≤ q → q ≠ g := fun q hq => by omega
  exact Kd.R_mono (Kd.R_far (Kd.R_far (Kd.R_far r f1 a) f1 b) f1 c) (fun _ _ => trivial)
theorem heap_keep (w : World) (o : Obj) {k : Nat} (h : k < w.heap.size) : (w.alloc o).heap[k]? = w.heap[k]? := (below_alloc (Below.refl _ _) o).block _ h
/-- In the midst of a function of the document's desk: the argument's box, the result's cells. -/
structure MidD (w wx : World) (a b c d : Value) : Prop where
  below : Below w.heap.size w wx
  box : wx.heap[w.heap.size]? = some (.cells #[a, b, c, d] 28 (0, 0))
  res : wx.heap[w.heap.size + 1]? = some (.cells #[.int .i64 0, .slice none 0 0, .slice none 0 0, .slice none 0 0] 28 (0, 0))
theorem MidD.start (w : World) (a b c d : Value) : MidD w ((w.alloc (.cells #[a, b, c, d] 28)).alloc (.cells #[.int .i64 0, .slice none 0 0, .slice none 0 0, .slice none 0 0] 28)) a b c d :=
  ⟨below_alloc (below_alloc (Below.refl _ _) _) _, (heap_keep _ _ (by simp)).trans (heap_alloc_new _ _), heap_alloc_here _ _ _ (by simp)⟩
theorem MidD.step {w wx w1 : World} {a b c d : Value} (h : MidD w wx a b c d) (hb : Below wx.heap.size wx w1) : MidD w w1 a b c d :=
  ⟨below_step h.below hb, (hb.block _ (blk_lt h.box)).trans h.box, (hb.block _ (blk_lt h.res)).trans h.res⟩
theorem MidD.put {w wx : World} {a b c d : Value} (h : MidD w wx a b c d) {g i : Nat} (hg : w.heap.size + 2 ≤ g) (u : Value) : MidD w (wx.setCell ⟨g, i, none⟩ u) a b c d :=
  ⟨below_set h.below (by omega), (Below.heap_setCell _ _ _ _ (show w.heap.size ≠ g by omega)).trans h.box, (Below.heap_setCell _ _ _ _ (show w.heap.size + 1 ≠ g by omega)).trans h.res⟩
theorem MidD.size {w wx : World} {a b c d : Value} (h : MidD w wx a b c d) : w.heap.size + 2 ≤ wx.heap.size := by have := blk_lt h.res; omega

set_option maxRecDepth 100000 in
set_option maxHeartbeats 1000000 in
theorem refDecide_calls (w : World) (st s : Int) (An As Ad : Option Addr) (la cn lb cs cd : Nat) (dc : List Int) (hne : dc ≠ []) (hl : dc.length ≤ 1000) (hd : (Kd.int .i64).C w Ad dc.length dc) :
    Calls Tryd.prog 36 #[.agg #[.int .i64 st, .slice An la cn, .slice As lb cs, .slice Ad dc.length cd], .int .i64 s] w fun e w' => ∃ A1 k1, e = .returned (.agg #[.int .i64 s, .slice An la cn, .slice none 0 0, .slice A1 dc.length k1]) ∧
      (Kd.int .i64).R 3 w' w.heap.size (fun _ => True) (.slice A1 dc.length k1) (dc.set (dc.length - 1) s) ∧ Below w.heap.size w w' := by
  have HC := Lib.hid hd
  have HL := Lib.hid hl
  have HN := Lib.hid hne
  have hl1 : (1 : Int) ≤ dc.length := by have := List.length_pos_iff.2 hne; omega
  have hl2 : (dc.length : Int) ≤ 1000 := by omega
  have ht : ((dc.length : Int) - 1).toNat = dc.length - 1 := by omega
  clear hd hl hne
  go_enter Tryd.func36, Tryd.ntmps36
  go_upto_region 1 with (fail)
  have HM0 := Aside0.mk (MidD.start w (.int .i64 st) (.slice An la cn) (.slice As lb cs) (.slice Ad dc.length cd))
  obtain ⟨w0, hw0⟩ : ∃ w0, w0 = (w.alloc (.cells #[.int .i64 st, .slice An la cn, .slice As lb cs, .slice Ad dc.length cd] 28)).alloc (.cells #[.int .i64 0, .slice none 0 0, .slice none 0 0, .slice none 0 0] 28) := ⟨_, rfl⟩
  rw [← hw0] at HM0 ⊢
  clear hw0
  obtain ⟨⟨c0, c1, c2, c3⟩, _⟩ := M_cells HM0.out.box
  go_cut [5] (fun s5 wx => ∃ A1 k1, s5 = .slice A1 dc.length k1 ∧ Aside0 ((Kd.int .i64).R 3 wx (w.heap.size + 2) (fun _ => True) (.slice A1 dc.length k1) dc) ∧ Aside0 (MidD w wx (.int .i64 st) (.slice An la cn) (.slice As lb cs) (.slice Ad dc.length cd)))
  case first =>
    obtain ⟨⟨d0, d1, d2, d3⟩, _⟩ := M_cells (HM0.out.step (below_alloc (Below.refl _ _) (.cells #[] 3))).box
    go_wp2_with (at_builtin; (refine app_rows w0.heap.size rfl _ _ rfl (.slice (some ⟨w0.heap.size, 0, none⟩) 0 0) [] dc Ad dc.length cd rfl rfl (empty_row w0 _ _ (Nat.le_refl _) trivial _) (Kd.C_alloc (Kd.C_below HC.out HM0.out.below) _) (by simp) (by have := HL.out; simp; omega) ?_; intro v1 w1 hr1 hb1; have hbw := (below_alloc (Below.refl _ w0) (.cells #[] 3)).trans hb1; have HM1 := Aside0.mk (HM0.out.step hbw); obtain ⟨A1, k1, rfl⟩ := Kd.R_slice (show (Kd.int .i64).R 3 w1 w0.heap.size (fun _ => True) v1 dc by simpa using hr1); have HR1 := Aside0.mk (Kd.R_lower (base' := w.heap.size + 2) (show (Kd.int .i64).R 3 w1 w0.heap.size (fun _ => True) (.slice A1 dc.length k1) dc by simpa using hr1) HM0.out.size); clear hr1 hb1 hbw))
    go_meet
    case rel => exact ⟨A1, k1, rfl, HR1, HM1⟩
  case rest =>
    obtain ⟨A1, k1, rfl, HR1, HM1⟩ := hcut
    clear HM0 c0 c1 c2 c3
    obtain ⟨ad, rfl, _⟩ := C_cell (Kd.R_reads' HR1.out).2.2 (List.length_pos_iff.2 HN.out)
    obtain ⟨g, rfl⟩ := Kd.R_head HR1.out
    obtain ⟨v1, v2⟩ := Kd.R_celln (enc := Value.int .i64) 0 HR1.out ((dc.length : Int) - 1) (by omega) (by omega)
    rw [ht] at v1 v2
    obtain ⟨wx, rfl⟩ : ∃ wx, wx = wc := ⟨_, rfl⟩
    go_upto_region 2 with (fail)
    go_cut [] (fun wy => Aside0 ((Kd.int .i64).R 3 wy (w.heap.size + 2) (fun _ => True) (.slice (some ⟨g, 0, none⟩) dc.length k1) (dc.set (dc.length - 1) s)) ∧ Aside0 (MidD w wy (.int .i64 st) (.slice An la cn) (.slice As lb cs) (.slice Ad dc.length cd)))
    case first =>
      go_wp2
      go_meet
      case rel =>
        have h3 := Kd.R_putn (enc := Value.int .i64) HR1.out ((dc.length : Int) - 1) s
        rw [ht] at h3
        exact ⟨⟨h3⟩, ⟨HM1.out.put (Kd.R_base HR1.out g (by simp [Value.ownBlock])) _⟩⟩
    case rest =>
      obtain ⟨HR2, HM2⟩ := hcut
      clear HR1 HM1 v1 v2
      obtain ⟨⟨c0, c1, c2, c3⟩, _⟩ := M_cells HM2.out.box
      obtain ⟨⟨g0, g1, g2, g3⟩, g4, g5, g6, g7⟩ := M_cells HM2.out.res
      have HP := Aside0.mk (M_put HM2.out.res (.int .i64 s) (.slice An la cn) (.slice none 0 0) (.slice (some ⟨g, 0, none⟩) dc.length k1))
      go_wp2
      (try simp only [Exit.inBlock, Exit.then])
      obtain ⟨⟨y0, y1, y2, y3⟩, _⟩ := M_cells HP.out
      refine bodyPost_ret (v := .agg #[.int .i64 s, .slice An la cn, .slice none 0 0, .slice (some ⟨g, 0, none⟩) dc.length k1]) (by simp [results, Tryd.results36, go_sem, y0, y1, y2, y3]) rfl ⟨_, _, rfl, ?_, ?_⟩
      · exact Kd.R_lower (R_put4 HR2.out (by omega) _ _ _ _) (by omega)
      · exact below_put4 HM2.out.below (by omega) _ _ _ _
set_option maxRecDepth 100000 in
theorem refChange_calls (w : World) (a b c : Value) (Ad : Option Addr) (ld cd : Nat) :
    Calls Tryd.prog 25 #[.agg #[a, b, c, .slice Ad ld cd]] w fun e w' => e = .returned (.int .i64 ld) ∧ w' = w.alloc (.cells #[a, b, c, .slice Ad ld cd] 28) := by
  go_enter Tryd.func25, Tryd.ntmps25
  go_wp2
  go_ret
  exact ⟨rfl, rfl⟩
set_option maxRecDepth 100000 in
theorem refDecided_calls (w : World) (st : Int) (An As Ad : Option Addr) (la cn lb cs cd : Nat) (dc : List Int) (i : Int) (hl : dc.length ≤ 1000) (hd : (Kd.int .i64).C w Ad dc.length dc) :
    Calls Tryd.prog 28 #[.agg #[.int .i64 st, .slice An la cn, .slice As lb cs, .slice Ad dc.length cd], .int .i64 i] w fun e w' => e = .returned (.int .i64 (if 1 ≤ i ∧ i ≤ dc.length then rd dc ((i - 1).toNat : Nat) else 0)) ∧ Below w.heap.size w w' := by
  have HC := Lib.hid hd
  have dm : (dc.length : Int) ≤ 1000 := by omega
  clear hd hl
  by_cases h1 : i < 1
  · rw [if_neg (by omega)]
    go_enter Tryd.func28, Tryd.ntmps28
    go_wp2
    go_ret
    exact ⟨rfl, below_alloc (Below.refl _ _) _⟩
  · by_cases h2 : (dc.length : Int) < i
    · rw [if_neg (by omega)]
      go_enter Tryd.func28, Tryd.ntmps28
      go_wp2
      go_ret
      exact ⟨rfl, below_alloc (Below.refl _ _) _⟩
    · obtain ⟨j, rfl⟩ : ∃ j : Nat, i = (j : Int) + 1 := ⟨(i - 1).toNat, by omega⟩
      have hj : j < dc.length := by omega
      rw [if_pos (by omega)]
      have hjj : (((j : Int) + 1 - 1).toNat : Nat) = j := by omega
      rw [hjj]
      obtain ⟨ad, rfl, hcell⟩ := C_cell (Kd.C_alloc HC.out (.cells #[.int .i64 st, .slice An la cn, .slice As lb cs, .slice Ad dc.length cd] 28)) hj
      have j0 : (0 : Int) ≤ j := by omega
      have j1 : (j : Int) < dc.length := by omega
      clear hj hjj
      go_enter Tryd.func28, Tryd.ntmps28
      go_wp2
      go_ret
      exact ⟨rfl, below_alloc (Below.refl _ _) _⟩
end Go.Proofs.YtmhfigkdeeldnaaDoor
