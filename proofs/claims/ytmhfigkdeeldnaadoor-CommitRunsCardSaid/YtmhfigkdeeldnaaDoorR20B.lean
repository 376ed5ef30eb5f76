/- The document's desk: Waits, say. Printed by wip/mk20.py. -/
import Derived.Test.YtmhfigkdeeldnaaDoorR20A
namespace Go.Proofs.YtmhfigkdeeldnaaDoor
open Go.RowKit Go.Proofs.YtmhfigkdeeldnaaDoorW.PrintWords Go.Proofs.YtmhfigkdeeldnaaDoorW.PrintLast Go.Proofs.YtmhfigkdeeldnaaDoorW.PrintMore
set_option linter.unusedVariables false
set_option linter.unusedSimpArgs false
/-- As MidD, with the cell of an error beside. -/
structure MidE (w wx : World) (a b c d : Value) : Prop where
  below : Below w.heap.size w wx
  box : wx.heap[w.heap.size]? = some (.cells #[a, b, c, d] 28 (0, 0))
  res : wx.heap[w.heap.size + 1]? = some (.cells #[.int .i64 0, .slice none 0 0, .slice none 0 0, .slice none 0 0] 28 (0, 0))
  res2 : wx.heap[w.heap.size + 2]? = some (.cells #[.bool false, .slice none 0 0, .int .i64 0] 38 (0, 0))
abbrev midW (w : World) (a b c d : Value) : World := ((w.alloc (.cells #[a, b, c, d] 28)).alloc (.cells #[.int .i64 0, .slice none 0 0, .slice none 0 0, .slice none 0 0] 28)).alloc (.cells #[.bool false, .slice none 0 0, .int .i64 0] 38)
theorem MidE.start (w : World) (a b c d : Value) : MidE w (midW w a b c d) a b c d :=
  ⟨below_alloc (below_alloc (below_alloc (Below.refl _ _) _) _) _, (heap_keep _ _ (by simp only [alloc_size]; omega)).trans ((heap_keep _ _ (by simp only [alloc_size]; omega)).trans (heap_alloc_new _ _)), (heap_keep _ _ (by simp only [alloc_size]; omega)).trans (heap_alloc_here _ _ _ (by simp only [alloc_size])), heap_alloc_here _ _ _ (by simp only [alloc_size])⟩
theorem MidE.size {w wx : World} {a b c d : Value} (h : MidE w wx a b c d) : w.heap.size + 3 ≤ wx.heap.size := by have := blk_lt h.res2; omega
theorem MidE.grow {w wx w1 : World} {a b c d : Value} (h : MidE w wx a b c d) (hb : Below (w.heap.size + 3) wx w1) : MidE w w1 a b c d :=
  ⟨h.below.trans (hb.mono (by omega)), (hb.block _ (by omega)).trans h.box, (hb.block _ (by omega)).trans h.res, (hb.block _ (by omega)).trans h.res2⟩
theorem MidE.step {w wx w1 : World} {a b c d : Value} (h : MidE w wx a b c d) (hb : Below wx.heap.size wx w1) : MidE w w1 a b c d := h.grow (hb.mono h.size)
theorem MidE.alloc {w wx : World} {a b c d : Value} (h : MidE w wx a b c d) (o : Obj) : MidE w (wx.alloc o) a b c d := h.step (below_alloc (Below.refl _ _) o)
theorem MidE.drew {w wx : World} {a b c d : Value} (h : MidE w wx a b c d) : MidE w wx.drew a b c d := h.step (Below.refl _ _).drew
def waitsOf (ns said : List Int) : List Int := ns.filter fun n => !decide (n ∈ said)
theorem waitsOf_take {ns said : List Int} {k : Nat} (h : k < ns.length) : waitsOf (ns.take (k + 1)) said = waitsOf (ns.take k) said ++ (if rd ns k ∈ said then [] else [rd ns k]) := by
  unfold waitsOf
  rw [take_rd _ _ h, List.filter_append]
  congr 1
  by_cases e : rd ns k ∈ said
  · simp [e]
  · simp [e]
set_option maxRecDepth 100000 in
set_option maxHeartbeats 1000000 in
theorem refWaits_calls (w : World) (st : Int) (An As Ad : Option Addr) (cn cs ld cd : Nat) (ns said : List Int) (h9 : ns.length ≤ 9) (hn : (Kd.int .i64).C w An ns.length ns) (hs : (Kd.int .i64).C w As said.length said) :
    Calls Tryd.prog 27 #[.agg #[.int .i64 st, .slice An ns.length cn, .slice As said.length cs, .slice Ad ld cd]] w fun e w' => ∃ v, e = .returned v ∧ (Kd.int .i64).R 3 w' w.heap.size (fun _ => True) v (waitsOf ns said) ∧ Below w.heap.size w w' := by
  have HN := Lib.hid hn
  have HS := Lib.hid hs
  have n9 : (ns.length : Int) ≤ 9 := by omega
  have H9 := Lib.hid h9
  clear hn hs h9
  go_enter Tryd.func27, Tryd.ntmps27
  go_wp2_with fail
  go_loopw [3, 9] (fun v3 v9 wr => ∃ k : Nat, v9 = .int .i64 k ∧ k ≤ ns.length ∧ Aside0 ((Kd.int .i64).R 3 wr (w.heap.size + 1) (fun _ => True) v3 (waitsOf (ns.take k) said)) ∧ Aside0 (Below w.heap.size w wr ∧ wr.heap[w.heap.size]? = some (.cells #[.int .i64 st, .slice An ns.length cn, .slice As said.length cs, .slice Ad ld cd] 28 (0, 0)))) (fun _ v _ => ns.length - (intOf v).toNat)
  case atStart => exact ⟨0, rfl, Nat.zero_le _, ⟨Kd.R_nil _ _ _ _ _⟩, ⟨below_alloc (Below.refl _ _) _, heap_alloc_new _ _⟩⟩
  case round =>
    obtain ⟨k, rfl, hk, HR, HB⟩ := hrel
    by_cases hlt : k < ns.length
    · obtain ⟨ad, rfl, hcell⟩ := C_cell (Kd.C_below HN.out HB.out.1) hlt
      have k0 : (0 : Int) ≤ k := by omega
      have k1 : (k : Int) < ns.length := by omega
      have HLT := Lib.hid hlt
      obtain ⟨n, hnn⟩ : ∃ n, n = rd ns k := ⟨_, rfl⟩
      rw [← hnn] at hcell
      have hlen : (waitsOf (ns.take k) said).length ≤ 9 := Nat.le_trans (List.length_filter_le _ _) (by have := H9.out; simp; omega)
      have HLEN := Lib.hid hlen
      have HNN := Lib.hid hnn
      obtain ⟨⟨c0, c1, c2, c3⟩, _⟩ := M_cells HB.out.2
      obtain ⟨A7, c7, rfl⟩ := Kd.R_slice HR.out
      obtain ⟨T, hT⟩ : ∃ T, T = waitsOf (ns.take k) said := ⟨_, rfl⟩
      rw [← hT] at HR HLEN ⊢
      have HT := Lib.hid hT
      clear hlt hnn hlen hT
      by_cases he : n ∈ said
      · have hd : decide (n ∈ said) = true := decide_eq_true he
        have HW := Lib.hid (show waitsOf (ns.take (k + 1)) said = T by rw [HT.out, waitsOf_take HLT.out, if_pos (by rw [← HNN.out]; exact he), List.append_nil])
        clear he
        go_wp2_with (go_at_call 37; refine (has_calls _ As cs said _ (Kd.C_below HS.out HB.out.1)).mono ?_; rintro e w4 ⟨rfl, rfl⟩)
        go_roundw
        case rel => exact ⟨k + 1, by go_num, by have := HLT.out; omega, by rw [HW.out]; exact HR, HB⟩
        case measure => have := HLT.out; simp [intOf]; omega
      · have hd : decide (n ∈ said) = false := decide_eq_false he
        obtain ⟨L, hL⟩ : ∃ L, L = waitsOf (ns.take (k + 1)) said := ⟨_, rfl⟩
        have HW := Lib.hid (show T ++ [n] = L by rw [hL, HT.out, waitsOf_take HLT.out, if_neg (by rw [← HNN.out]; exact he), HNN.out])
        have HLL := Lib.hid hL
        clear he hL
        go_wp2_with (first
          | (at_builtin; (refine app_rows (w.heap.size + 1) rfl _ _ rfl (.slice A7 T.length c7) T [n] _ 1 1 rfl rfl (Kd.R_alloc HR.out _) (lit_at _ _ [n] (by simp) (by simp) rfl rfl) (by have := blk_lt HB.out.2; simp; omega) (by have := HLEN.out; omega) ?_; intro v1 w1 hr1 hb1; rw [HW.out] at hr1; have HR1 := Aside0.mk hr1; have hb2 := ((below_alloc (Below.refl _ wr) (.cells #[.int .i64 n] 3)).mono (show w.heap.size + 1 ≤ wr.heap.size by have := blk_lt HB.out.2; omega)).trans hb1; have HB1 := Aside0.mk (show Below w.heap.size w w1 ∧ w1.heap[w.heap.size]? = some (.cells #[.int .i64 st, .slice (some ad) ns.length cn, .slice As said.length cs, .slice Ad ld cd] 28 (0, 0)) from ⟨HB.out.1.trans (hb2.mono (by omega)), (hb2.block _ (by omega)).trans HB.out.2⟩); clear hr1 hb1 hb2))
          | (go_at_call 37; refine (has_calls _ As cs said _ (Kd.C_below HS.out HB.out.1)).mono ?_; rintro e w4 ⟨rfl, rfl⟩))
        go_roundw
        case rel => exact ⟨k + 1, by go_num, by have := HLT.out; omega, by rw [← HLL.out]; exact HR1, HB1⟩
        case measure => have := HLT.out; simp [intOf]; omega
    · have k1 : ¬ (k : Int) < ns.length := by omega
      have hh : ns.take k = ns := List.take_of_length_le (by omega)
      have HR2 := HR.out
      rw [hh] at HR2
      have HR3 := Aside0.mk (Kd.R_lower (base' := w.heap.size) HR2 (by omega))
      clear hlt hh HR2
      go_wp2
      go_ret
      exact ⟨_, rfl, HR3.out, HB.out.1⟩
set_option maxRecDepth 100000 in
set_option maxHeartbeats 1000000 in
theorem refSay_none (w : World) (st : Int) (An As Ad : Option Addr) (cn cs ld cd : Nat) (ns said : List Int) (node : Int) (hn : (Kd.int .i64).C w An ns.length ns) (hs : (Kd.int .i64).C w As said.length said) (h : decide (node ∈ ns) = false) :
    Calls Tryd.prog 35 #[.agg #[.int .i64 st, .slice An ns.length cn, .slice As said.length cs, .slice Ad ld cd], .int .i64 node] w fun e w' => e = .returned (.tuple #[.agg #[.int .i64 st, .slice An ns.length cn, .slice As said.length cs, .slice Ad ld cd], .agg #[.bool true, .slice none 0 0, .int .i64 12]]) ∧ Below w.heap.size w w' := by
  have HN := Lib.hid hn
  have HS := Lib.hid hs
  clear hn hs
  go_enter Tryd.func35, Tryd.ntmps35
  go_wp2_with (first
    | (go_at_call 37; refine (has_calls _ An cn ns _ (Kd.C_alloc (Kd.C_alloc (Kd.C_alloc HN.out _) _) _)).mono ?_; rintro e w4 ⟨rfl, rfl⟩))
  go_region_with (go_at_call 9; refine (refN_calls _ 12).mono ?_; rintro e w1 ⟨rfl, rfl⟩)
  all_goals
    go_wp2
    (try simp only [Exit.inBlock, Exit.then])
    refine bodyPost_ret (v := .tuple #[.agg #[.int .i64 st, .slice An ns.length cn, .slice As said.length cs, .slice Ad ld cd], .agg #[.bool true, .slice none 0 0, .int .i64 12]]) (by simp [results, Tryd.results35, go_sem]) rfl ⟨rfl, ?_⟩
    repeat (first | exact Below.refl _ _ | refine Below.drew ?_ | refine below_set ?_ (by first | exact Nat.le_refl _ | exact Nat.le_succ _ | omega) | refine below_alloc ?_ _)
set_option maxRecDepth 100000 in
set_option maxHeartbeats 1000000 in
theorem refSay_again (w : World) (st : Int) (An As Ad : Option Addr) (cn cs ld cd : Nat) (ns said : List Int) (node : Int) (hn : (Kd.int .i64).C w An ns.length ns) (hs : (Kd.int .i64).C w As said.length said) (h : decide (node ∈ ns) = true) (h2 : decide (node ∈ said) = true) :
    Calls Tryd.prog 35 #[.agg #[.int .i64 st, .slice An ns.length cn, .slice As said.length cs, .slice Ad ld cd], .int .i64 node] w fun e w' => e = .returned (.tuple #[.agg #[.int .i64 st, .slice An ns.length cn, .slice As said.length cs, .slice Ad ld cd], .agg #[.bool true, .slice none 0 0, .int .i64 9]]) ∧ Below w.heap.size w w' := by
  have HN := Lib.hid hn
  have HS := Lib.hid hs
  clear hn hs
  go_enter Tryd.func35, Tryd.ntmps35
  go_wp2_with (first
    | (go_at_call_of 37 (Value.slice As said.length cs); refine (has_calls _ As cs said _ (Kd.C_alloc (Kd.C_alloc (Kd.C_alloc HS.out _) _) _)).mono ?_; rintro e w4 ⟨rfl, rfl⟩)
    | (go_at_call 37; refine (has_calls _ An cn ns _ (Kd.C_alloc (Kd.C_alloc (Kd.C_alloc HN.out _) _) _)).mono ?_; rintro e w4 ⟨rfl, rfl⟩))
  go_region_with (go_at_call 9; refine (refN_calls _ 9).mono ?_; rintro e w1 ⟨rfl, rfl⟩)
  all_goals
    go_wp2
    (try simp only [Exit.inBlock, Exit.then])
    refine bodyPost_ret (v := .tuple #[.agg #[.int .i64 st, .slice An ns.length cn, .slice As said.length cs, .slice Ad ld cd], .agg #[.bool true, .slice none 0 0, .int .i64 9]]) (by simp [results, Tryd.results35, go_sem]) rfl ⟨rfl, ?_⟩
    repeat (first | exact Below.refl _ _ | refine Below.drew ?_ | refine below_set ?_ (by first | exact Nat.le_refl _ | exact Nat.le_succ _ | omega) | refine below_alloc ?_ _)
/-- What stands throughout a drawn region: the argument's box. -/
structure MidB (w wx : World) (a b c d : Value) : Prop where
  box : wx.heap[w.heap.size]? = some (.cells #[a, b, c, d] 28 (0, 0))
theorem MidE.b {w wx : World} {a b c d : Value} (h : MidE w wx a b c d) : MidB w wx a b c d := ⟨h.box⟩
theorem MidB.alloc {w wx : World} {a b c d : Value} (h : MidB w wx a b c d) (o : Obj) : MidB w (wx.alloc o) a b c d := ⟨(heap_keep _ _ (blk_lt h.box)).trans h.box⟩
theorem MidB.put4 {w wx : World} {a b c d : Value} (h : MidB w wx a b c d) {g : Nat} (hg : g ≠ w.heap.size) (x y z u : Value) : MidB w ((((wx.setCell ⟨g, 0, none⟩ x).setCell ⟨g, 1, none⟩ y).setCell ⟨g, 2, none⟩ z).setCell ⟨g, 3, none⟩ u) a b c d := ⟨put_both h.box hg _ _ _ _⟩
theorem MidB.put3 {w wx : World} {a b c d : Value} (h : MidB w wx a b c d) {g : Nat} (hg : g ≠ w.heap.size) (x y z : Value) : MidB w (((wx.setCell ⟨g, 0, none⟩ x).setCell ⟨g, 1, none⟩ y).setCell ⟨g, 2, none⟩ z) a b c d := ⟨put_back h.box (Ne.symm hg) _ _ _⟩
set_option maxRecDepth 100000 in
set_option maxHeartbeats 2000000 in
theorem refSay_goes (w : World) (st : Int) (An As Ad : Option Addr) (cn cs ld cd : Nat) (ns said : List Int) (node : Int) (hn : (Kd.int .i64).C w An ns.length ns) (hs : (Kd.int .i64).C w As said.length said) (h9 : said.length ≤ 9) (h : decide (node ∈ ns) = true) (h2 : decide (node ∈ said) = false) :
    Calls Tryd.prog 35 #[.agg #[.int .i64 st, .slice An ns.length cn, .slice As said.length cs, .slice Ad ld cd], .int .i64 node] w fun e w' => ∃ A1 k1, e = .returned (.tuple #[.agg #[.int .i64 st, .slice An ns.length cn, .slice A1 (said ++ [node]).length k1, .slice Ad ld cd], .agg #[.bool false, .slice none 0 0, .int .i64 0]]) ∧
      (Kd.int .i64).R 3 w' w.heap.size (fun _ => True) (.slice A1 (said ++ [node]).length k1) (said ++ [node]) ∧ Below w.heap.size w w' := by
  have HN := Lib.hid hn
  have HS := Lib.hid hs
  have HS9 := Lib.hid (show (said.length + 1) * 8 ≤ 140737488355328 by omega)
  obtain ⟨L, hL⟩ : ∃ L, L = said ++ [node] := ⟨_, rfl⟩
  rw [← hL]
  have HL := Lib.hid hL.symm
  clear hn hs h9 hL
  go_enter Tryd.func35, Tryd.ntmps35
  go_upto_region 5 with (first
    | (go_at_call_of 37 (Value.slice As said.length cs); refine (has_calls _ As cs said _ (Kd.C_alloc (Kd.C_alloc (Kd.C_alloc HS.out _) _) _)).mono ?_; rintro e w4 ⟨rfl, rfl⟩)
    | (go_at_call 37; refine (has_calls _ An cn ns _ (Kd.C_alloc (Kd.C_alloc (Kd.C_alloc HN.out _) _) _)).mono ?_; rintro e w4 ⟨rfl, rfl⟩))
  have HM0 := Aside0.mk (MidE.start w (.int .i64 st) (.slice An ns.length cn) (.slice As said.length cs) (.slice Ad ld cd))
  obtain ⟨w0, hw0⟩ : ∃ w0, w0 = midW w (.int .i64 st) (.slice An ns.length cn) (.slice As said.length cs) (.slice Ad ld cd) := ⟨_, rfl⟩
  rw [← hw0] at HM0
  have hw1 : w0 = ((w.alloc (.cells #[.int .i64 st, .slice An ns.length cn, .slice As said.length cs, .slice Ad ld cd] 28)).alloc (.cells #[.int .i64 0, .slice none 0 0, .slice none 0 0, .slice none 0 0] 28)).alloc (.cells #[.bool false, .slice none 0 0, .int .i64 0] 38) := hw0
  rw [← hw1]
  clear hw0 hw1
  obtain ⟨⟨d0, d1, d2, d3⟩, _⟩ := M_cells (HM0.out.alloc (.cells #[] 3)).box
  go_cut [6] (fun s6 wx => ∃ A1 k1, s6 = .slice A1 said.length k1 ∧ Aside0 ((Kd.int .i64).R 3 wx (w.heap.size + 3) (fun _ => True) (.slice A1 said.length k1) said) ∧ Aside0 (MidE w wx (.int .i64 st) (.slice An ns.length cn) (.slice As said.length cs) (.slice Ad ld cd)))
  case first =>
    go_wp2_with (at_builtin; (refine app_rows w0.heap.size rfl _ _ rfl (.slice (some ⟨w0.heap.size, 0, none⟩) 0 0) [] said As said.length cs rfl rfl (empty_row w0 _ _ (Nat.le_refl _) trivial _) (Kd.C_alloc (Kd.C_below HS.out HM0.out.below) _) (by simp) (by have := HS9.out; simp; omega) ?_; intro v1 w1 hr1 hb1; have HM1 := Aside0.mk ((HM0.out.alloc (.cells #[] 3)).grow (hb1.mono HM0.out.size)); obtain ⟨A1, k1, rfl⟩ := Kd.R_slice (show (Kd.int .i64).R 3 w1 w0.heap.size (fun _ => True) v1 said by simpa using hr1); have HR1 := Aside0.mk (Kd.R_lower (base' := w.heap.size + 3) (show (Kd.int .i64).R 3 w1 w0.heap.size (fun _ => True) (.slice A1 said.length k1) said by simpa using hr1) HM0.out.size); clear hr1 hb1))
    go_meet
    case rel => exact ⟨A1, k1, rfl, HR1, HM1⟩
  case rest =>
    obtain ⟨A1, k1, rfl, HR1, HM1⟩ := hcut
    clear HM0 d0 d1 d2 d3
    go_wp2
    refine wp_region_noPanic ?_
    refine wp_region_held_drew (S := fun W => MidB w W (.int .i64 st) (.slice An ns.length cn) (.slice As said.length cs) (.slice Ad ld cd)) (by kernel_rfl) HM1.out.drew.b (fun hHeld => ?_)
    refine wpAnyH_take (i := 0) (v := ?_) rfl (by kernel_rfl) (by kernel_rfl) (by kernel_rfl) (fun _ _ _ h => h) (Or.inl ⟨by rfl, ?_⟩) (by assumption) ?_
    rotate_left 1
    · first | (intro w hSw; go_simp; done) | (intro w hSw; go_simp; with_reducible rfl)
    try simp only [Act.put, List.getElem_toArray, List.getElem_cons_zero, List.getElem_cons_succ, List.setIfInBounds_toArray, List.set_cons_zero, List.set_cons_succ]
    refine wpAnyH_take (i := 1) (v := ?_) rfl (by kernel_rfl) (by kernel_rfl) (by kernel_rfl) (fun _ _ _ h => h) (Or.inl ⟨by rfl, ?_⟩) (by assumption) ?_
    rotate_left 1
    · first | (intro w hSw; obtain ⟨⟨c0, c1, c2, c3⟩, _⟩ := M_cells hSw.box; go_simp; done) | (intro w hSw; obtain ⟨⟨c0, c1, c2, c3⟩, _⟩ := M_cells hSw.box; go_simp; with_reducible rfl)
    try simp only [Act.put, List.getElem_toArray, List.getElem_cons_zero, List.getElem_cons_succ, List.setIfInBounds_toArray, List.set_cons_zero, List.set_cons_succ]
    refine wpAnyH_take (i := 2) (v := ?_) rfl (by kernel_rfl) (by kernel_rfl) (by kernel_rfl) (fun _ _ _ h => h) (Or.inl ⟨by rfl, ?_⟩) (by assumption) ?_
    rotate_left 1
    · first | (intro w hSw; go_simp; done) | (intro w hSw; go_simp; with_reducible rfl)
    try simp only [Act.put, List.getElem_toArray, List.getElem_cons_zero, List.getElem_cons_succ, List.setIfInBounds_toArray, List.set_cons_zero, List.set_cons_succ]
    refine wpAnyH_take (i := 3) (v := ?_) rfl (by kernel_rfl) (by kernel_rfl) (by kernel_rfl) (fun _ _ _ h => h) (Or.inl ⟨by rfl, ?_⟩) (by assumption) ?_
    rotate_left 1
    · first | (intro w hSw; obtain ⟨⟨c0, c1, c2, c3⟩, _⟩ := M_cells hSw.box; go_simp; done) | (intro w hSw; obtain ⟨⟨c0, c1, c2, c3⟩, _⟩ := M_cells hSw.box; go_simp; with_reducible rfl)
    try simp only [Act.put, List.getElem_toArray, List.getElem_cons_zero, List.getElem_cons_succ, List.setIfInBounds_toArray, List.set_cons_zero, List.set_cons_succ]
    refine wpAnyH_take (i := 4) (v := ?_) rfl (by kernel_rfl) (by kernel_rfl) (by kernel_rfl) (fun _ _ _ h => h) (Or.inl ⟨by rfl, ?_⟩) (by assumption) ?_
    rotate_left 1
    · first | (intro w hSw; go_simp; done) | (intro w hSw; go_simp; with_reducible rfl)
    try simp only [Act.put, List.getElem_toArray, List.getElem_cons_zero, List.getElem_cons_succ, List.setIfInBounds_toArray, List.set_cons_zero, List.set_cons_succ]
    refine wpAnyH_take (i := 5) (v := ?_) rfl (by kernel_rfl) (by kernel_rfl) (by kernel_rfl) (fun _ _ _ h => h) (Or.inl ⟨by rfl, ?_⟩) (by assumption) ?_
    rotate_left 1
    · first | (intro w hSw; go_simp; done) | (intro w hSw; go_simp; with_reducible rfl)
    try simp only [Act.put, List.getElem_toArray, List.getElem_cons_zero, List.getElem_cons_succ, List.setIfInBounds_toArray, List.set_cons_zero, List.set_cons_succ]
    refine wpAnyH_take (i := 8) (v := ?_) rfl (by kernel_rfl) (by kernel_rfl) (by kernel_rfl) (fun _ _ _ h => h) (Or.inl ⟨by rfl, ?_⟩) (by assumption) ?_
    rotate_left 1
    · first | (intro w hSw; go_simp; done) | (intro w hSw; go_simp; with_reducible rfl)
    try simp only [Act.put, List.getElem_toArray, List.getElem_cons_zero, List.getElem_cons_succ, List.setIfInBounds_toArray, List.set_cons_zero, List.set_cons_succ]
    refine wpAnyH_take (i := 9) (v := ?_) rfl (by kernel_rfl) (by kernel_rfl) (by kernel_rfl) (fun _ _ _ h => h) (Or.inl ⟨by rfl, ?_⟩) (by assumption) ?_
    rotate_left 1
    · first | (intro w hSw; obtain ⟨⟨c0, c1, c2, c3⟩, _⟩ := M_cells hSw.box; go_simp; done) | (intro w hSw; obtain ⟨⟨c0, c1, c2, c3⟩, _⟩ := M_cells hSw.box; go_simp; with_reducible rfl)
    try simp only [Act.put, List.getElem_toArray, List.getElem_cons_zero, List.getElem_cons_succ, List.setIfInBounds_toArray, List.set_cons_zero, List.set_cons_succ]
    refine wpAnyH_take (i := 11) (v := ?_) rfl (by kernel_rfl) (by kernel_rfl) (by kernel_rfl) (fun _ _ _ h => h) (Or.inl ⟨by rfl, ?_⟩) (by assumption) ?_
    rotate_left 1
    · first | (intro w hSw; go_simp; done) | (intro w hSw; go_simp; with_reducible rfl)
    try simp only [Act.put, List.getElem_toArray, List.getElem_cons_zero, List.getElem_cons_succ, List.setIfInBounds_toArray, List.set_cons_zero, List.set_cons_succ]
    refine wpAnyH_ready (rs := [6]) (by kernel_rfl) (by simp) ?_
    refine AllReadyH.cons rfl (fun K hK => ?_) AllReadyH.nil
    go_simp
    skip
    go_simp
    refine hK.out _ _ (hHeld.alloc _) (fun hHeld => ?_)
    clear hK K
    try simp only [Act.put, List.getElem_toArray, List.getElem_cons_zero, List.getElem_cons_succ, List.setIfInBounds_toArray, List.set_cons_zero, List.set_cons_succ]
    refine wpAnyH_ready (rs := [7]) (by kernel_rfl) (by simp) ?_
    refine AllReadyH.cons rfl (fun K hK => ?_) AllReadyH.nil
    refine Kd.R_append_rows_step (W := (wc.drew.alloc (.cells #[.int .i64 node] 3))) (w0 := (wc.drew.alloc (.cells #[.int .i64 node] 3))) (Kd.int .i64) (w.heap.size + 3) rfl _ _ 26 3 (.int .i64 0) 8 rfl Tryd.underlying26 info3 rfl (by decide) (by omega) (.slice A1 said.length k1) said [node] _ 1 1 (fun _ => True) (fun _ => False) rfl rfl (Kd.R_alloc (Kd.R_below HR1.out (Below.refl _ _).drew) _) (lit_at _ 3 [node] (by simp) (by simp) rfl rfl) (fun _ _ h => h) (fun _ hk => hk.elim) (fun _ _ => trivial) (Below.refl _ _) (HM1.out.drew.alloc _).size (by have := HS9.out; omega) ?_
    intro v3 w3 hr3 hb3 hg3 hat3
    rw [HL.out] at hr3
    obtain ⟨A3, k3, rfl⟩ := Kd.R_slice hr3
    have HR3 := Aside0.mk hr3
    have HM3 := Aside0.mk ((HM1.out.drew.alloc (.cells #[.int .i64 node] 3)).grow hb3)
    clear hr3 hb3 hg3 hat3
    refine hK.out _ _ HM3.out.b (fun hHeld => ?_)
    clear hK K
    try simp only [Act.put, List.getElem_toArray, List.getElem_cons_zero, List.getElem_cons_succ, List.setIfInBounds_toArray, List.set_cons_zero, List.set_cons_succ]
    refine wpAnyH_take (i := 10) (v := ?_) rfl (by kernel_rfl) (by kernel_rfl) (by kernel_rfl) (fun _ _ _ h => h) (Or.inl ⟨by rfl, ?_⟩) (by assumption) ?_
    rotate_left 1
    · first | (intro w hSw; go_simp; done) | (intro w hSw; go_simp; with_reducible rfl)
    try simp only [Act.put, List.getElem_toArray, List.getElem_cons_zero, List.getElem_cons_succ, List.setIfInBounds_toArray, List.set_cons_zero, List.set_cons_succ]
    obtain ⟨⟨g0, g1, g2, g3⟩, g4, g5, g6, g7⟩ := M_cells (HM3.out.res)
    obtain ⟨⟨q0, q1, q2⟩, q3, q4, q5⟩ := E_cells (x := (0, 0)) (HM3.out.res2)
    refine wpAnyH_ready (rs := [12]) (by kernel_rfl) (by simp) ?_
    refine AllReadyH.cons rfl (fun K hK => ?_) AllReadyH.nil
    go_simp
    refine hK.out _ _ (hHeld.put4 (by omega) _ _ _ _) (fun hHeld => ?_)
    clear hK K g0 g1 g2 g3 g4 g5 g6 g7 q0 q1 q2 q3 q4 q5
    try simp only [Act.put, List.getElem_toArray, List.getElem_cons_zero, List.getElem_cons_succ, List.setIfInBounds_toArray, List.set_cons_zero, List.set_cons_succ]
    obtain ⟨⟨q0, q1, q2⟩, q3, q4, q5⟩ := E_cells (x := (0, 0)) (put_both (HM3.out.res2) (show w.heap.size + 1 ≠ w.heap.size + 2 by omega) (.int .i64 st) (.slice An ns.length cn) (.slice A3 L.length k3) (.slice Ad ld cd))
    refine wpAnyH_ready (rs := [13]) (by kernel_rfl) (by simp) ?_
    refine AllReadyH.cons rfl (fun K hK => ?_) AllReadyH.nil
    go_simp
    refine hK.out _ _ (hHeld.put3 (by omega) _ _ _) (fun hHeld => ?_)
    clear hK K
    try simp only [Act.put, List.getElem_toArray, List.getElem_cons_zero, List.getElem_cons_succ, List.setIfInBounds_toArray, List.set_cons_zero, List.set_cons_succ]
    refine wpAnyH_done (by kernel_rfl) ?_ _
    refine NoPanic.normal ?_
    go_wp2
    (try simp only [Exit.inBlock, Exit.then])
    obtain ⟨⟨y0, y1, y2, y3⟩, _⟩ := M_cells (put_back (M_put (HM3.out.res) (.int .i64 st) (.slice An ns.length cn) (.slice A3 L.length k3) (.slice Ad ld cd)) (show w.heap.size + 1 ≠ w.heap.size + 2 by omega) (.bool false) (.slice none 0 0) (.int .i64 0))
    obtain ⟨⟨x0, x1, x2⟩, _⟩ := E_cells (x := (0, 0)) (E_put (put_both (HM3.out.res2) (show w.heap.size + 1 ≠ w.heap.size + 2 by omega) (.int .i64 st) (.slice An ns.length cn) (.slice A3 L.length k3) (.slice Ad ld cd)) (.bool false) (.slice none 0 0) (.int .i64 0))
    refine bodyPost_ret (v := .tuple #[.agg #[.int .i64 st, .slice An ns.length cn, .slice A3 L.length k3, .slice Ad ld cd], .agg #[.bool false, .slice none 0 0, .int .i64 0]]) (by simp [results, Tryd.results35, go_sem, y0, y1, y2, y3, x0, x1, x2]) rfl ⟨A3, k3, rfl, Kd.R_lower (R_put3 (R_put4 HR3.out (by omega) (.int .i64 st) (.slice An ns.length cn) (.slice A3 L.length k3) (.slice Ad ld cd)) (by omega) (.bool false) (.slice none 0 0) (.int .i64 0)) (by omega), below_put3 (below_put4 HM3.out.below (by omega) _ _ _ _) (by omega) _ _ _⟩
end Go.Proofs.YtmhfigkdeeldnaaDoor
