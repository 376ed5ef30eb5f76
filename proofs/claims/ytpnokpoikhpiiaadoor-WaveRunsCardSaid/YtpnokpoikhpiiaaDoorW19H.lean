/- The document's wave: Hear. -/
import Derived.Test.YtpnokpoikhpiiaaDoorW19B
import Derived.Test.YtpnokpoikhpiiaaDoorWInvWords
namespace Go.Proofs.YtpnokpoikhpiiaaDoor
open Go.RowKit Go.Maps Go.Proofs.YtpnokpoikhpiiaaDoorW.PrintWords Go.Proofs.YtpnokpoikhpiiaaDoorW.PrintLast Go.Proofs.YtpnokpoikhpiiaaDoorW.PrintMore WvSim
set_option linter.unusedVariables false
set_option linter.unusedSimpArgs false
set_option maxRecDepth 100000 in
set_option maxHeartbeats 1000000 in
theorem refHear_none (w : World) (nd : Nd) (n : Int) (hn : decide (n ∈ nd.near) = false) (A B C : Option Addr) (a b c : Nat) (bg : Bool) (h1 : (Kd.int .i64).C w A nd.near.length nd.near) (h2 : (Kd.int .i64).C w B nd.heard.length nd.heard) :
    Calls Tryd.prog 12 #[.agg #[.slice A nd.near.length a, .slice B nd.heard.length b, .slice C nd.told.length c, .bool bg], .int .i64 n] w fun e w' =>
      e = .returned (.tuple #[.agg #[.slice A nd.near.length a, .slice B nd.heard.length b, .slice C nd.told.length c, .bool bg], .slice none 0 0, .agg #[.bool true, .slice none 0 0, .int .i64 12]]) ∧ Below w.heap.size w w' := by
  have H1 := Aside0.mk h1
  have H2 := Aside0.mk h2
  clear h1 h2
  go_enter Tryd.func12, Tryd.ntmps12
  go_wp2_with (first
    | (go_at_call 24; refine (has_calls _ _ _ nd.near n (Kd.C_alloc (Kd.C_alloc (Kd.C_alloc H1.out _) _) _)).mono ?_; rintro e w1 ⟨rfl, rfl⟩))
  go_region_with (go_at_call 16; refine (refN_calls _ 12).mono ?_; rintro e w1 ⟨rfl, rfl⟩)
  all_goals
    go_wp2
    (try simp only [Exit.inBlock, Exit.then])
    refine bodyPost_ret (v := .tuple #[.agg #[.slice A nd.near.length a, .slice B nd.heard.length b, .slice C nd.told.length c, .bool bg], .slice none 0 0, .agg #[.bool true, .slice none 0 0, .int .i64 12]]) (by simp [results, Tryd.results12, go_sem]) rfl ⟨rfl, ?_⟩
    repeat (first | exact Below.refl _ _ | refine Below.drew ?_ | refine below_set ?_ (by first | exact Nat.le_refl _ | exact Nat.le_succ _ | omega) | refine below_alloc ?_ _)
set_option maxRecDepth 100000 in
set_option maxHeartbeats 1000000 in
theorem refHear_again (w : World) (nd : Nd) (n : Int) (hn : decide (n ∈ nd.near) = true) (hm : decide (n ∈ nd.heard) = true) (A B C : Option Addr) (a b c : Nat) (bg : Bool) (h1 : (Kd.int .i64).C w A nd.near.length nd.near) (h2 : (Kd.int .i64).C w B nd.heard.length nd.heard) :
    Calls Tryd.prog 12 #[.agg #[.slice A nd.near.length a, .slice B nd.heard.length b, .slice C nd.told.length c, .bool bg], .int .i64 n] w fun e w' =>
      e = .returned (.tuple #[.agg #[.slice A nd.near.length a, .slice B nd.heard.length b, .slice C nd.told.length c, .bool bg], .slice none 0 0, .agg #[.bool true, .slice none 0 0, .int .i64 9]]) ∧ Below w.heap.size w w' := by
  have H1 := Aside0.mk h1
  have H2 := Aside0.mk h2
  clear h1 h2
  go_enter Tryd.func12, Tryd.ntmps12
  go_wp2_with (first
    | (go_at_call 24; have mm := M0.out; refine (has_calls _ _ _ nd.heard n (Kd.C_alloc (Kd.C_alloc (Kd.C_alloc H2.out _) _) _)).mono ?_; rintro e w1 ⟨rfl, rfl⟩)
    | (go_at_call 24; refine (has_calls _ _ _ nd.near n (Kd.C_alloc (Kd.C_alloc (Kd.C_alloc H1.out _) _) _)).mono ?_; rintro e w1 ⟨rfl, rfl⟩; have M0 := Aside0.mk True.intro))
  go_region_with (go_at_call 16; refine (refN_calls _ 9).mono ?_; rintro e w1 ⟨rfl, rfl⟩)
  all_goals
    go_wp2
    (try simp only [Exit.inBlock, Exit.then])
    refine bodyPost_ret (v := .tuple #[.agg #[.slice A nd.near.length a, .slice B nd.heard.length b, .slice C nd.told.length c, .bool bg], .slice none 0 0, .agg #[.bool true, .slice none 0 0, .int .i64 9]]) (by simp [results, Tryd.results12, go_sem]) rfl ⟨rfl, ?_⟩
    repeat (first | exact Below.refl _ _ | refine Below.drew ?_ | refine below_set ?_ (by first | exact Nat.le_refl _ | exact Nat.le_succ _ | omega) | refine below_alloc ?_ _)
/-- What stands throughout the region. -/
structure SS (w : World) (A B C : Option Addr) (a b c : Nat) (nd : Nd) (bb : Bool) (W : World) : Prop where
  box : W.heap[w.heap.size]? = some (.cells #[.slice A nd.near.length a, .slice B nd.heard.length b, .slice C nd.told.length c, .bool bb] 31)
  z1 : W.heap[w.heap.size + 1]? = some (.cells #[.slice none 0 0, .slice none 0 0, .slice none 0 0, .bool false] 31)
  z2 : W.heap[w.heap.size + 1 + 1]? = some (.cells #[.bool false, .slice none 0 0, .int .i64 0] 35)
  bel : Below w.heap.size w W
  siz : w.heap.size + 3 ≤ W.heap.size
theorem SS.grow {w : World} {A B C : Option Addr} {a b c : Nat} {nd : Nd} {bb : Bool} {W W1 : World} (h : SS w A B C a b c nd bb W) (hb : Below (w.heap.size + 3) W W1) : SS w A B C a b c nd bb W1 :=
  ⟨(hb.block _ (by omega)).trans h.box, (hb.block _ (by omega)).trans h.z1, (hb.block _ (by omega)).trans h.z2, h.bel.trans (hb.mono (by omega)), Nat.le_trans h.siz hb.size⟩
theorem SS.put {w : World} {A B C : Option Addr} {a b c : Nat} {nd : Nd} {bb : Bool} {W : World} (h : SS w A B C a b c nd bb W) {q : Nat} (hq : w.heap.size + 3 ≤ q) (x y z u : Value) : SS w A B C a b c nd bb ((((W.setCell ⟨q, 0, none⟩ x).setCell ⟨q, 1, none⟩ y).setCell ⟨q, 2, none⟩ z).setCell ⟨q, 3, none⟩ u) := by
  have f : ∀ (V : World) (j : Nat) (v : Value), (V.setCell ⟨q, j, none⟩ v).heap.size = V.heap.size := fun V j v => by simp [World.setCell]
  refine h.grow ⟨rfl, rfl, rfl, by rw [f, f, f, f]; exact Nat.le_refl _, fun i hi => ?_⟩
  have hne : i ≠ q := by omega
  exact (Below.heap_setCell _ _ _ _ hne).trans ((Below.heap_setCell _ _ _ _ hne).trans ((Below.heap_setCell _ _ _ _ hne).trans (Below.heap_setCell _ _ _ _ hne)))
theorem R_farq {W : World} {e base q : Nat} {v : Value} {xs : List Int} (h : (Kd.int .i64).R e W base (fun _ => True) v xs) (hq : ∀ k, v.ownBlock = some k → k ≠ q) (a b c d : Value) :
    (Kd.int .i64).R e ((((W.setCell ⟨q, 0, none⟩ a).setCell ⟨q, 1, none⟩ b).setCell ⟨q, 2, none⟩ c).setCell ⟨q, 3, none⟩ d) base (fun _ => True) v xs :=
  Kd.R_mono (R_far4 (Kd.R_flat (fun h => h) h (ok' := fun k => k ≠ q) (fun k hk _ => hq k hk)) (fun _ h => h) a b c d) (fun _ _ => trivial)
theorem SS.alloc {w : World} {A B C : Option Addr} {a b c : Nat} {nd : Nd} {bb : Bool} {W : World} (h : SS w A B C a b c nd bb W) (o : Obj) : SS w A B C a b c nd bb (W.alloc o) :=
  h.grow ((below_alloc (Below.refl _ W) o).mono h.siz)
set_option maxRecDepth 100000 in
set_option maxHeartbeats 4000000 in
theorem refHear_calls (w : World) (nd : Nd) (n : Int) (hF : Fine nd) (hn : n ∈ nd.near) (hm : n ∉ nd.heard) (A B C : Option Addr) (a b c : Nat) (h1 : (Kd.int .i64).C w A nd.near.length nd.near) (h2 : (Kd.int .i64).C w B nd.heard.length nd.heard) (h3 : (Kd.int .i64).C w C nd.told.length nd.told) :
    Calls Tryd.prog 12 #[.agg #[.slice A nd.near.length a, .slice B nd.heard.length b, .slice C nd.told.length c, .bool nd.bg], .int .i64 n] w fun e w' => ∃ A3 k3 A4 k4 A5 k5, e = .returned (.tuple #[.agg #[.slice A nd.near.length a, .slice A3 (nd.heard ++ [n]).length k3, .slice A4 (nd.told ++ tells nd.near (nd.heard ++ [n]) nd.told nd.bg).length k4, .bool nd.bg], .slice A5 (tells nd.near (nd.heard ++ [n]) nd.told nd.bg).length k5, .agg #[.bool false, .slice none 0 0, .int .i64 0]]) ∧
      (Kd.int .i64).R 3 w' w.heap.size (fun _ => True) (.slice A3 (nd.heard ++ [n]).length k3) (nd.heard ++ [n]) ∧ (Kd.int .i64).R 3 w' w.heap.size (fun _ => True) (.slice A4 (nd.told ++ tells nd.near (nd.heard ++ [n]) nd.told nd.bg).length k4) (nd.told ++ tells nd.near (nd.heard ++ [n]) nd.told nd.bg) ∧ (Kd.int .i64).R 3 w' w.heap.size (fun _ => True) (.slice A5 (tells nd.near (nd.heard ++ [n]) nd.told nd.bg).length k5) (tells nd.near (nd.heard ++ [n]) nd.told nd.bg) ∧ Below w.heap.size w w' := by
  have HF := Lib.hid (show Fine { nd with heard := nd.heard ++ [n] } from hF.hear hn hm)
  have HH8 := Lib.hid hF.heard8
  have H1 := Aside0.mk h1
  have H2 := Aside0.mk h2
  have H3 := Aside0.mk h3
  have d1 : decide (n ∈ nd.near) = true := decide_eq_true hn
  have d2 : decide (n ∈ nd.heard) = false := decide_eq_false hm
  obtain ⟨LH, hLH⟩ : ∃ LH, LH = nd.heard ++ [n] := ⟨_, rfl⟩
  rw [← hLH] at HF
  rw [← hLH]
  obtain ⟨T, hT⟩ : ∃ T, T = tells nd.near LH nd.told nd.bg := ⟨_, rfl⟩
  obtain ⟨L, hL⟩ : ∃ L, L = nd.told ++ tells nd.near LH nd.told nd.bg := ⟨_, rfl⟩
  rw [← hL, ← hT]
  have HT := Lib.hid hT
  have HL := Lib.hid hL
  have HLH := Lib.hid hLH
  clear hF h1 h2 h3 hT hL hLH hn hm
  suffices hall : ∀ bb, bb = nd.bg → Calls Tryd.prog 12 #[.agg #[.slice A nd.near.length a, .slice B nd.heard.length b, .slice C nd.told.length c, .bool bb], .int .i64 n] w fun e w' => ∃ A3 k3 A4 k4 A5 k5, e = .returned (.tuple #[.agg #[.slice A nd.near.length a, .slice A3 LH.length k3, .slice A4 L.length k4, .bool bb], .slice A5 T.length k5, .agg #[.bool false, .slice none 0 0, .int .i64 0]]) ∧
      (Kd.int .i64).R 3 w' w.heap.size (fun _ => True) (.slice A3 LH.length k3) LH ∧ (Kd.int .i64).R 3 w' w.heap.size (fun _ => True) (.slice A4 L.length k4) L ∧ (Kd.int .i64).R 3 w' w.heap.size (fun _ => True) (.slice A5 T.length k5) T ∧ Below w.heap.size w w' from hall _ rfl
  intro bb hbb
  replace HT := Lib.hid (show T = tells nd.near LH nd.told bb by rw [hbb]; exact HT.out)
  replace HL := Lib.hid (show L = nd.told ++ tells nd.near LH nd.told bb by rw [hbb]; exact HL.out)
  replace HF := Lib.hid (show Fine { nd with heard := LH, bg := bb } by rw [hbb]; exact HF.out)
  clear hbb
  go_enter Tryd.func12, Tryd.ntmps12
  go_upto_region 1 with (fail)
  obtain ⟨X, hX⟩ : ∃ X : World, X = ((w.alloc (.cells #[.slice A nd.near.length a, .slice B nd.heard.length b, .slice C nd.told.length c, .bool bb] 31)).alloc (.cells #[.slice none 0 0, .slice none 0 0, .slice none 0 0, .bool false] 31)).alloc (.cells #[.bool false, .slice none 0 0, .int .i64 0] 35) := ⟨_, rfl⟩
  rw [← hX]
  have hXs : X.heap.size = w.heap.size + 3 := by rw [hX]; simp
  have hXB : Below w.heap.size w X := by rw [hX]; exact below_alloc (below_alloc (below_alloc (Below.refl _ _) _) _) _
  have x0 : X.heap[w.heap.size]? = some (.cells #[.slice A nd.near.length a, .slice B nd.heard.length b, .slice C nd.told.length c, .bool bb] 31) := by rw [hX, heap_alloc_old _ _ _ (by simp only [alloc_size]; omega), heap_alloc_old _ _ _ (by simp only [alloc_size]; omega)]; exact heap_alloc_here _ _ _ rfl
  have x1 : X.heap[w.heap.size + 1]? = some (.cells #[.slice none 0 0, .slice none 0 0, .slice none 0 0, .bool false] 31) := by rw [hX]; exact three_mid w _ _ _
  have x2 : X.heap[w.heap.size + 1 + 1]? = some (.cells #[.bool false, .slice none 0 0, .int .i64 0] 35) := by rw [hX]; exact three_top w _ _ _
  have HXS := Lib.hid hXs
  have HXB := Aside0.mk hXB
  obtain ⟨⟨c0, c1, c2, c3⟩, _⟩ := M_cells x0
  have c1a : ∀ o, (X.alloc o).cell? ⟨w.heap.size, 1, none⟩ = some (.slice B nd.heard.length b) := fun o => by rw [World.cell?_alloc_lt _ _ ⟨w.heap.size, 1, none⟩ (by exact blk_lt x0)]; exact c1
  have X0 := Aside0.mk x0
  have X1 := Aside0.mk x1
  have X2 := Aside0.mk x2
  clear hX hXs hXB x0 x1 x2
  go_wp2_with (first
    | (at_builtin; refine app_rows X.heap.size rfl _ _ rfl (.slice (some ⟨X.heap.size, 0, none⟩) 0 0) [] nd.heard B nd.heard.length b rfl rfl (empty_row X _ _ (Nat.le_refl _) trivial _) (Kd.C_alloc (Kd.C_below H2.out HXB.out) _) (by simp) (by have := HH8.out; simp; omega) ?_; intro v2 w2 hr2 hb2; have hbw := (below_alloc (Below.refl _ X) (.cells #[] 3)).trans hb2; have HS2 := Aside0.mk (show w.heap.size + 3 ≤ w2.heap.size by have := hbw.size; have := HXS.out; omega); rw [HXS.out] at hr2; obtain ⟨A2, k2, hv2, _, _⟩ := Kd.R_reads hr2; rw [List.nil_append] at hr2 hv2; subst hv2; have HR2 := Aside0.mk hr2; have HD0 := Aside0.mk ((hbw.block _ (blk_lt X0.out)).trans X0.out); have HQ1 := Aside0.mk ((hbw.block _ (blk_lt X1.out)).trans X1.out); have HQ2 := Aside0.mk ((hbw.block _ (blk_lt X2.out)).trans X2.out); have HW2 := Aside0.mk (below_step HXB.out hbw); clear hr2 hb2 hbw)
    | (go_at_call 24; have mm := M0.out; refine (has_calls _ _ _ nd.heard n (Kd.C_below H2.out HXB.out)).mono ?_; rintro e w1 ⟨rfl, rfl⟩)
    | (go_at_call 24; refine (has_calls _ _ _ nd.near n (Kd.C_below H1.out HXB.out)).mono ?_; rintro e w1 ⟨rfl, rfl⟩; have M0 := Aside0.mk True.intro))
  clear c0 c1 c2 c3 c1a
  go_cut [8, 9] (fun s8 s9 wx => ∃ q A3 k3 A4 k4 A5 k5, s8 = .pointer (some ⟨q, 0, none⟩) ∧ s9 = .slice A5 T.length k5 ∧ Aside0 (Below w.heap.size w wx ∧ wx.heap[q]? = some (.cells #[.slice A nd.near.length a, .slice A3 LH.length k3, .slice A4 L.length k4, .bool bb] 31) ∧
    wx.heap[w.heap.size + 1]? = some (.cells #[.slice none 0 0, .slice none 0 0, .slice none 0 0, .bool false] 31) ∧ wx.heap[w.heap.size + 1 + 1]? = some (.cells #[.bool false, .slice none 0 0, .int .i64 0] 35) ∧
    (Kd.int .i64).R 3 wx (w.heap.size + 3) (fun _ => True) (.slice A3 LH.length k3) LH ∧ (Kd.int .i64).R 3 wx (w.heap.size + 3) (fun _ => True) (.slice A4 L.length k4) L ∧ (Kd.int .i64).R 3 wx (w.heap.size + 3) (fun _ => True) (.slice A5 T.length k5) T))
  case first =>
    have HA2 := Lib.hid (show ∀ k, (Value.slice A2 nd.heard.length k2).ownBlock = some k → k < w2.heap.size from fun k hk => ((Kd.R_bound HR2.out).1 k hk).2.2.1)
    have HS0 := Aside0.mk (show SS w A B C a b c nd bb w2.drew from ⟨HD0.out, HQ1.out, HQ2.out, HW2.out.drew, HS2.out⟩)
    replace HR2 := Aside0.mk (show (Kd.int .i64).R 3 w2.drew (w.heap.size + 3) (fun _ => True) (.slice A2 nd.heard.length k2) nd.heard from Kd.R_below HR2.out (Below.refl _ _).drew)
    clear HD0 HQ1 HQ2 HW2 HS2
    refine wp_region_noPanic ?_
    refine wp_region_held_drew (S := SS w A B C a b c nd bb) (by kernel_rfl) HS0.out (fun hHeld => ?_)
    refine wpAnyH_take (i := 0) (v := ?_) rfl (by kernel_rfl) (by kernel_rfl) (by kernel_rfl) (fun _ _ _ h => h) (Or.inl ⟨by rfl, ?_⟩) (by assumption) ?_
    rotate_left 1
    · first | (intro w hSw; go_simp; done) | (intro w hSw; go_simp; with_reducible rfl)
    try simp only [Act.put, List.getElem_toArray, List.getElem_cons_zero, List.getElem_cons_succ, List.setIfInBounds_toArray, List.set_cons_zero, List.set_cons_succ]
    refine wpAnyH_take (i := 1) (v := ?_) rfl (by kernel_rfl) (by kernel_rfl) (by kernel_rfl) (fun _ _ _ h => h) (Or.inl ⟨by rfl, ?_⟩) (by assumption) ?_
    rotate_left 1
    · first | (intro w hSw; obtain ⟨⟨c0, c1, c2, c3⟩, _⟩ := M_cells hSw.box; go_simp; done) | (intro w hSw; obtain ⟨⟨c0, c1, c2, c3⟩, _⟩ := M_cells hSw.box; go_simp; with_reducible rfl)
    try simp only [Act.put, List.getElem_toArray, List.getElem_cons_zero, List.getElem_cons_succ, List.setIfInBounds_toArray, List.set_cons_zero, List.set_cons_succ]
    refine wpAnyH_take (i := 2) (v := ?_) rfl (by kernel_rfl) (by kernel_rfl) (by kernel_rfl) (fun _ _ _ h => h) (Or.inl ⟨by rfl, ?_⟩) (by assumption) ?_
    rotate_left 1
    · first | (intro w hSw; go_simp; done) | (intro w hSw; go_simp; with_reducible rfl)
    try simp only [Act.put, List.getElem_toArray, List.getElem_cons_zero, List.getElem_cons_succ, List.setIfInBounds_toArray, List.set_cons_zero, List.set_cons_succ]
    refine wpAnyH_take (i := 3) (v := ?_) rfl (by kernel_rfl) (by kernel_rfl) (by kernel_rfl) (fun _ _ _ h => h) (Or.inl ⟨by rfl, ?_⟩) (by assumption) ?_
    rotate_left 1
    · first | (intro w hSw; go_simp; done) | (intro w hSw; go_simp; with_reducible rfl)
    try simp only [Act.put, List.getElem_toArray, List.getElem_cons_zero, List.getElem_cons_succ, List.setIfInBounds_toArray, List.set_cons_zero, List.set_cons_succ]
    refine wpAnyH_take (i := 6) (v := ?_) rfl (by kernel_rfl) (by kernel_rfl) (by kernel_rfl) (fun _ _ _ h => h) (Or.inl ⟨by rfl, ?_⟩) (by assumption) ?_
    rotate_left 1
    · first | (intro w hSw; go_simp; done) | (intro w hSw; go_simp; with_reducible rfl)
    try simp only [Act.put, List.getElem_toArray, List.getElem_cons_zero, List.getElem_cons_succ, List.setIfInBounds_toArray, List.set_cons_zero, List.set_cons_succ]
    refine wpAnyH_take (i := 7) (v := ?_) rfl (by kernel_rfl) (by kernel_rfl) (by kernel_rfl) (fun _ _ _ h => h) (Or.inl ⟨by rfl, ?_⟩) (by assumption) ?_
    rotate_left 1
    · first | (intro w hSw; obtain ⟨⟨c0, c1, c2, c3⟩, _⟩ := M_cells hSw.box; go_simp; done) | (intro w hSw; obtain ⟨⟨c0, c1, c2, c3⟩, _⟩ := M_cells hSw.box; go_simp; with_reducible rfl)
    try simp only [Act.put, List.getElem_toArray, List.getElem_cons_zero, List.getElem_cons_succ, List.setIfInBounds_toArray, List.set_cons_zero, List.set_cons_succ]
    refine wpAnyH_take (i := 8) (v := ?_) rfl (by kernel_rfl) (by kernel_rfl) (by kernel_rfl) (fun _ _ _ h => h) (Or.inl ⟨by rfl, ?_⟩) (by assumption) ?_
    rotate_left 1
    · first | (intro w hSw; go_simp; done) | (intro w hSw; go_simp; with_reducible rfl)
    try simp only [Act.put, List.getElem_toArray, List.getElem_cons_zero, List.getElem_cons_succ, List.setIfInBounds_toArray, List.set_cons_zero, List.set_cons_succ]
    refine wpAnyH_take (i := 9) (v := ?_) rfl (by kernel_rfl) (by kernel_rfl) (by kernel_rfl) (fun _ _ _ h => h) (Or.inl ⟨by rfl, ?_⟩) (by assumption) ?_
    rotate_left 1
    · first | (intro w hSw; obtain ⟨⟨c0, c1, c2, c3⟩, _⟩ := M_cells hSw.box; go_simp; done) | (intro w hSw; obtain ⟨⟨c0, c1, c2, c3⟩, _⟩ := M_cells hSw.box; go_simp; with_reducible rfl)
    try simp only [Act.put, List.getElem_toArray, List.getElem_cons_zero, List.getElem_cons_succ, List.setIfInBounds_toArray, List.set_cons_zero, List.set_cons_succ]
    refine wpAnyH_ready (rs := [4, 15]) (by kernel_rfl) (by simp) ?_
    refine AllReadyH.cons rfl (fun K hK => ?_) (AllReadyH.cons rfl (fun K hK => ?_) AllReadyH.nil)
    · go_simp
      refine hK.out _ _ (hHeld.alloc _) (fun hHeld => ?_)
      clear hK K
      try simp only [Act.put, List.getElem_toArray, List.getElem_cons_zero, List.getElem_cons_succ, List.setIfInBounds_toArray, List.set_cons_zero, List.set_cons_succ]
      replace HR2 := Aside0.mk (Kd.R_alloc HR2.out (.cells #[.int .i64 n] 3))
      refine wpAnyH_ready (rs := [5, 15]) (by kernel_rfl) (by simp) ?_
      refine AllReadyH.cons rfl (fun K hK => ?_) (AllReadyH.cons rfl (fun K hK => ?_) AllReadyH.nil)
      · refine Kd.R_append_rows_step (W := (w2.drew.alloc (.cells #[.int .i64 n] 3))) (w0 := (w2.drew.alloc (.cells #[.int .i64 n] 3))) (Kd.int .i64) (w.heap.size + 3) rfl _ _ 22 3 (.int .i64 0) 8 rfl Tryd.underlying22 info3 rfl (by decide) (by omega) (.slice A2 nd.heard.length k2) nd.heard [n] _ 1 1 (fun _ => True) (fun _ => False) rfl rfl HR2.out (lit_at _ 3 [n] (by simp) (by simp) rfl rfl) (fun _ _ h => h) (fun _ hk => hk.elim) (fun _ _ => trivial) (Below.refl _ _) hHeld.siz (by have := HH8.out; omega) ?_
        intro v3 w3 hr3 hb3 hg3 hat3
        rw [← HLH.out] at hr3
        obtain ⟨A3, k3, hv3, _, _⟩ := Kd.R_reads hr3
        subst hv3
        have HR3 := Aside0.mk hr3
        refine hK.out _ _ (hHeld.grow hb3) (fun hHeld => ?_)
        clear hK K hr3 hb3 hg3 hat3
        try simp only [Act.put, List.getElem_toArray, List.getElem_cons_zero, List.getElem_cons_succ, List.setIfInBounds_toArray, List.set_cons_zero, List.set_cons_succ]
        refine wpAnyH_take (i := 10) (v := ?_) rfl (by kernel_rfl) (by kernel_rfl) (by kernel_rfl) (fun _ _ _ h => h) (Or.inl ⟨by rfl, ?_⟩) (by assumption) ?_
        rotate_left 1
        · first | (intro w hSw; go_simp; done) | (intro w hSw; go_simp; with_reducible rfl)
        try simp only [Act.put, List.getElem_toArray, List.getElem_cons_zero, List.getElem_cons_succ, List.setIfInBounds_toArray, List.set_cons_zero, List.set_cons_succ]
        refine wpAnyH_ready (rs := [11, 15]) (by kernel_rfl) (by simp) ?_
        refine AllReadyH.cons rfl (fun K hK => ?_) (AllReadyH.cons rfl (fun K hK => ?_) AllReadyH.nil)
        · go_simp
          refine (refTell_calls _ { nd with heard := LH, bg := bb } HF.out A A3 C a k3 c (Kd.C_below H1.out hHeld.bel) (Kd.R_reads' HR3.out).2.2 (Kd.C_below H3.out hHeld.bel)).mono ?_
          intro e w4 hh
          simp only [] at hh
          rw [← HL.out, ← HT.out] at hh
          obtain ⟨A4, k4, A5, k5, rfl, r1, r2, hb⟩ := hh
          have R1 := Aside0.mk (Kd.R_lower (base' := w.heap.size + 3) r1 hHeld.siz)
          have R2 := Aside0.mk (Kd.R_lower (base' := w.heap.size + 3) r2 hHeld.siz)
          replace HR3 := Aside0.mk (Kd.R_below HR3.out hb)
          have hS4 := hHeld.grow (hb.mono hHeld.siz)
          go_simp
          refine hK.out _ _ hS4 (fun hHeld => ?_)
          have HS4 := Aside0.mk hS4
          clear hK K hb r1 r2 hS4
          try simp only [Act.put, List.getElem_toArray, List.getElem_cons_zero, List.getElem_cons_succ, List.setIfInBounds_toArray, List.set_cons_zero, List.set_cons_succ]
          refine wpAnyH_take (i := 12) (v := ?_) rfl (by kernel_rfl) (by kernel_rfl) (by kernel_rfl) (fun _ _ _ h => h) (Or.inl ⟨by rfl, ?_⟩) (by assumption) ?_
          rotate_left 1
          · first | (intro w hSw; go_simp; done) | (intro w hSw; go_simp; with_reducible rfl)
          try simp only [Act.put, List.getElem_toArray, List.getElem_cons_zero, List.getElem_cons_succ, List.setIfInBounds_toArray, List.set_cons_zero, List.set_cons_succ]
          refine wpAnyH_take (i := 13) (v := ?_) rfl (by kernel_rfl) (by kernel_rfl) (by kernel_rfl) (fun _ _ _ h => h) (Or.inl ⟨by rfl, ?_⟩) (by assumption) ?_
          rotate_left 1
          · first | (intro w hSw; go_simp; done) | (intro w hSw; go_simp; with_reducible rfl)
          try simp only [Act.put, List.getElem_toArray, List.getElem_cons_zero, List.getElem_cons_succ, List.setIfInBounds_toArray, List.set_cons_zero, List.set_cons_succ]
          refine wpAnyH_take (i := 14) (v := ?_) rfl (by kernel_rfl) (by kernel_rfl) (by kernel_rfl) (fun _ _ _ h => h) (Or.inl ⟨by rfl, ?_⟩) (by assumption) ?_
          rotate_left 1
          · first | (intro w hSw; go_simp; done) | (intro w hSw; go_simp; with_reducible rfl)
          try simp only [Act.put, List.getElem_toArray, List.getElem_cons_zero, List.getElem_cons_succ, List.setIfInBounds_toArray, List.set_cons_zero, List.set_cons_succ]
          refine wpAnyH_ready (rs := [15]) (by kernel_rfl) (by simp) ?_
          refine AllReadyH.cons rfl (fun K hK => ?_) AllReadyH.nil
          have HQG := Lib.hid (show w.heap.size + 3 ≤ w4.heap.size from (by have h9 := hHeld.siz; first | exact h9 | (simp at h9; omega)))
          go_simp
          refine hK.out _ _ (hHeld.alloc _) (fun hHeld => ?_)
          clear hK K
          try simp only [Act.put, List.getElem_toArray, List.getElem_cons_zero, List.getElem_cons_succ, List.setIfInBounds_toArray, List.set_cons_zero, List.set_cons_succ]
          have HQ := Aside0.mk (show (w4.alloc (.cells #[.slice none 0 0, .slice none 0 0, .slice none 0 0, .bool false] 31)).heap[w4.heap.size]? = some (.cells #[.slice none 0 0, .slice none 0 0, .slice none 0 0, .bool false] 31) from (by first | exact heap_alloc_new _ _ | exact heap_alloc_here _ _ _ (by simp)))
          obtain ⟨⟨g0, g1, g2, g3⟩, g4, g5, g6, g7⟩ := M_cells HQ.out
          refine wpAnyH_ready (rs := [16]) (by kernel_rfl) (by simp) ?_
          refine AllReadyH.cons rfl (fun K hK => ?_) AllReadyH.nil
          go_simp
          refine hK.out _ _ (HS4.out.alloc _) (fun hHeld => ?_)
          clear hK K
          try simp only [Act.put, List.getElem_toArray, List.getElem_cons_zero, List.getElem_cons_succ, List.setIfInBounds_toArray, List.set_cons_zero, List.set_cons_succ]
          refine wpAnyH_take (i := 17) (v := ?_) rfl (by kernel_rfl) (by kernel_rfl) (by kernel_rfl) (fun _ _ _ h => h) (Or.inl ⟨by rfl, ?_⟩) (by assumption) ?_
          rotate_left 1
          · first | (intro w hSw; go_simp; done) | (intro w hSw; go_simp; with_reducible rfl)
          try simp only [Act.put, List.getElem_toArray, List.getElem_cons_zero, List.getElem_cons_succ, List.setIfInBounds_toArray, List.set_cons_zero, List.set_cons_succ]
          refine wpAnyH_done (by kernel_rfl) ?_ _
          refine NoPanic.normal ?_
          go_wp2
          go_meet
          exact ⟨_, A3, k3, A4, k4, A5, k5, rfl, rfl, ⟨hHeld.bel, heap_alloc_new _ _, hHeld.z1, hHeld.z2, Kd.R_alloc HR3.out _, Kd.R_alloc R1.out _, Kd.R_alloc R2.out _⟩⟩
        · have HQG := Lib.hid (show w.heap.size + 3 ≤ w3.heap.size from (by have h9 := hHeld.siz; first | exact h9 | (simp at h9; omega)))
          have HN3 := Lib.hid (show ∀ k, (Value.slice A3 LH.length k3).ownBlock = some k → k ≠ w3.heap.size from fun k hk => (by have := ((Kd.R_bound HR3.out).1 k hk).2.2.1; omega))
          go_simp
          refine hK.out _ _ (hHeld.alloc _) (fun hHeld => ?_)
          clear hK K
          try simp only [Act.put, List.getElem_toArray, List.getElem_cons_zero, List.getElem_cons_succ, List.setIfInBounds_toArray, List.set_cons_zero, List.set_cons_succ]
          have HQ := Aside0.mk (show (w3.alloc (.cells #[.slice none 0 0, .slice none 0 0, .slice none 0 0, .bool false] 31)).heap[w3.heap.size]? = some (.cells #[.slice none 0 0, .slice none 0 0, .slice none 0 0, .bool false] 31) from (by first | exact heap_alloc_new _ _ | exact heap_alloc_here _ _ _ (by simp)))
          replace HR3 := Aside0.mk (Kd.R_alloc HR3.out (.cells #[.slice none 0 0, .slice none 0 0, .slice none 0 0, .bool false] 31))
          refine wpAnyH_ready (rs := [11]) (by kernel_rfl) (by simp) ?_
          refine AllReadyH.cons rfl (fun K hK => ?_) AllReadyH.nil
          go_simp
          refine (refTell_calls _ { nd with heard := LH, bg := bb } HF.out A A3 C a k3 c (Kd.C_below H1.out hHeld.bel) (Kd.R_reads' HR3.out).2.2 (Kd.C_below H3.out hHeld.bel)).mono ?_
          intro e w4 hh
          simp only [] at hh
          rw [← HL.out, ← HT.out] at hh
          obtain ⟨A4, k4, A5, k5, rfl, r1, r2, hb⟩ := hh
          have R1 := Aside0.mk (Kd.R_lower (base' := w.heap.size + 3) r1 hHeld.siz)
          have R2 := Aside0.mk (Kd.R_lower (base' := w.heap.size + 3) r2 hHeld.siz)
          have hql := blk_lt HQ.out
          have HN1 := Lib.hid (show ∀ k, (Value.slice A4 L.length k4).ownBlock = some k → k ≠ w3.heap.size from fun k hk => (by have := ((Kd.R_bound r1).1 k hk).2.1; omega))
          have HN2 := Lib.hid (show ∀ k, (Value.slice A5 T.length k5).ownBlock = some k → k ≠ w3.heap.size from fun k hk => (by have := ((Kd.R_bound r2).1 k hk).2.1; omega))
          clear hql
          replace HR3 := Aside0.mk (Kd.R_below HR3.out hb)
          have hS4 := hHeld.grow (hb.mono hHeld.siz)
          replace HQ := Aside0.mk ((hb.block _ (blk_lt HQ.out)).trans HQ.out)
          go_simp
          refine hK.out _ _ hS4 (fun hHeld => ?_)
          have HS4 := Aside0.mk hS4
          clear hK K hb r1 r2 hS4
          try simp only [Act.put, List.getElem_toArray, List.getElem_cons_zero, List.getElem_cons_succ, List.setIfInBounds_toArray, List.set_cons_zero, List.set_cons_succ]
          refine wpAnyH_take (i := 12) (v := ?_) rfl (by kernel_rfl) (by kernel_rfl) (by kernel_rfl) (fun _ _ _ h => h) (Or.inl ⟨by rfl, ?_⟩) (by assumption) ?_
          rotate_left 1
          · first | (intro w hSw; go_simp; done) | (intro w hSw; go_simp; with_reducible rfl)
          try simp only [Act.put, List.getElem_toArray, List.getElem_cons_zero, List.getElem_cons_succ, List.setIfInBounds_toArray, List.set_cons_zero, List.set_cons_succ]
          refine wpAnyH_take (i := 13) (v := ?_) rfl (by kernel_rfl) (by kernel_rfl) (by kernel_rfl) (fun _ _ _ h => h) (Or.inl ⟨by rfl, ?_⟩) (by assumption) ?_
          rotate_left 1
          · first | (intro w hSw; go_simp; done) | (intro w hSw; go_simp; with_reducible rfl)
          try simp only [Act.put, List.getElem_toArray, List.getElem_cons_zero, List.getElem_cons_succ, List.setIfInBounds_toArray, List.set_cons_zero, List.set_cons_succ]
          refine wpAnyH_take (i := 14) (v := ?_) rfl (by kernel_rfl) (by kernel_rfl) (by kernel_rfl) (fun _ _ _ h => h) (Or.inl ⟨by rfl, ?_⟩) (by assumption) ?_
          rotate_left 1
          · first | (intro w hSw; go_simp; done) | (intro w hSw; go_simp; with_reducible rfl)
          try simp only [Act.put, List.getElem_toArray, List.getElem_cons_zero, List.getElem_cons_succ, List.setIfInBounds_toArray, List.set_cons_zero, List.set_cons_succ]
          obtain ⟨⟨g0, g1, g2, g3⟩, g4, g5, g6, g7⟩ := M_cells HQ.out
          refine wpAnyH_ready (rs := [16]) (by kernel_rfl) (by simp) ?_
          refine AllReadyH.cons rfl (fun K hK => ?_) AllReadyH.nil
          go_simp
          refine hK.out _ _ (HS4.out.put HQG.out _ _ _ _) (fun hHeld => ?_)
          clear hK K
          try simp only [Act.put, List.getElem_toArray, List.getElem_cons_zero, List.getElem_cons_succ, List.setIfInBounds_toArray, List.set_cons_zero, List.set_cons_succ]
          refine wpAnyH_take (i := 17) (v := ?_) rfl (by kernel_rfl) (by kernel_rfl) (by kernel_rfl) (fun _ _ _ h => h) (Or.inl ⟨by rfl, ?_⟩) (by assumption) ?_
          rotate_left 1
          · first | (intro w hSw; go_simp; done) | (intro w hSw; go_simp; with_reducible rfl)
          try simp only [Act.put, List.getElem_toArray, List.getElem_cons_zero, List.getElem_cons_succ, List.setIfInBounds_toArray, List.set_cons_zero, List.set_cons_succ]
          refine wpAnyH_done (by kernel_rfl) ?_ _
          refine NoPanic.normal ?_
          go_wp2
          go_meet
          exact ⟨_, A3, k3, A4, k4, A5, k5, rfl, rfl, ⟨hHeld.bel, M_put HQ.out _ _ _ _, hHeld.z1, hHeld.z2, R_farq HR3.out HN3.out _ _ _ _, R_farq R1.out HN1.out _ _ _ _, R_farq R2.out HN2.out _ _ _ _⟩⟩
      · have HQG := Lib.hid (show w.heap.size + 3 ≤ w2.heap.size + 1 from (by have h9 := hHeld.siz; first | exact h9 | (simp at h9; omega)))
        go_simp
        refine hK.out _ _ (hHeld.alloc _) (fun hHeld => ?_)
        clear hK K
        try simp only [Act.put, List.getElem_toArray, List.getElem_cons_zero, List.getElem_cons_succ, List.setIfInBounds_toArray, List.set_cons_zero, List.set_cons_succ]
        have HQ := Aside0.mk (show ((w2.drew.alloc (.cells #[.int .i64 n] 3)).alloc (.cells #[.slice none 0 0, .slice none 0 0, .slice none 0 0, .bool false] 31)).heap[w2.heap.size + 1]? = some (.cells #[.slice none 0 0, .slice none 0 0, .slice none 0 0, .bool false] 31) from (by first | exact heap_alloc_new _ _ | exact heap_alloc_here _ _ _ (by simp)))
        replace HR2 := Aside0.mk (Kd.R_alloc HR2.out (.cells #[.slice none 0 0, .slice none 0 0, .slice none 0 0, .bool false] 31))
        refine wpAnyH_ready (rs := [5]) (by kernel_rfl) (by simp) ?_
        refine AllReadyH.cons rfl (fun K hK => ?_) AllReadyH.nil
        refine Kd.R_append_rows_step (W := ((w2.drew.alloc (.cells #[.int .i64 n] 3)).alloc (.cells #[.slice none 0 0, .slice none 0 0, .slice none 0 0, .bool false] 31))) (w0 := ((w2.drew.alloc (.cells #[.int .i64 n] 3)).alloc (.cells #[.slice none 0 0, .slice none 0 0, .slice none 0 0, .bool false] 31))) (Kd.int .i64) (w.heap.size + 3) rfl _ _ 22 3 (.int .i64 0) 8 rfl Tryd.underlying22 info3 rfl (by decide) (by omega) (.slice A2 nd.heard.length k2) nd.heard [n] _ 1 1 (fun _ => True) (fun _ => False) rfl rfl HR2.out (Kd.C_alloc (lit_at _ 3 [n] (by simp) (by simp) rfl rfl) _) (fun _ _ h => h) (fun _ hk => hk.elim) (fun _ _ => trivial) (Below.refl _ _) hHeld.siz (by have := HH8.out; omega) ?_
        intro v3 w3 hr3 hb3 hg3 hat3
        rw [← HLH.out] at hr3
        obtain ⟨A3, k3, hv3, _, _⟩ := Kd.R_reads hr3
        subst hv3
        have HR3 := Aside0.mk hr3
        have hql := blk_lt HQ.out
        have HN3 := Lib.hid (show ∀ k, (Value.slice A3 LH.length k3).ownBlock = some k → k ≠ w2.heap.size + 1 from fun k hk => hat3.elim (fun e => (by rw [e] at hk; have := HA2.out k hk; omega)) (fun ⟨b9, e, h9⟩ => (by rw [e] at hk; injection hk with hk; omega)))
        clear hql
        replace HQ := Aside0.mk ((hg3.block _ (blk_lt HQ.out) (fun e => by first | (have := HA2.out _ e; simp at this; done) | (have := HA2.out _ e.symm; simp at this; done) | (have := HA2.out _ e; omega) | (have := HA2.out _ e.symm; omega))).trans HQ.out)
        refine hK.out _ _ (hHeld.grow hb3) (fun hHeld => ?_)
        clear hK K hr3 hb3 hg3 hat3
        try simp only [Act.put, List.getElem_toArray, List.getElem_cons_zero, List.getElem_cons_succ, List.setIfInBounds_toArray, List.set_cons_zero, List.set_cons_succ]
        refine wpAnyH_take (i := 10) (v := ?_) rfl (by kernel_rfl) (by kernel_rfl) (by kernel_rfl) (fun _ _ _ h => h) (Or.inl ⟨by rfl, ?_⟩) (by assumption) ?_
        rotate_left 1
        · first | (intro w hSw; go_simp; done) | (intro w hSw; go_simp; with_reducible rfl)
        try simp only [Act.put, List.getElem_toArray, List.getElem_cons_zero, List.getElem_cons_succ, List.setIfInBounds_toArray, List.set_cons_zero, List.set_cons_succ]
        refine wpAnyH_ready (rs := [11]) (by kernel_rfl) (by simp) ?_
        refine AllReadyH.cons rfl (fun K hK => ?_) AllReadyH.nil
        go_simp
        refine (refTell_calls _ { nd with heard := LH, bg := bb } HF.out A A3 C a k3 c (Kd.C_below H1.out hHeld.bel) (Kd.R_reads' HR3.out).2.2 (Kd.C_below H3.out hHeld.bel)).mono ?_
        intro e w4 hh
        simp only [] at hh
        rw [← HL.out, ← HT.out] at hh
        obtain ⟨A4, k4, A5, k5, rfl, r1, r2, hb⟩ := hh
        have R1 := Aside0.mk (Kd.R_lower (base' := w.heap.size + 3) r1 hHeld.siz)
        have R2 := Aside0.mk (Kd.R_lower (base' := w.heap.size + 3) r2 hHeld.siz)
        have hql := blk_lt HQ.out
        have HN1 := Lib.hid (show ∀ k, (Value.slice A4 L.length k4).ownBlock = some k → k ≠ w2.heap.size + 1 from fun k hk => (by have := ((Kd.R_bound r1).1 k hk).2.1; omega))
        have HN2 := Lib.hid (show ∀ k, (Value.slice A5 T.length k5).ownBlock = some k → k ≠ w2.heap.size + 1 from fun k hk => (by have := ((Kd.R_bound r2).1 k hk).2.1; omega))
        clear hql
        replace HR3 := Aside0.mk (Kd.R_below HR3.out hb)
        have hS4 := hHeld.grow (hb.mono hHeld.siz)
        replace HQ := Aside0.mk ((hb.block _ (blk_lt HQ.out)).trans HQ.out)
        go_simp
        refine hK.out _ _ hS4 (fun hHeld => ?_)
        have HS4 := Aside0.mk hS4
        clear hK K hb r1 r2 hS4
        try simp only [Act.put, List.getElem_toArray, List.getElem_cons_zero, List.getElem_cons_succ, List.setIfInBounds_toArray, List.set_cons_zero, List.set_cons_succ]
        refine wpAnyH_take (i := 12) (v := ?_) rfl (by kernel_rfl) (by kernel_rfl) (by kernel_rfl) (fun _ _ _ h => h) (Or.inl ⟨by rfl, ?_⟩) (by assumption) ?_
        rotate_left 1
        · first | (intro w hSw; go_simp; done) | (intro w hSw; go_simp; with_reducible rfl)
        try simp only [Act.put, List.getElem_toArray, List.getElem_cons_zero, List.getElem_cons_succ, List.setIfInBounds_toArray, List.set_cons_zero, List.set_cons_succ]
        refine wpAnyH_take (i := 13) (v := ?_) rfl (by kernel_rfl) (by kernel_rfl) (by kernel_rfl) (fun _ _ _ h => h) (Or.inl ⟨by rfl, ?_⟩) (by assumption) ?_
        rotate_left 1
        · first | (intro w hSw; go_simp; done) | (intro w hSw; go_simp; with_reducible rfl)
        try simp only [Act.put, List.getElem_toArray, List.getElem_cons_zero, List.getElem_cons_succ, List.setIfInBounds_toArray, List.set_cons_zero, List.set_cons_succ]
        refine wpAnyH_take (i := 14) (v := ?_) rfl (by kernel_rfl) (by kernel_rfl) (by kernel_rfl) (fun _ _ _ h => h) (Or.inl ⟨by rfl, ?_⟩) (by assumption) ?_
        rotate_left 1
        · first | (intro w hSw; go_simp; done) | (intro w hSw; go_simp; with_reducible rfl)
        try simp only [Act.put, List.getElem_toArray, List.getElem_cons_zero, List.getElem_cons_succ, List.setIfInBounds_toArray, List.set_cons_zero, List.set_cons_succ]
        obtain ⟨⟨g0, g1, g2, g3⟩, g4, g5, g6, g7⟩ := M_cells HQ.out
        refine wpAnyH_ready (rs := [16]) (by kernel_rfl) (by simp) ?_
        refine AllReadyH.cons rfl (fun K hK => ?_) AllReadyH.nil
        go_simp
        refine hK.out _ _ (HS4.out.put HQG.out _ _ _ _) (fun hHeld => ?_)
        clear hK K
        try simp only [Act.put, List.getElem_toArray, List.getElem_cons_zero, List.getElem_cons_succ, List.setIfInBounds_toArray, List.set_cons_zero, List.set_cons_succ]
        refine wpAnyH_take (i := 17) (v := ?_) rfl (by kernel_rfl) (by kernel_rfl) (by kernel_rfl) (fun _ _ _ h => h) (Or.inl ⟨by rfl, ?_⟩) (by assumption) ?_
        rotate_left 1
        · first | (intro w hSw; go_simp; done) | (intro w hSw; go_simp; with_reducible rfl)
        try simp only [Act.put, List.getElem_toArray, List.getElem_cons_zero, List.getElem_cons_succ, List.setIfInBounds_toArray, List.set_cons_zero, List.set_cons_succ]
        refine wpAnyH_done (by kernel_rfl) ?_ _
        refine NoPanic.normal ?_
        go_wp2
        go_meet
        exact ⟨_, A3, k3, A4, k4, A5, k5, rfl, rfl, ⟨hHeld.bel, M_put HQ.out _ _ _ _, hHeld.z1, hHeld.z2, R_farq HR3.out HN3.out _ _ _ _, R_farq R1.out HN1.out _ _ _ _, R_farq R2.out HN2.out _ _ _ _⟩⟩
    · have HQG := Lib.hid (show w.heap.size + 3 ≤ w2.heap.size from (by have h9 := hHeld.siz; first | exact h9 | (simp at h9; omega)))
      go_simp
      refine hK.out _ _ (hHeld.alloc _) (fun hHeld => ?_)
      clear hK K
      try simp only [Act.put, List.getElem_toArray, List.getElem_cons_zero, List.getElem_cons_succ, List.setIfInBounds_toArray, List.set_cons_zero, List.set_cons_succ]
      have HQ := Aside0.mk (show (w2.drew.alloc (.cells #[.slice none 0 0, .slice none 0 0, .slice none 0 0, .bool false] 31)).heap[w2.heap.size]? = some (.cells #[.slice none 0 0, .slice none 0 0, .slice none 0 0, .bool false] 31) from (by first | exact heap_alloc_new _ _ | exact heap_alloc_here _ _ _ (by simp)))
      replace HR2 := Aside0.mk (Kd.R_alloc HR2.out (.cells #[.slice none 0 0, .slice none 0 0, .slice none 0 0, .bool false] 31))
      refine wpAnyH_ready (rs := [4]) (by kernel_rfl) (by simp) ?_
      refine AllReadyH.cons rfl (fun K hK => ?_) AllReadyH.nil
      go_simp
      refine hK.out _ _ (hHeld.alloc _) (fun hHeld => ?_)
      clear hK K
      try simp only [Act.put, List.getElem_toArray, List.getElem_cons_zero, List.getElem_cons_succ, List.setIfInBounds_toArray, List.set_cons_zero, List.set_cons_succ]
      replace HR2 := Aside0.mk (Kd.R_alloc HR2.out (.cells #[.int .i64 n] 3))
      replace HQ := Aside0.mk ((heap_alloc_old _ (.cells #[.int .i64 n] 3) _ (blk_lt HQ.out)).trans HQ.out)
      refine wpAnyH_ready (rs := [5]) (by kernel_rfl) (by simp) ?_
      refine AllReadyH.cons rfl (fun K hK => ?_) AllReadyH.nil
      refine Kd.R_append_rows_step (W := ((w2.drew.alloc (.cells #[.slice none 0 0, .slice none 0 0, .slice none 0 0, .bool false] 31)).alloc (.cells #[.int .i64 n] 3))) (w0 := ((w2.drew.alloc (.cells #[.slice none 0 0, .slice none 0 0, .slice none 0 0, .bool false] 31)).alloc (.cells #[.int .i64 n] 3))) (Kd.int .i64) (w.heap.size + 3) rfl _ _ 22 3 (.int .i64 0) 8 rfl Tryd.underlying22 info3 rfl (by decide) (by omega) (.slice A2 nd.heard.length k2) nd.heard [n] _ 1 1 (fun _ => True) (fun _ => False) rfl rfl HR2.out (lit_at _ 3 [n] (by simp) (by simp) rfl rfl) (fun _ _ h => h) (fun _ hk => hk.elim) (fun _ _ => trivial) (Below.refl _ _) hHeld.siz (by have := HH8.out; omega) ?_
      intro v3 w3 hr3 hb3 hg3 hat3
      rw [← HLH.out] at hr3
      obtain ⟨A3, k3, hv3, _, _⟩ := Kd.R_reads hr3
      subst hv3
      have HR3 := Aside0.mk hr3
      have hql := blk_lt HQ.out
      have HN3 := Lib.hid (show ∀ k, (Value.slice A3 LH.length k3).ownBlock = some k → k ≠ w2.heap.size from fun k hk => hat3.elim (fun e => (by rw [e] at hk; have := HA2.out k hk; omega)) (fun ⟨b9, e, h9⟩ => (by rw [e] at hk; injection hk with hk; omega)))
      clear hql
      replace HQ := Aside0.mk ((hg3.block _ (blk_lt HQ.out) (fun e => by first | (have := HA2.out _ e; simp at this; done) | (have := HA2.out _ e.symm; simp at this; done) | (have := HA2.out _ e; omega) | (have := HA2.out _ e.symm; omega))).trans HQ.out)
      refine hK.out _ _ (hHeld.grow hb3) (fun hHeld => ?_)
      clear hK K hr3 hb3 hg3 hat3
      try simp only [Act.put, List.getElem_toArray, List.getElem_cons_zero, List.getElem_cons_succ, List.setIfInBounds_toArray, List.set_cons_zero, List.set_cons_succ]
      refine wpAnyH_take (i := 10) (v := ?_) rfl (by kernel_rfl) (by kernel_rfl) (by kernel_rfl) (fun _ _ _ h => h) (Or.inl ⟨by rfl, ?_⟩) (by assumption) ?_
      rotate_left 1
      · first | (intro w hSw; go_simp; done) | (intro w hSw; go_simp; with_reducible rfl)
      try simp only [Act.put, List.getElem_toArray, List.getElem_cons_zero, List.getElem_cons_succ, List.setIfInBounds_toArray, List.set_cons_zero, List.set_cons_succ]
      refine wpAnyH_ready (rs := [11]) (by kernel_rfl) (by simp) ?_
      refine AllReadyH.cons rfl (fun K hK => ?_) AllReadyH.nil
      go_simp
      refine (refTell_calls _ { nd with heard := LH, bg := bb } HF.out A A3 C a k3 c (Kd.C_below H1.out hHeld.bel) (Kd.R_reads' HR3.out).2.2 (Kd.C_below H3.out hHeld.bel)).mono ?_
      intro e w4 hh
      simp only [] at hh
      rw [← HL.out, ← HT.out] at hh
      obtain ⟨A4, k4, A5, k5, rfl, r1, r2, hb⟩ := hh
      have R1 := Aside0.mk (Kd.R_lower (base' := w.heap.size + 3) r1 hHeld.siz)
      have R2 := Aside0.mk (Kd.R_lower (base' := w.heap.size + 3) r2 hHeld.siz)
      have hql := blk_lt HQ.out
      have HN1 := Lib.hid (show ∀ k, (Value.slice A4 L.length k4).ownBlock = some k → k ≠ w2.heap.size from fun k hk => (by have := ((Kd.R_bound r1).1 k hk).2.1; omega))
      have HN2 := Lib.hid (show ∀ k, (Value.slice A5 T.length k5).ownBlock = some k → k ≠ w2.heap.size from fun k hk => (by have := ((Kd.R_bound r2).1 k hk).2.1; omega))
      clear hql
      replace HR3 := Aside0.mk (Kd.R_below HR3.out hb)
      have hS4 := hHeld.grow (hb.mono hHeld.siz)
      replace HQ := Aside0.mk ((hb.block _ (blk_lt HQ.out)).trans HQ.out)
      go_simp
      refine hK.out _ _ hS4 (fun hHeld => ?_)
      have HS4 := Aside0.mk hS4
      clear hK K hb r1 r2 hS4
      try simp only [Act.put, List.getElem_toArray, List.getElem_cons_zero, List.getElem_cons_succ, List.setIfInBounds_toArray, List.set_cons_zero, List.set_cons_succ]
      refine wpAnyH_take (i := 12) (v := ?_) rfl (by kernel_rfl) (by kernel_rfl) (by kernel_rfl) (fun _ _ _ h => h) (Or.inl ⟨by rfl, ?_⟩) (by assumption) ?_
      rotate_left 1
      · first | (intro w hSw; go_simp; done) | (intro w hSw; go_simp; with_reducible rfl)
      try simp only [Act.put, List.getElem_toArray, List.getElem_cons_zero, List.getElem_cons_succ, List.setIfInBounds_toArray, List.set_cons_zero, List.set_cons_succ]
      refine wpAnyH_take (i := 13) (v := ?_) rfl (by kernel_rfl) (by kernel_rfl) (by kernel_rfl) (fun _ _ _ h => h) (Or.inl ⟨by rfl, ?_⟩) (by assumption) ?_
      rotate_left 1
      · first | (intro w hSw; go_simp; done) | (intro w hSw; go_simp; with_reducible rfl)
      try simp only [Act.put, List.getElem_toArray, List.getElem_cons_zero, List.getElem_cons_succ, List.setIfInBounds_toArray, List.set_cons_zero, List.set_cons_succ]
      refine wpAnyH_take (i := 14) (v := ?_) rfl (by kernel_rfl) (by kernel_rfl) (by kernel_rfl) (fun _ _ _ h => h) (Or.inl ⟨by rfl, ?_⟩) (by assumption) ?_
      rotate_left 1
      · first | (intro w hSw; go_simp; done) | (intro w hSw; go_simp; with_reducible rfl)
      try simp only [Act.put, List.getElem_toArray, List.getElem_cons_zero, List.getElem_cons_succ, List.setIfInBounds_toArray, List.set_cons_zero, List.set_cons_succ]
      obtain ⟨⟨g0, g1, g2, g3⟩, g4, g5, g6, g7⟩ := M_cells HQ.out
      refine wpAnyH_ready (rs := [16]) (by kernel_rfl) (by simp) ?_
      refine AllReadyH.cons rfl (fun K hK => ?_) AllReadyH.nil
      go_simp
      refine hK.out _ _ (HS4.out.put HQG.out _ _ _ _) (fun hHeld => ?_)
      clear hK K
      try simp only [Act.put, List.getElem_toArray, List.getElem_cons_zero, List.getElem_cons_succ, List.setIfInBounds_toArray, List.set_cons_zero, List.set_cons_succ]
      refine wpAnyH_take (i := 17) (v := ?_) rfl (by kernel_rfl) (by kernel_rfl) (by kernel_rfl) (fun _ _ _ h => h) (Or.inl ⟨by rfl, ?_⟩) (by assumption) ?_
      rotate_left 1
      · first | (intro w hSw; go_simp; done) | (intro w hSw; go_simp; with_reducible rfl)
      try simp only [Act.put, List.getElem_toArray, List.getElem_cons_zero, List.getElem_cons_succ, List.setIfInBounds_toArray, List.set_cons_zero, List.set_cons_succ]
      refine wpAnyH_done (by kernel_rfl) ?_ _
      refine NoPanic.normal ?_
      go_wp2
      go_meet
      exact ⟨_, A3, k3, A4, k4, A5, k5, rfl, rfl, ⟨hHeld.bel, M_put HQ.out _ _ _ _, hHeld.z1, hHeld.z2, R_farq HR3.out HN3.out _ _ _ _, R_farq R1.out HN1.out _ _ _ _, R_farq R2.out HN2.out _ _ _ _⟩⟩
  case rest =>
    obtain ⟨q, A3, k3, A4, k4, A5, k5, rfl, rfl, hh⟩ := hcut
    obtain ⟨hb, hq, hq1, hq2, hr3, hr1, hr2⟩ := hh.out
    obtain ⟨⟨c0, c1, c2, c3⟩, _⟩ := M_cells hq
    obtain ⟨⟨g0, g1, g2, g3⟩, g4, g5, g6, g7⟩ := M_cells hq1
    have hE := put_both hq1 hq2 (by omega) (.slice A nd.near.length a) (.slice A3 LH.length k3) (.slice A4 L.length k4) (.bool bb)
    obtain ⟨⟨z0, z1, z2⟩, z3, z4, z5⟩ := E_cells (x := (0, 0)) hE
    have HP := Aside0.mk (M_put hq1 (.slice A nd.near.length a) (.slice A3 LH.length k3) (.slice A4 L.length k4) (.bool bb))
    have HE := Aside0.mk hE
    have HB := Aside0.mk hb
    have R3 := Aside0.mk hr3
    have R1 := Aside0.mk hr1
    have R2 := Aside0.mk hr2
    clear hh hb hq hq1 hq2 hr1 hr2 hr3 hE
    go_wp2
    (try simp only [Exit.inBlock, Exit.then])
    obtain ⟨⟨y0, y1, y2, y3⟩, _⟩ := M_cells (put_back HP.out (h := w.heap.size + 1 + 1) (by omega) (.bool false) (.slice none 0 0) (.int .i64 0))
    obtain ⟨⟨x0, x1, x2⟩, _⟩ := E_cells (x := (0, 0)) (E_put HE.out (.bool false) (.slice none 0 0) (.int .i64 0))
    refine bodyPost_ret (v := .tuple #[.agg #[.slice A nd.near.length a, .slice A3 LH.length k3, .slice A4 L.length k4, .bool bb], .slice A5 T.length k5, .agg #[.bool false, .slice none 0 0, .int .i64 0]]) (by simp [results, Tryd.results12, go_sem, y0, y1, y2, y3, x0, x1, x2]) rfl ⟨A3, k3, A4, k4, A5, k5, rfl, ?_, ?_, ?_, ?_⟩
    · exact Kd.R_lower (R_put7 R3.out (by omega) (by omega) _ _ _ _ _ _ _) (by omega)
    · exact Kd.R_lower (R_put7 R1.out (by omega) (by omega) _ _ _ _ _ _ _) (by omega)
    · exact Kd.R_lower (R_put7 R2.out (by omega) (by omega) _ _ _ _ _ _ _) (by omega)
    · exact below_put (below_put4 HB.out (by omega) _ _ _ _) (by omega) _ _ _
end Go.Proofs.YtpnokpoikhpiiaaDoor
