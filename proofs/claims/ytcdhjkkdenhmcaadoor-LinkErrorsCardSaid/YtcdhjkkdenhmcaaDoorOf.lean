/- aviarylaw01.Of: what an error tells, plainly. -/
import Derived.Test.YtcdhjkkdenhmcaaDoorAsHit
import Derived.Sort.AtCall
import Derived.Deep.RegionHeld3
import Derived.Deep.RegionLaw
namespace Go.Proofs.YtcdhjkkdenhmcaaDoor
open Go.RowKit Go.Proofs.YtcdhjkkdenhmcaaDoorW.PrintWords Go.Proofs.YtcdhjkkdenhmcaaDoorW.PrintLast Go.Proofs.YtcdhjkkdenhmcaaDoorW.PrintMore
set_option linter.unusedVariables false
set_option linter.unusedSimpArgs false
set_option maxRecDepth 100000 in
theorem of_nil (w : World) :
    Calls Tryd.prog 21 #[.nilIface] w fun e w' => e = .returned (.agg #[.bool false, .slice none 0 0, .int .i64 0]) ∧ Below w.heap.size w w' := by
  go_enter Tryd.func21, Tryd.ntmps21
  go_wp2
  (try simp only [Exit.inBlock, Exit.then])
  refine bodyPost_ret (v := .agg #[.bool false, .slice none 0 0, .int .i64 0]) (by simp [results, Tryd.results21, go_sem]) rfl ⟨rfl, ?_⟩
  repeat (first | exact Below.refl _ _ | refine below_alloc ?_ _)
set_option maxRecDepth 100000 in
set_option maxHeartbeats 2000000 in
theorem of_num (n : Int) (w : World) (hg : Laid w) :
    Calls Tryd.prog 21 #[.iface 32 (.int .i64 n)] w fun e w' => e = .returned (.agg #[.bool true, .slice none 0 0, .int .i64 n]) ∧ Below w.heap.size w w' := by
  have HG := Lib.hid hg
  clear hg
  go_enter Tryd.func21, Tryd.ntmps21
  go_wp2
  refine wp_loop_rounds 1 ?_
  rw [rounds_succ]
  go_wp2_with (first
    | (go_at_call_has 27 (Addr.mk (w.heap.size + 1 + 1 + 1 + 1 + 1 + 1) 0 none); refine (as_hitN n _ (.int .i64 0) _ ?_ ?_ ?_).mono ?_; exact HG.out.below (below_alloc (below_alloc (below_alloc (below_alloc (below_alloc (below_alloc (below_alloc (Below.refl _ _) _) _) _) _) _) _) _); go_simp; go_simp; rintro e w1 ⟨rfl, rfl⟩)
    | (go_at_call_has 27 (Addr.mk (w.heap.size + 1 + 1) 0 none); refine (as_missN n _ _ ?_).mono ?_; exact HG.out.below (below_alloc (below_alloc (below_alloc (Below.refl _ _) _) _) _); rintro e w1 ⟨rfl, rfl⟩))
  (try simp only [Exit.inBlock, Exit.then])
  refine bodyPost_ret (v := .agg #[.bool true, .slice none 0 0, .int .i64 n]) (by simp [results, Tryd.results21, go_sem]) rfl ⟨rfl, ?_⟩
  repeat (first | exact Below.refl _ _ | refine below_alloc ?_ _)
theorem alloc_size (W : World) (o : Obj) : (W.alloc o).heap.size = W.heap.size + 1 := by simp
theorem heap_alloc_old (W : World) (o : Obj) (i : Nat) (h : i < W.heap.size) : (W.alloc o).heap[i]? = W.heap[i]? := by
  show (W.heap.push o)[i]? = _
  rw [Array.getElem?_push, if_neg (by omega)]
theorem heap_alloc_here (W : World) (o : Obj) (i : Nat) (h : i = W.heap.size) : (W.alloc o).heap[i]? = some o := by
  subst h
  exact heap_alloc_new W o
/-- Behind nine blocks made later, an older cell is as it was. -/
theorem nine_cell {W : World} {p : Addr} {v : Value} (h : W.cell? p = some v) (o1 o2 o3 o4 o5 o6 o7 o8 o9 : Obj) : (((((((((W.alloc o1).alloc o2).alloc o3).alloc o4).alloc o5).alloc o6).alloc o7).alloc o8).alloc o9).cell? p = some v := by
  have hl := World.block_lt_of_cell? W p h
  have step : ∀ (U : World) (o : Obj), p.block < U.heap.size → U.cell? p = some v → (U.alloc o).cell? p = some v ∧ p.block < (U.alloc o).heap.size := fun U o h1 h2 => ⟨by rw [World.cell?_alloc_lt _ _ p h1]; exact h2, by rw [alloc_size]; omega⟩
  obtain ⟨c1, l1⟩ := step _ o1 hl h
  obtain ⟨c2, l2⟩ := step _ o2 l1 c1
  obtain ⟨c3, l3⟩ := step _ o3 l2 c2
  obtain ⟨c4, l4⟩ := step _ o4 l3 c3
  obtain ⟨c5, l5⟩ := step _ o5 l4 c4
  obtain ⟨c6, l6⟩ := step _ o6 l5 c5
  obtain ⟨c7, l7⟩ := step _ o7 l6 c6
  obtain ⟨c8, l8⟩ := step _ o8 l7 c7
  exact (step _ o9 l8 c8).1
theorem nine_frozen {W : World} {p : Addr} (hl : p.block < W.heap.size) (h : W.frozen? p = false) (o1 o2 o3 o4 o5 o6 o7 o8 o9 : Obj) : (((((((((W.alloc o1).alloc o2).alloc o3).alloc o4).alloc o5).alloc o6).alloc o7).alloc o8).alloc o9).frozen? p = false := by
  have step : ∀ (U : World) (o : Obj), p.block < U.heap.size → U.frozen? p = false → (U.alloc o).frozen? p = false ∧ p.block < (U.alloc o).heap.size := fun U o h1 h2 => ⟨by rw [World.frozen?_alloc_old _ _ p (by omega)]; exact h2, by rw [alloc_size]; omega⟩
  obtain ⟨c1, l1⟩ := step _ o1 hl h
  obtain ⟨c2, l2⟩ := step _ o2 l1 c1
  obtain ⟨c3, l3⟩ := step _ o3 l2 c2
  obtain ⟨c4, l4⟩ := step _ o4 l3 c3
  obtain ⟨c5, l5⟩ := step _ o5 l4 c4
  obtain ⟨c6, l6⟩ := step _ o6 l5 c5
  obtain ⟨c7, l7⟩ := step _ o7 l6 c6
  obtain ⟨c8, l8⟩ := step _ o8 l7 c7
  exact (step _ o9 l8 c8).1
theorem nine_blk {W : World} {g : Nat} {b : Obj} (h : W.heap[g]? = some b) (o1 o2 o3 o4 o5 o6 o7 o8 o9 : Obj) : (((((((((W.alloc o1).alloc o2).alloc o3).alloc o4).alloc o5).alloc o6).alloc o7).alloc o8).alloc o9).heap[g]? = some b := by
  have hl : g < W.heap.size := blk_lt h
  have step : ∀ (U : World) (o : Obj), g < U.heap.size → U.heap[g]? = some b → (U.alloc o).heap[g]? = some b ∧ g < (U.alloc o).heap.size := fun U o h1 h2 => ⟨(heap_alloc_old _ _ _ h1).trans h2, by rw [alloc_size]; omega⟩
  obtain ⟨c1, l1⟩ := step _ o1 hl h
  obtain ⟨c2, l2⟩ := step _ o2 l1 c1
  obtain ⟨c3, l3⟩ := step _ o3 l2 c2
  obtain ⟨c4, l4⟩ := step _ o4 l3 c3
  obtain ⟨c5, l5⟩ := step _ o5 l4 c4
  obtain ⟨c6, l6⟩ := step _ o6 l5 c5
  obtain ⟨c7, l7⟩ := step _ o7 l6 c6
  obtain ⟨c8, l8⟩ := step _ o8 l7 c7
  exact (step _ o9 l8 c8).1
theorem heap_alloc_get (W : World) (o : Obj) (i : Nat) : (W.alloc o).heap[i]? = if i = W.heap.size then some o else W.heap[i]? := by
  show (W.heap.push o)[i]? = _
  rw [Array.getElem?_push]
set_option maxRecDepth 100000 in
set_option maxHeartbeats 2000000 in
theorem of_at (g0 : Nat) (kind k n : Int) (w : World) (hg : Laid w) (hf : w.heap[g0]? = some (.cells #[.int .i64 kind, .int .i64 k, .iface 32 (.int .i64 n)] 64 (0, 0))) :
    Calls Tryd.prog 21 #[.iface 60 (.pointer (some ⟨g0, 0, none⟩))] w fun e w' => ∃ sv, e = .returned (.agg #[.bool true, sv, .int .i64 n]) ∧ (Kd.pair (Kd.int .i64) (Kd.int .i64)).R 59 w' w.heap.size (fun _ => True) sv [(kind, k)] ∧ Below w.heap.size w w' := by
  have HG := Lib.hid hg
  have hl : g0 < w.heap.size := blk_lt hf
  have c0 : w.cell? ⟨g0, 0, none⟩ = some (.int .i64 kind) := by simp [World.cell?, hf]
  have c1 : w.cell? ⟨g0, 1, none⟩ = some (.int .i64 k) := by simp [World.cell?, hf]
  have c2 : w.cell? ⟨g0, 2, none⟩ = some (.iface 32 (.int .i64 n)) := by simp [World.cell?, hf]
  clear hg hf
  go_enter Tryd.func21, Tryd.ntmps21
  go_wp2
  refine wp_loop_rounds 2 ?_
  rw [rounds_succ]
  go_wp2_with (first
    | (go_at_call_has 27 (Addr.mk (w.heap.size + 1 + 1) 0 none); refine (as_hitP ⟨g0, 0, none⟩ _ (.pointer none) _ ?_ ?_ ?_).mono ?_; exact HG.out.below (below_alloc (below_alloc (below_alloc (Below.refl _ _) _) _) _); go_simp; go_simp; rintro e w1 ⟨rfl, rfl⟩))
  go_cut [] (fun wx => Aside0 (Below w.heap.size w wx ∧ w.heap.size + 2 < wx.heap.size ∧ wx.heap[w.heap.size]? = some (.cells #[.bool false, .slice none 0 0, .int .i64 0] 34) ∧ wx.heap[w.heap.size + 2]? = some (.cells #[.pointer (some ⟨g0, 0, none⟩)] 60) ∧ ∃ Av cv, wx.heap[w.heap.size + 1]? = some (.cells #[.bool true, .slice Av 1 cv, .int .i64 0] 34) ∧ (Kd.pair (Kd.int .i64) (Kd.int .i64)).R 59 wx w.heap.size (fun b => w.heap.size + 7 ≤ b) (.slice Av 1 cv) [(kind, k)]))
  case first =>
    obtain ⟨X, hX⟩ : ∃ X : World, X = ((((((w.alloc (.cells #[.bool false, .slice none 0 0, .int .i64 0] 34)).alloc (.cells #[.bool true, .slice none 0 0, .int .i64 0] 34)).alloc (.cells #[.pointer (some ⟨g0, 0, none⟩)] 60)).alloc (.cells #[.pointer (some ⟨w.heap.size + 1 + 1, 0, none⟩)] 62)).alloc (.cells #[.pointer (some ⟨1, 62, none⟩), .pointer (some ⟨w.heap.size + 1 + 1 + 1, 0, none⟩), .int .u64 150] 75)).alloc (.cells #[.pointer (some ⟨1, 62, none⟩), .pointer (some ⟨w.heap.size + 1 + 1 + 1, 0, none⟩), .int .u64 150] 75)).alloc (.cells #[.pointer (some ⟨g0, 0, none⟩)] 60) := ⟨_, rfl⟩
    rw [← hX]
    have hXs : X.heap.size = w.heap.size + 7 := by rw [hX]; simp
    have hXb : Below w.heap.size w X := by rw [hX]; repeat (first | exact Below.refl _ _ | refine below_alloc ?_ _)
    have x0 : X.heap[w.heap.size]? = some (.cells #[.bool false, .slice none 0 0, .int .i64 0] 34) := by rw [hX, heap_alloc_old _ _ _ (by simp only [alloc_size]; omega), heap_alloc_old _ _ _ (by simp only [alloc_size]; omega), heap_alloc_old _ _ _ (by simp only [alloc_size]; omega), heap_alloc_old _ _ _ (by simp only [alloc_size]; omega), heap_alloc_old _ _ _ (by simp only [alloc_size]; omega), heap_alloc_old _ _ _ (by simp only [alloc_size]; omega)]; exact heap_alloc_here _ _ _ (by simp only [alloc_size])
    have x1 : X.heap[w.heap.size + 1]? = some (.cells #[.bool true, .slice none 0 0, .int .i64 0] 34) := by rw [hX, heap_alloc_old _ _ _ (by simp only [alloc_size]; omega), heap_alloc_old _ _ _ (by simp only [alloc_size]; omega), heap_alloc_old _ _ _ (by simp only [alloc_size]; omega), heap_alloc_old _ _ _ (by simp only [alloc_size]; omega), heap_alloc_old _ _ _ (by simp only [alloc_size]; omega)]; exact heap_alloc_here _ _ _ (by simp only [alloc_size])
    have x2 : X.heap[w.heap.size + 2]? = some (.cells #[.pointer (some ⟨g0, 0, none⟩)] 60) := by rw [hX, heap_alloc_old _ _ _ (by simp only [alloc_size]; omega), heap_alloc_old _ _ _ (by simp only [alloc_size]; omega), heap_alloc_old _ _ _ (by simp only [alloc_size]; omega), heap_alloc_old _ _ _ (by simp only [alloc_size]; omega)]; exact heap_alloc_here _ _ _ (by simp only [alloc_size])
    have hy0 : X.cell? ⟨w.heap.size + 1, 1, none⟩ = some (.slice none 0 0) := by unfold World.cell?; rw [x1]; rfl
    have hy1 : X.cell? ⟨w.heap.size + 1 + 1, 0, none⟩ = some (.pointer (some ⟨g0, 0, none⟩)) := by unfold World.cell?; rw [x2]; rfl
    have hy2 : X.cell? ⟨g0, 0, none⟩ = some (.int .i64 kind) := by rw [← c0]; unfold World.cell?; rw [hXb.block g0 hl]
    have hy3 : X.cell? ⟨g0, 1, none⟩ = some (.int .i64 k) := by rw [← c1]; unfold World.cell?; rw [hXb.block g0 hl]
    have hy4 : ∀ o, (X.alloc o).cell? ⟨w.heap.size + 1, 1, none⟩ = some (.slice none 0 0) := fun o => by rw [World.cell?_alloc_lt _ _ ⟨w.heap.size + 1, 1, none⟩ (by show w.heap.size + 1 < X.heap.size; omega)]; exact hy0
    have HX0 := Aside0.mk x0
    have HX1 := Aside0.mk x1
    have HX2 := Aside0.mk x2
    have HXS := Lib.hid hXs
    have HXB := Aside0.mk hXb
    clear x0 x1 x2 hXs hXb hX
    go_region_law (refine Kd.R_append_step (W := X.drew) (w0 := X.drew) (Kd.pair (Kd.int .i64) (Kd.int .i64)) (w.heap.size + 7) rfl _ _ 31 59 (.agg #[.int .i64 0, .int .i64 0]) 16 rfl Tryd.underlying31 (by kernel_rfl) rfl (by decide) (by omega) (.slice none 0 0) [] (kind, k) [.int .i64 kind, .int .i64 k] (fun _ => True) (fun _ => False) rfl rfl ⟨[.int .i64 kind], [.int .i64 k], rfl, rfl, rfl⟩ (fun _ hk => hk.elim) (fun _ _ => trivial) (Kd.R_nil _ _ _ _ _) (Below.refl _ _) (by have := HXS.out; simp; omega) (by decide) ?_; intro v1 w1 hr hb _ _; rw [List.nil_append] at hr; obtain ⟨Av, cv, rfl, _, _⟩ := Kd.R_reads hr; have HR := Aside0.mk hr; have HB := Aside0.mk hb; have hz : w1.heap[w.heap.size + 1]? = some (.cells #[.bool true, .slice none 0 0, .int .i64 0] 34) := (hb.block _ (by omega)).trans HX1.out; have hz0 : w1.cell? ⟨w.heap.size + 1, 1, none⟩ = some (.slice none 0 0) := (by unfold World.cell?; rw [hz]; rfl); have hz1 : w1.frozen? ⟨w.heap.size + 1, 1, none⟩ = false := (by unfold World.frozen?; rw [hz]; rfl); clear hr hb hz)
    all_goals
      go_wp2
      go_meet
    all_goals
      have hb1 : Below (w.heap.size + 7) X w1 := ⟨HB.out.os, HB.out.tape, HB.out.output, HB.out.size, HB.out.block⟩
      have hs1 := hb1.size
      have hs2 := HXS.out
      have hr' := Kd.R_lower (base' := w.heap.size) (Kd.R_mono (Kd.R_bound HR.out) (ok' := fun b => w.heap.size + 7 ≤ b) (fun b hb => hb.2.1)) (by omega)
      refine ⟨below_set (below_weaken HXB.out (by omega) hb1) (by show w.heap.size ≤ w.heap.size + 1; omega), ?_, ?_, ?_, Av, cv, ?_, ?_⟩
      · rw [show ∀ (W : World) (p : Addr) (u : Value), (W.setCell p u).heap.size = W.heap.size from fun W p u => by simp [World.setCell]]; omega
      · exact (Below.heap_setCell _ _ _ _ (by show w.heap.size ≠ w.heap.size + 1; omega)).trans ((hb1.block _ (by omega)).trans HX0.out)
      · exact (Below.heap_setCell _ _ _ _ (by show w.heap.size + 2 ≠ w.heap.size + 1; omega)).trans ((hb1.block _ (by omega)).trans HX2.out)
      · exact blk_set ((hb1.block _ (by omega)).trans HX1.out) 1 _
      · exact Kd.R_far hr' (fun b hb => by show b ≠ w.heap.size + 1; omega) _
  case rest =>
    obtain ⟨hb, hs, hr, hf1, Av, cv, he, hR⟩ := hcut.out
    have HBW := Aside0.mk hb
    have HRW := Aside0.mk hR
    have z0 : wc.cell? ⟨w.heap.size, 0, none⟩ = some (.bool false) := by unfold World.cell?; rw [hr]; rfl
    have z1 : wc.cell? ⟨w.heap.size, 1, none⟩ = some (.slice none 0 0) := by unfold World.cell?; rw [hr]; rfl
    have z2 : wc.cell? ⟨w.heap.size, 2, none⟩ = some (.int .i64 0) := by unfold World.cell?; rw [hr]; rfl
    have z3 : wc.frozen? ⟨w.heap.size, 0, none⟩ = false := by unfold World.frozen?; rw [hr]; rfl
    have z4 : wc.frozen? ⟨w.heap.size, 1, none⟩ = false := by unfold World.frozen?; rw [hr]; rfl
    have z5 : wc.frozen? ⟨w.heap.size, 2, none⟩ = false := by unfold World.frozen?; rw [hr]; rfl
    have e0 : wc.cell? ⟨w.heap.size + 1, 0, none⟩ = some (.bool true) := by unfold World.cell?; rw [he]; rfl
    have e1 : wc.cell? ⟨w.heap.size + 1, 1, none⟩ = some (.slice Av 1 cv) := by unfold World.cell?; rw [he]; rfl
    have e2 : wc.cell? ⟨w.heap.size + 1, 2, none⟩ = some (.int .i64 0) := by unfold World.cell?; rw [he]; rfl
    have e3 : wc.frozen? ⟨w.heap.size + 1, 2, none⟩ = false := by unfold World.frozen?; rw [he]; rfl
    have f0 : wc.cell? ⟨w.heap.size + 1 + 1, 0, none⟩ = some (.pointer (some ⟨g0, 0, none⟩)) := by unfold World.cell?; rw [show (⟨w.heap.size + 1 + 1, 0, none⟩ : Addr).block = w.heap.size + 2 from rfl, hf1]; rfl
    have q2 : wc.cell? ⟨g0, 2, none⟩ = some (.iface 32 (.int .i64 n)) := by rw [← c2]; unfold World.cell?; rw [hb.block g0 hl]
    have s1 : w.heap.size < wc.heap.size := by omega
    have s2 : w.heap.size + 1 < wc.heap.size := by omega
    have s3 : w.heap.size + 1 + 1 < wc.heap.size := by omega
    have me2 := nine_cell e2
    have me3 := nine_frozen (W := wc) (p := ⟨w.heap.size + 1, 2, none⟩) s2 e3
    have he' : ∀ (o1 o2 o3 o4 o5 o6 o7 o8 o9 : Obj) (u : Value), ((((((((((wc.alloc o1).alloc o2).alloc o3).alloc o4).alloc o5).alloc o6).alloc o7).alloc o8).alloc o9).setCell ⟨w.heap.size + 1, 2, none⟩ u).heap[w.heap.size + 1]? = some (.cells #[.bool true, .slice Av 1 cv, u] 34) := fun o1 o2 o3 o4 o5 o6 o7 o8 o9 u => blk_set (nine_blk he o1 o2 o3 o4 o5 o6 o7 o8 o9) 2 u
    have hr' : ∀ (o1 o2 o3 o4 o5 o6 o7 o8 o9 : Obj) (u : Value), ((((((((((wc.alloc o1).alloc o2).alloc o3).alloc o4).alloc o5).alloc o6).alloc o7).alloc o8).alloc o9).setCell ⟨w.heap.size + 1, 2, none⟩ u).heap[w.heap.size]? = some (.cells #[.bool false, .slice none 0 0, .int .i64 0] 34) := fun o1 o2 o3 o4 o5 o6 o7 o8 o9 u => (Below.heap_setCell _ _ _ _ (by show w.heap.size ≠ w.heap.size + 1; omega)).trans (nine_blk hr o1 o2 o3 o4 o5 o6 o7 o8 o9)
    have x0 : ∀ (o1 o2 o3 o4 o5 o6 o7 o8 o9 : Obj) (u : Value), ((((((((((wc.alloc o1).alloc o2).alloc o3).alloc o4).alloc o5).alloc o6).alloc o7).alloc o8).alloc o9).setCell ⟨w.heap.size + 1, 2, none⟩ u).cell? ⟨w.heap.size + 1, 0, none⟩ = some (.bool true) := fun o1 o2 o3 o4 o5 o6 o7 o8 o9 u => by unfold World.cell?; rw [he']; rfl
    have x1 : ∀ (o1 o2 o3 o4 o5 o6 o7 o8 o9 : Obj) (u : Value), ((((((((((wc.alloc o1).alloc o2).alloc o3).alloc o4).alloc o5).alloc o6).alloc o7).alloc o8).alloc o9).setCell ⟨w.heap.size + 1, 2, none⟩ u).cell? ⟨w.heap.size + 1, 1, none⟩ = some (.slice Av 1 cv) := fun o1 o2 o3 o4 o5 o6 o7 o8 o9 u => by unfold World.cell?; rw [he']; rfl
    have x2 : ∀ (o1 o2 o3 o4 o5 o6 o7 o8 o9 : Obj) (u : Value), ((((((((((wc.alloc o1).alloc o2).alloc o3).alloc o4).alloc o5).alloc o6).alloc o7).alloc o8).alloc o9).setCell ⟨w.heap.size + 1, 2, none⟩ u).cell? ⟨w.heap.size + 1, 2, none⟩ = some u := fun o1 o2 o3 o4 o5 o6 o7 o8 o9 u => by unfold World.cell?; rw [he']; rfl
    have y0 : ∀ (o1 o2 o3 o4 o5 o6 o7 o8 o9 : Obj) (u : Value), ((((((((((wc.alloc o1).alloc o2).alloc o3).alloc o4).alloc o5).alloc o6).alloc o7).alloc o8).alloc o9).setCell ⟨w.heap.size + 1, 2, none⟩ u).cell? ⟨w.heap.size, 0, none⟩ = some (.bool false) := fun o1 o2 o3 o4 o5 o6 o7 o8 o9 u => by unfold World.cell?; rw [hr']; rfl
    have y1 : ∀ (o1 o2 o3 o4 o5 o6 o7 o8 o9 : Obj) (u : Value), ((((((((((wc.alloc o1).alloc o2).alloc o3).alloc o4).alloc o5).alloc o6).alloc o7).alloc o8).alloc o9).setCell ⟨w.heap.size + 1, 2, none⟩ u).cell? ⟨w.heap.size, 1, none⟩ = some (.slice none 0 0) := fun o1 o2 o3 o4 o5 o6 o7 o8 o9 u => by unfold World.cell?; rw [hr']; rfl
    have y2 : ∀ (o1 o2 o3 o4 o5 o6 o7 o8 o9 : Obj) (u : Value), ((((((((((wc.alloc o1).alloc o2).alloc o3).alloc o4).alloc o5).alloc o6).alloc o7).alloc o8).alloc o9).setCell ⟨w.heap.size + 1, 2, none⟩ u).cell? ⟨w.heap.size, 2, none⟩ = some (.int .i64 0) := fun o1 o2 o3 o4 o5 o6 o7 o8 o9 u => by unfold World.cell?; rw [hr']; rfl
    have yf0 : ∀ (o1 o2 o3 o4 o5 o6 o7 o8 o9 : Obj) (u : Value), ((((((((((wc.alloc o1).alloc o2).alloc o3).alloc o4).alloc o5).alloc o6).alloc o7).alloc o8).alloc o9).setCell ⟨w.heap.size + 1, 2, none⟩ u).frozen? ⟨w.heap.size, 0, none⟩ = false := fun o1 o2 o3 o4 o5 o6 o7 o8 o9 u => by unfold World.frozen?; rw [hr']; rfl
    have yf1 : ∀ (o1 o2 o3 o4 o5 o6 o7 o8 o9 : Obj) (u : Value), ((((((((((wc.alloc o1).alloc o2).alloc o3).alloc o4).alloc o5).alloc o6).alloc o7).alloc o8).alloc o9).setCell ⟨w.heap.size + 1, 2, none⟩ u).frozen? ⟨w.heap.size, 1, none⟩ = false := fun o1 o2 o3 o4 o5 o6 o7 o8 o9 u => by unfold World.frozen?; rw [hr']; rfl
    have yf2 : ∀ (o1 o2 o3 o4 o5 o6 o7 o8 o9 : Obj) (u : Value), ((((((((((wc.alloc o1).alloc o2).alloc o3).alloc o4).alloc o5).alloc o6).alloc o7).alloc o8).alloc o9).setCell ⟨w.heap.size + 1, 2, none⟩ u).frozen? ⟨w.heap.size, 2, none⟩ = false := fun o1 o2 o3 o4 o5 o6 o7 o8 o9 u => by unfold World.frozen?; rw [hr']; rfl
    have hfin : ∀ (o1 o2 o3 o4 o5 o6 o7 o8 o9 : Obj) (u a b c : Value), (((((((((((((wc.alloc o1).alloc o2).alloc o3).alloc o4).alloc o5).alloc o6).alloc o7).alloc o8).alloc o9).setCell ⟨w.heap.size + 1, 2, none⟩ u).setCell ⟨w.heap.size, 0, none⟩ a).setCell ⟨w.heap.size, 1, none⟩ b).setCell ⟨w.heap.size, 2, none⟩ c).heap[w.heap.size]? = some (.cells #[a, b, c] 34) := fun o1 o2 o3 o4 o5 o6 o7 o8 o9 u a b c => blk_set (blk_set (blk_set (hr' o1 o2 o3 o4 o5 o6 o7 o8 o9 u) 0 a) 1 b) 2 c
    have fin0 : ∀ (o1 o2 o3 o4 o5 o6 o7 o8 o9 : Obj) (u a b c : Value), (((((((((((((wc.alloc o1).alloc o2).alloc o3).alloc o4).alloc o5).alloc o6).alloc o7).alloc o8).alloc o9).setCell ⟨w.heap.size + 1, 2, none⟩ u).setCell ⟨w.heap.size, 0, none⟩ a).setCell ⟨w.heap.size, 1, none⟩ b).setCell ⟨w.heap.size, 2, none⟩ c).cell? ⟨w.heap.size, 0, none⟩ = some a := fun o1 o2 o3 o4 o5 o6 o7 o8 o9 u a b c => by unfold World.cell?; rw [hfin]; rfl
    have fin1 : ∀ (o1 o2 o3 o4 o5 o6 o7 o8 o9 : Obj) (u a b c : Value), (((((((((((((wc.alloc o1).alloc o2).alloc o3).alloc o4).alloc o5).alloc o6).alloc o7).alloc o8).alloc o9).setCell ⟨w.heap.size + 1, 2, none⟩ u).setCell ⟨w.heap.size, 0, none⟩ a).setCell ⟨w.heap.size, 1, none⟩ b).setCell ⟨w.heap.size, 2, none⟩ c).cell? ⟨w.heap.size, 1, none⟩ = some b := fun o1 o2 o3 o4 o5 o6 o7 o8 o9 u a b c => by unfold World.cell?; rw [hfin]; rfl
    have fin2 : ∀ (o1 o2 o3 o4 o5 o6 o7 o8 o9 : Obj) (u a b c : Value), (((((((((((((wc.alloc o1).alloc o2).alloc o3).alloc o4).alloc o5).alloc o6).alloc o7).alloc o8).alloc o9).setCell ⟨w.heap.size + 1, 2, none⟩ u).setCell ⟨w.heap.size, 0, none⟩ a).setCell ⟨w.heap.size, 1, none⟩ b).setCell ⟨w.heap.size, 2, none⟩ c).cell? ⟨w.heap.size, 2, none⟩ = some c := fun o1 o2 o3 o4 o5 o6 o7 o8 o9 u a b c => by unfold World.cell?; rw [hfin]; rfl
    have FIN0 := Aside0.mk fin0
    have FIN1 := Aside0.mk fin1
    have FIN2 := Aside0.mk fin2
    clear fin0 fin1 fin2 hfin
    clear hcut hb hR hr he hf1 he' hr'
    go_wp2
    rw [rounds_succ]
    go_wp2_with (first
      | (go_at_call_has 27 (Addr.mk (wc.heap.size + 1 + 1 + 1 + 1) 0 none); refine (as_hitN n _ (.int .i64 0) _ ?_ ?_ ?_).mono ?_; exact (HG.out.below HBW.out).below (below_alloc (below_alloc (below_alloc (below_alloc (below_alloc (Below.refl _ _) _) _) _) _) _); go_simp; go_simp; rintro e w1 ⟨rfl, rfl⟩)
      | (go_at_call_has 27 (Addr.mk wc.heap.size 0 none); refine (as_missN n _ _ ?_).mono ?_; exact (HG.out.below HBW.out).below (below_alloc (Below.refl _ _) _); rintro e w1 ⟨rfl, rfl⟩))
    (try simp only [Exit.inBlock, Exit.then])
    have fin0 := FIN0.out
    have fin1 := FIN1.out
    have fin2 := FIN2.out
    refine bodyPost_ret (v := .agg #[.bool true, .slice Av 1 cv, .int .i64 n]) (by simp [results, Tryd.results21, go_sem, fin0, fin1, fin2]) rfl ⟨_, rfl, ?_, ?_⟩
    · have h0 := Kd.R_mono HRW.out (ok' := fun b => w.heap.size + 7 ≤ b ∨ False) (fun b hb => .inl hb)
      refine Kd.R_mono (ok := fun b => w.heap.size + 7 ≤ b) ?_ (fun _ _ => trivial)
      refine Kd.R_far (Kd.R_far (Kd.R_far (Kd.R_far (Kd.R_below HRW.out ?_) (fun b hb => ?_) _) (fun b hb => ?_) _) (fun b hb => ?_) _) (fun b hb => ?_) _
      · repeat (first | exact Below.refl _ _ | refine below_alloc ?_ _)
      · show b ≠ w.heap.size + 1; omega
      · show b ≠ w.heap.size; omega
      · show b ≠ w.heap.size; omega
      · show b ≠ w.heap.size; omega
    · refine below_set (below_set (below_set (below_set ?_ (by show w.heap.size ≤ w.heap.size + 1; omega)) (Nat.le_refl _)) (Nat.le_refl _)) (Nat.le_refl _)
      repeat (first | exact HBW.out | refine below_alloc ?_ _)
end Go.Proofs.YtcdhjkkdenhmcaaDoor
