/- The reference's Near; a wave for each member of a tree; a graph that came in, opened. -/
import Derived.Test.YtadaoplmicghcaaGreatDoorM2
import Derived.Test.YtadaoplmicghcaaGreatDoorMC
import Derived.BigRegion
import Derived.Deep.RegionWith
import Derived.Test.YtadaoplmicghcaaGreatDoorM1
import Derived.Deep.Slices
import Derived.Deep.Fields
import Derived.ChangeSame
namespace Go.Proofs.YtadaoplmicghcaaGreatDoor
open Go.RowKit Go.Proofs.YtadaoplmicghcaaGreatDoorW.PrintWords Go.Proofs.YtadaoplmicghcaaGreatDoorW.PrintLast Go.Proofs.YtadaoplmicghcaaGreatDoorW.PrintMore
set_option linter.unusedVariables false
set_option linter.unusedSimpArgs false
theorem R_typed_set {e base g j t : Nat} {w : World} {v : Value} {xs : List Int} {ok : Nat → Prop} {cs : Array Value} {x : Nat × Nat} (h : (Kd.int .i64).R e w base ok v xs) (hg : w.heap[g]? = some (.cells cs t x)) (hne : t ≠ e) (u : Value) : (Kd.int .i64).R e (w.setCell ⟨g, j, none⟩ u) base ok v xs :=
  Kd.R_mono (Kd.R_move (Kd.R_bound h) (fun k hk => Below.heap_setCell _ _ _ _ (fun he => by
    obtain ⟨_, _, _, q, hq, cells, hc⟩ := hk
    subst he
    rw [hg] at hc
    injection hc with hc
    injection hc with _ ht _
    have hq' : q = e := by simpa [Kd.int, Kd.scalar] using hq
    exact hne (ht.trans hq')))) (fun _ hk => hk.1)
theorem R_typed_put {e base g t : Nat} {w : World} {v : Value} {xs : List Int} {ok : Nat → Prop} {a b c : Value} (h : (Kd.int .i64).R e w base ok v xs) (hg : w.heap[g]? = some (.cells #[a, b, c] t)) (hne : t ≠ e) (a' b' c' : Value) :
    (Kd.int .i64).R e (((w.setCell ⟨g, 0, none⟩ a').setCell ⟨g, 1, none⟩ b').setCell ⟨g, 2, none⟩ c') base ok v xs :=
  R_typed_set (R_typed_set (R_typed_set h hg hne _) (blk_set hg 0 a') hne _) (blk_set (blk_set hg 0 a') 1 b') hne _
set_option maxRecDepth 100000 in
set_option maxHeartbeats 2000000 in
theorem near_calls (w : World) (A B : Option Addr) (n c d : Nat) (ls : List (Int × Int)) (u : Int) (hl : kLk.C w B ls.length ls) (hL : ∀ k ∈ ls, k.1 < k.2) (hlen : ls.length ≤ 1000) :
    Calls Tryz.prog 37 #[.agg #[.slice A n c, .slice B ls.length d], .int .i64 u] w fun e w' => ∃ v, e = .returned v ∧ (Kd.int .i64).R 3 w' w.heap.size (fun _ => True) v (near15 ls u) ∧ Below w.heap.size w w' := by
  have HL := Lib.hid hl
  have HLT := Lib.hid hL
  have HLS := Lib.hid hlen
  have hm2 : (ls.length : Int) ≤ 1000 := by omega
  clear hl hL hlen
  go_enter Tryz.func37, Tryz.ntmps37
  go_upto_region 1 with (fail)
  obtain ⟨wz, hwz⟩ : ∃ wz, wz = w.alloc (.cells #[.slice A n c, .slice B ls.length d] 25) := ⟨_, rfl⟩
  rw [← hwz]
  have HBG := Aside0.mk (show wz.heap[w.heap.size]? = some (.cells #[.slice A n c, .slice B ls.length d] 25 (0, 0)) by rw [hwz]; exact heap_alloc_new _ _)
  have HBW := Aside0.mk (show Below w.heap.size w wz by rw [hwz]; exact below_alloc (Below.refl _ _) _)
  have HLZ := Lib.hid (Kd.C_below HL.out HBW.out)
  clear hwz
  obtain ⟨g0, g1⟩ := P_cells (x := (0, 0)) HBG.out
  go_wp2
  clear g0 g1
  go_loopw [5, 11] (fun v5 v11 wr => ∃ j : Nat, v11 = .int .i64 j ∧ j ≤ ls.length ∧ Aside0 ((Kd.int .i64).R 3 wr wz.heap.size (fun _ => True) v5 (nearOf u (ls.take j))) ∧ Aside0 (Below wz.heap.size wz wr)) (fun _ v _ => ls.length - (intOf v).toNat)
  case atStart => exact ⟨0, rfl, Nat.zero_le _, ⟨Kd.R_nil _ _ _ _ _⟩, ⟨Below.refl _ _⟩⟩
  case round =>
    obtain ⟨j, rfl, hj, HK, HB⟩ := hrel
    by_cases hlt : j < ls.length
    · obtain ⟨ad, rfl, hc0, hc1⟩ := Lk_cell (Kd.C_below HLZ.out HB.out) hlt
      have h12 := HLT.out _ (lkAt_mem ls j hlt)
      have HNT := Lib.hid (nearOf_take u ls j hlt)
      have HPL := Lib.hid (show (nearOf u (ls.take j)).length ≤ 2 * ls.length by have := nearOf_len u (ls.take j); have := List.length_take_le' j ls; omega)
      obtain ⟨x, hx⟩ : ∃ x, x = lkAt ls j := ⟨_, rfl⟩
      obtain ⟨P, hP⟩ : ∃ P, P = nearOf u (ls.take j) := ⟨_, rfl⟩
      rw [← hx] at hc0 hc1 h12 HNT
      rw [← hP] at HNT HPL HK
      obtain ⟨x1, x2⟩ := x
      simp only [] at hc0 hc1 h12 HNT
      have j0 : (0 : Int) ≤ j := by omega
      have j1 : (j : Int) < ls.length := by omega
      have HLJ := Lib.hid hlt
      clear hlt hx hP
      go_upto_region 5 with (fail)
      obtain ⟨w0, hw0⟩ : ∃ w0, w0 = wr.alloc (.cells #[.int .i64 x1, .int .i64 x2] 86) := ⟨_, rfl⟩
      rw [← hw0]
      have HBX := Aside0.mk (show w0.heap[wr.heap.size]? = some (.cells #[.int .i64 x1, .int .i64 x2] 86 (0, 0)) by rw [hw0]; exact heap_alloc_new _ _)
      have HB0 := Aside0.mk (show Below wz.heap.size wz w0 by rw [hw0]; exact below_alloc HB.out _)
      have HK0 := Aside0.mk (Kd.R_alloc HK.out (.cells #[.int .i64 x1, .int .i64 x2] 86))
      rw [← hw0] at HK0
      clear hw0 hc0 hc1
      obtain ⟨b0, b1⟩ := P_cells (x := (0, 0)) HBX.out
      by_cases e1 : x1 = u
      · have e1b : (x1 == u) = true := by simpa using e1
        have e2b : (x2 == u) = false := beq_eq_false_iff_ne.2 (by omega)
        have HE := Lib.hid (show nearOf u (ls.take (j + 1)) = P ++ [x2] by rw [HNT.out, if_pos e1, if_neg (by omega)]; simp)
        clear e1
        go_wp2_with (at_builtin; refine Kd.R_append (Kd.int .i64) (w0 := wz) (W := w0) wz.heap.size rfl _ _ 22 3 (.int .i64 0) 8 rfl Tryz.underlying22 info3 rfl (by decide) (by omega) _ P x2 [.int .i64 x2] (fun _ => True) (fun _ => False) rfl rfl rfl (fun _ hk => hk.elim) (fun _ _ => trivial) (by exact HK0.out) HB0.out HB0.out.size (by have := HPL.out; have := HLS.out; omega) ?_; intro v3 w3 ho hb hg hat; have HK3 := Aside0.mk ho; have HB3 := Aside0.mk hb; have HBX3 := Aside0.mk ((hg.block _ (blk_lt HBX.out) (own_not HK0.out HBX.out (by decide))).trans HBX.out); clear ho hb hg hat; obtain ⟨c0, c1⟩ := P_cells (x := (0, 0)) HBX3.out)
        go_roundw
        case rel => exact ⟨j + 1, by go_num, by have := HLJ.out; omega, by rw [HE.out]; exact HK3, HB3⟩
        case measure => have := HLJ.out; simp [intOf]; omega
      · have e1b : (x1 == u) = false := by simpa using e1
        by_cases e2 : x2 = u
        · have e2b : (x2 == u) = true := by simpa using e2
          have HE := Lib.hid (show nearOf u (ls.take (j + 1)) = P ++ [x1] by rw [HNT.out, if_neg e1, if_pos e2]; simp)
          clear e1 e2
          go_wp2_with (at_builtin; refine Kd.R_append (Kd.int .i64) (w0 := wz) (W := w0) wz.heap.size rfl _ _ 22 3 (.int .i64 0) 8 rfl Tryz.underlying22 info3 rfl (by decide) (by omega) _ P x1 [.int .i64 x1] (fun _ => True) (fun _ => False) rfl rfl rfl (fun _ hk => hk.elim) (fun _ _ => trivial) (by exact HK0.out) HB0.out HB0.out.size (by have := HPL.out; have := HLS.out; omega) ?_; intro v3 w3 ho hb hg hat; have HK3 := Aside0.mk ho; have HB3 := Aside0.mk hb; have HBX3 := Aside0.mk ((hg.block _ (blk_lt HBX.out) (own_not HK0.out HBX.out (by decide))).trans HBX.out); clear ho hb hg hat; obtain ⟨c0, c1⟩ := P_cells (x := (0, 0)) HBX3.out)
          go_roundw
          case rel => exact ⟨j + 1, by go_num, by have := HLJ.out; omega, by rw [HE.out]; exact HK3, HB3⟩
          case measure => have := HLJ.out; simp [intOf]; omega
        · have e2b : (x2 == u) = false := by simpa using e2
          have HE := Lib.hid (show nearOf u (ls.take (j + 1)) = P by rw [HNT.out, if_neg e1, if_neg e2]; simp)
          clear e1 e2
          go_wp2
          go_roundw
          case rel => exact ⟨j + 1, by go_num, by have := HLJ.out; omega, by rw [HE.out]; exact HK0, HB0⟩
          case measure => have := HLJ.out; simp [intOf]; omega
    · have j1 : ¬ (j : Int) < ls.length := by omega
      have HH := Lib.hid (show nearOf u (ls.take j) = nearOf u ls by rw [List.take_of_length_le (by omega)])
      rw [HH.out] at HK
      obtain ⟨A5, c5, rfl⟩ := Kd.R_slice HK.out
      have HC5 := Lib.hid (Kd.R_reads' HK.out).2.2
      clear hlt
      go_wp2_with (go_at_call 61; refine (sorted_calls _ _ _ (nearOf u ls) HC5.out).mono ?_; rintro e w4 ⟨v, rfl, hR, hb⟩; have H4 := Aside0.mk (below_step (below_step HBW.out HB.out) hb); have HR4 := Aside0.mk (Kd.R_lower hR (below_step HBW.out HB.out).size); clear hR hb)
      go_ret
      exact ⟨_, rfl, HR4.out, H4.out⟩
set_option maxRecDepth 100000 in
/-- In a graph that is a tree, a member's neighbours are a graph's members all. -/
theorem members_calls (w : World) (A B C : Option Addr) (c d e : Nat) (ms : List Int) (ls : List (Int × Int)) (u : Int) (hr : (Kd.int .i64).C w A ms.length ms) (hl : kLk.C w B ls.length ls) (hT : IsTree ms ls) (hu : u ∈ ms) (hC : (Kd.int .i64).C w C [u].length [u]) :
    Calls Tryz.prog 36 #[.agg #[.slice A ms.length c, .slice B ls.length d], .slice C 1 e] w fun en w' => ∃ X n cc cd, en = .returned (.agg #[.bool false, .slice X n cc, .int .i64 cd]) ∧ Below w.heap.size w w' := by
  have HR := Lib.hid hr
  have HL := Lib.hid hl
  have HT := Lib.hid hT
  have HU := Lib.hid hu
  have HC := Lib.hid hC
  have hm : (ms.length : Int) ≤ 8 := by have := hT.m8; omega
  clear hr hl hT hu hC
  go_enter Tryz.func36, Tryz.ntmps36
  go_upto_region 1 with (fail)
  obtain ⟨wz, hwz⟩ : ∃ wz, wz = (w.alloc (.cells #[.slice A ms.length c, .slice B ls.length d] 25)).alloc (.cells #[.bool false, .slice none 0 0, .int .i64 0] 30) := ⟨_, rfl⟩
  rw [← hwz]
  have HSZ := Lib.hid (show wz.heap.size = w.heap.size + 1 + 1 by rw [hwz, alloc_sz, alloc_sz])
  have HBG := Aside0.mk (show wz.heap[w.heap.size]? = some (.cells #[.slice A ms.length c, .slice B ls.length d] 25 (0, 0)) by rw [hwz, heap_old _ _ _ (by rw [alloc_sz]; omega)]; exact heap_alloc_new _ _)
  have HEC := Aside0.mk (show wz.heap[w.heap.size + 1]? = some (.cells #[.bool false, .slice none 0 0, .int .i64 0] 30 (0, 0)) by rw [hwz]; have := heap_alloc_new (w.alloc (.cells #[.slice A ms.length c, .slice B ls.length d] 25)) (.cells #[.bool false, .slice none 0 0, .int .i64 0] 30); rw [alloc_sz] at this; exact this)
  have HBW := Aside0.mk (show Below w.heap.size w wz by rw [hwz]; exact below_alloc (below_alloc (Below.refl _ _) _) _)
  clear hwz
  obtain ⟨g0, g1⟩ := P_cells (x := (0, 0)) HBG.out
  go_upto_region 2 with (go_at_call 5; refine (check15_calls wz _ _ _ _ ms ls (Kd.C_below HR.out HBW.out) (Kd.C_below HL.out HBW.out)).mono ?_; rintro en w1 ⟨b, X, n, cc, cd, rfl, hb, hbl⟩; obtain rfl := hb.2 HT.out; have HB1 := Aside0.mk hbl; clear hb hbl)
  clear g0 g1
  obtain ⟨w2, hw2⟩ : ∃ w2, w2 = w1.alloc (.cells #[.bool false, .slice X n cc, .int .i64 cd] 30) := ⟨_, rfl⟩
  rw [← hw2]
  have HB2 := Aside0.mk (show Below wz.heap.size wz w2 by rw [hw2]; exact below_alloc HB1.out _)
  have HXC := Aside0.mk (show w2.heap[w1.heap.size]? = some (.cells #[.bool false, .slice X n cc, .int .i64 cd] 30 (0, 0)) by rw [hw2]; exact heap_alloc_new _ _)
  clear hw2
  have HBC := Aside0.mk (below_step HBW.out HB2.out)
  have HEC2 := Aside0.mk ((HB2.out.block _ (by rw [HSZ.out]; omega)).trans HEC.out)
  obtain ⟨g0, g1⟩ := P_cells (x := (0, 0)) ((HB2.out.block _ (by rw [HSZ.out]; omega)).trans HBG.out)
  obtain ⟨⟨e0, e1, e2⟩, _⟩ := E_cells (x := (0, 0)) HXC.out
  obtain ⟨adC, rfl, hcc⟩ := C_cell (Kd.C_below HC.out HBC.out) (show 0 < [u].length by simp)
  have hc0 : w2.cell? adC = some (.int .i64 u) := by simpa [Addr.add, rd] using hcc
  have hin : decide (u ∈ ms) = true := decide_eq_true HU.out
  clear hcc
  go_wp2
  go_loop [12] (fun v => ∃ k : Nat, k ≤ 1 ∧ v = .int .i64 k) (fun v => 1 - (intOf v).toNat)
  case atStart => exact ⟨0, by omega, rfl⟩
  case round =>
    obtain ⟨k, hk, rfl⟩ := hrel
    rcases (show k = 0 ∨ k = 1 by omega) with rfl | rfl
    · go_wp2_with (go_at_call 33; refine (has_calls w2 _ _ ms u (Kd.C_below HR.out HBC.out)).mono ?_; rintro en w5 ⟨rfl, rfl⟩; rw [hin])
      go_round
      case rel => exact ⟨1, by omega, by go_num⟩
      case measure => simp [intOf]
    · obtain ⟨⟨q0, q1, q2⟩, q3, q4, q5⟩ := E_cells (x := (0, 0)) HEC2.out
      go_wp2
      clear q0 q1 q2 q3 q4 q5
      (try simp only [Exit.inBlock, Exit.then])
      obtain ⟨⟨x0, x1, x2⟩, _⟩ := E_cells (x := (0, 0)) (E_put HEC2.out (.bool false) (.slice X n cc) (.int .i64 cd))
      exact bodyPost_ret (v := .agg #[.bool false, .slice X n cc, .int .i64 cd]) (by simp [results, Tryz.results36, go_sem, x0, x1, x2]) rfl (by first | exact ⟨_, _, _, _, rfl, below_put HBC.out (Nat.le_succ _) _ _ _⟩ | exact ⟨⟨_, _, _, _, rfl⟩, below_put HBC.out (Nat.le_succ _) _ _ _⟩)
set_option maxRecDepth 100000 in
theorem near2_calls (w : World) (A B : Option Addr) (c d : Nat) (ms : List Int) (ls : List (Int × Int)) (u : Int) (hr : (Kd.int .i64).C w A ms.length ms) (hl : kLk.C w B ls.length ls) (hT : IsTree ms ls) (hu : u ∈ ms) :
    Calls Tryz.prog 6 #[.agg #[.slice A ms.length c, .slice B ls.length d], .int .i64 u] w fun en w' => ∃ v X n cc cd, en = .returned (.tuple #[v, .agg #[.bool false, .slice X n cc, .int .i64 cd]]) ∧ (Kd.int .i64).R 3 w' w.heap.size (fun _ => True) v (near15 ls u) ∧ Below w.heap.size w w' := by
  have HR := Lib.hid hr
  have HL := Lib.hid hl
  have HT := Lib.hid hT
  have HU := Lib.hid hu
  clear hr hl hT hu
  go_enter Tryz.func6, Tryz.ntmps6
  go_upto_region 1 with (fail)
  obtain ⟨wz, hwz⟩ : ∃ wz, wz = (w.alloc (.cells #[.slice A ms.length c, .slice B ls.length d] 25)).alloc (.cells #[.bool false, .slice none 0 0, .int .i64 0] 30) := ⟨_, rfl⟩
  rw [← hwz]
  have HSZ := Lib.hid (show wz.heap.size = w.heap.size + 1 + 1 by rw [hwz, alloc_sz, alloc_sz])
  have HBG := Aside0.mk (show wz.heap[w.heap.size]? = some (.cells #[.slice A ms.length c, .slice B ls.length d] 25 (0, 0)) by rw [hwz, heap_old _ _ _ (by rw [alloc_sz]; omega)]; exact heap_alloc_new _ _)
  have HEC := Aside0.mk (show wz.heap[w.heap.size + 1]? = some (.cells #[.bool false, .slice none 0 0, .int .i64 0] 30 (0, 0)) by rw [hwz]; have := heap_alloc_new (w.alloc (.cells #[.slice A ms.length c, .slice B ls.length d] 25)) (.cells #[.bool false, .slice none 0 0, .int .i64 0] 30); rw [alloc_sz] at this; exact this)
  have HBW := Aside0.mk (show Below w.heap.size w wz by rw [hwz]; exact below_alloc (below_alloc (Below.refl _ _) _) _)
  clear hwz
  obtain ⟨g0, g1⟩ := P_cells (x := (0, 0)) HBG.out
  go_upto_region 2 with (go_at_call 36; refine (members_calls _ _ _ _ _ _ _ ms ls u (Kd.C_below HR.out (below_alloc HBW.out _)) (Kd.C_below HL.out (below_alloc HBW.out _)) HT.out HU.out (lit_at _ _ [u] (by simp) (by simp) rfl rfl)).mono ?_; rintro en w1 ⟨X, n, cc, cd, rfl, hbl⟩; have HB1 := Aside0.mk (below_first hbl); clear hbl)
  clear g0 g1
  obtain ⟨w2, hw2⟩ : ∃ w2, w2 = w1.alloc (.cells #[.bool false, .slice X n cc, .int .i64 cd] 30) := ⟨_, rfl⟩
  rw [← hw2]
  have HB2 := Aside0.mk (show Below wz.heap.size wz w2 by rw [hw2]; exact below_alloc HB1.out _)
  have HXC := Aside0.mk (show w2.heap[w1.heap.size]? = some (.cells #[.bool false, .slice X n cc, .int .i64 cd] 30 (0, 0)) by rw [hw2]; exact heap_alloc_new _ _)
  clear hw2
  have HBC := Aside0.mk (below_step HBW.out HB2.out)
  have HEC2 := Aside0.mk ((HB2.out.block _ (by rw [HSZ.out]; omega)).trans HEC.out)
  obtain ⟨g0, g1⟩ := P_cells (x := (0, 0)) ((HB2.out.block _ (by rw [HSZ.out]; omega)).trans HBG.out)
  obtain ⟨⟨e0, e1, e2⟩, _⟩ := E_cells (x := (0, 0)) HXC.out
  go_wp2_with (go_at_call 37; refine (near_calls w2 _ _ _ _ _ ls u (Kd.C_below HL.out HBC.out) (fun k hk => (lok_mem HT.out.lok k hk).1) (by have := HT.out.len; have := HT.out.m8; omega)).mono ?_; rintro en w3 ⟨v, rfl, hR, hbl⟩; have HR3 := Aside0.mk (Kd.R_lower hR HBC.out.size); have HB3 := Aside0.mk (below_step HBC.out hbl); have HEC3 := Aside0.mk ((hbl.block _ (blk_lt HEC2.out)).trans HEC2.out); clear hR hbl; obtain ⟨⟨q0, q1, q2⟩, q3, q4, q5⟩ := E_cells (x := (0, 0)) HEC3.out)
  clear q0 q1 q2 q3 q4 q5
  (try simp only [Exit.inBlock, Exit.then])
  obtain ⟨⟨x0, x1, x2⟩, _⟩ := E_cells (x := (0, 0)) (E_put HEC3.out (.bool false) (.slice none 0 0) (.int .i64 0))
  refine bodyPost_ret (v := .tuple #[_, .agg #[.bool false, .slice none 0 0, .int .i64 0]]) (by simp [results, Tryz.results6, go_sem, x0, x1, x2]; rfl) rfl ⟨_, _, _, _, _, rfl, ?_, below_put HB3.out (Nat.le_succ _) _ _ _⟩
  exact R_typed_put HR3.out HEC3.out (by decide) _ _ _
end Go.Proofs.YtadaoplmicghcaaGreatDoor
namespace Go.Proofs.YtadaoplmicghcaaGreatDoor
open Go.RowKit Go.Maps Go.Proofs.YtadaoplmicghcaaGreatDoorW.PrintWords Go.Proofs.YtadaoplmicghcaaGreatDoorW.PrintLast Go.Proofs.YtadaoplmicghcaaGreatDoorW.PrintMore
open WvTree WvSim
set_option linter.unusedVariables false
set_option linter.unusedSimpArgs false
theorem pw_rises {xs : List Int} (h : xs.Pairwise (· < ·)) (hb : ∀ x ∈ xs, 0 ≤ x ∧ x < 8) : Rises xs := by
  intro j hj
  have h1 := hb _ (rd_mem xs j hj)
  refine ⟨h1.1, h1.2, fun h0 => ?_⟩
  rw [rd_get xs j hj, rd_get xs (j - 1) (by omega)]
  exact List.pairwise_iff_getElem.1 h (j - 1) j (by omega) hj (by omega)
theorem IsTree.edge_in {ms : List Int} {ls : List (Int × Int)} (T : IsTree ms ls) {u v : Int} (h : WvTree.Edge ls u v) : u ∈ ms ∧ v ∈ ms := by
  have hL := lok_mem T.lok
  rcases h with h | h
  · exact ⟨(hL _ h).2.1, (hL _ h).2.2⟩
  · exact ⟨(hL _ h).2.2, (hL _ h).2.1⟩
theorem IsTree.near_mem {ms : List Int} {ls : List (Int × Int)} (T : IsTree ms ls) {u v : Int} : v ∈ near15 ls u ↔ WvTree.Edge ls u v := by
  unfold near15 sorted15
  rw [pickTo_mem, nearOf_mem]
  constructor
  · exact fun h => h.1
  · intro h
    have := MOk.range T.mok v (T.edge_in h).2
    exact ⟨h, by omega, by omega⟩
theorem IsTree.rises {ms : List Int} {ls : List (Int × Int)} (T : IsTree ms ls) (u : Int) : Rises (near15 ls u) :=
  pw_rises (pickTo_sorted _ _) (fun x hx => MOk.range T.mok x (T.edge_in (T.near_mem.1 hx)).2)
theorem IsTree.net {ms : List Int} {ls : List (Int × Int)} (T : IsTree ms ls) : Net (WvTree.Edge ls) ms (near15 ls) :=
  ⟨fun u _ => (T.rises u).nodup, fun u v _ => T.near_mem, WvTree.Edge.symm, fun a b h => (T.edge_in h).1⟩
/-- Where a wave lies: its cell, its range of blocks. -/
structure WI where
  p : Nat
  lo : Nat
  hi : Nat
instance : Inhabited WI := ⟨⟨0, 0, 0⟩⟩
def wAt (ws : List WI) (i : Nat) : WI := ws.getD i ⟨0, 0, 0⟩
theorem wAt_app_old {ws : List WI} {x : WI} {i : Nat} (h : i < ws.length) : wAt (ws ++ [x]) i = wAt ws i := by
  simp [wAt, List.getD_eq_getElem?_getD, List.getElem?_append_left h]
theorem wAt_app_new {ws : List WI} {x : WI} : wAt (ws ++ [x]) ws.length = x := by
  simp [wAt, List.getD_eq_getElem?_getD]
def InW (ws : List WI) (k : Nat) : Prop := ∃ i, i < ws.length ∧ In (wAt ws i).lo (wAt ws i).hi k
structure Waves (w : World) (base : Nat) (ws : List WI) (nd : Nat → Nd) : Prop where
  is : ∀ i, i < ws.length → IsWave w (wAt ws i).lo (wAt ws i).hi (nd i) (wAt ws i).p
  lo : ∀ i, i < ws.length → base ≤ (wAt ws i).lo
  hi : ∀ i, i < ws.length → (wAt ws i).hi ≤ w.heap.size
  sep : ∀ i j, i < j → j < ws.length → (wAt ws i).hi ≤ (wAt ws j).lo
theorem Waves.lt {w : World} {base : Nat} {ws : List WI} {nd : Nat → Nd} (h : Waves w base ws nd) {k : Nat} (hk : InW ws k) : base ≤ k ∧ k < w.heap.size := by
  obtain ⟨i, hi, h1, h2⟩ := hk
  exact ⟨Nat.le_trans (h.lo i hi) h1, Nat.lt_of_lt_of_le h2 (h.hi i hi)⟩
theorem Waves.move {w w1 : World} {base : Nat} {ws : List WI} {nd : Nat → Nd} (h : Waves w base ws nd) (hm : ∀ k, InW ws k → w1.heap[k]? = w.heap[k]?) (hs : w.heap.size ≤ w1.heap.size) : Waves w1 base ws nd :=
  ⟨fun i hi => (h.is i hi).move fun k hk => hm k ⟨i, hi, hk⟩, h.lo, fun i hi => Nat.le_trans (h.hi i hi) hs, h.sep⟩
theorem Waves.below {w w1 : World} {base : Nat} {ws : List WI} {nd : Nat → Nd} (h : Waves w base ws nd) (hb : Below w.heap.size w w1) : Waves w1 base ws nd := h.move (fun k hk => hb.block k (h.lt hk).2) hb.size
theorem Waves.apart {w : World} {base : Nat} {ws : List WI} {nd : Nat → Nd} (h : Waves w base ws nd) {i j k : Nat} (hi : i < ws.length) (hj : j < ws.length) (hij : i ≠ j) (h1 : In (wAt ws i).lo (wAt ws i).hi k) : ¬ In (wAt ws j).lo (wAt ws j).hi k := by
  intro h2
  rcases Nat.lt_or_ge i j with hlt | hge
  · have := h.sep i j hlt hj
    have := h1.2
    have := h2.1
    omega
  · have := h.sep j i (by omega) hi
    have := h2.2
    have := h1.1
    omega
def updN (nd : Nat → Nd) (i : Nat) (x : Nd) : Nat → Nd := fun j => if j = i then x else nd j
theorem Waves.one {w w1 : World} {base : Nat} {ws : List WI} {nd : Nat → Nd} (h : Waves w base ws nd) {i : Nat} (hi : i < ws.length) {x : Nd} (hx : IsWave w1 (wAt ws i).lo (wAt ws i).hi x (wAt ws i).p) (hk : Kept w w1 (In (wAt ws i).lo (wAt ws i).hi)) : Waves w1 base ws (updN nd i x) := by
  refine ⟨fun j hj => ?_, h.lo, fun j hj => Nat.le_trans (h.hi j hj) hk.1, h.sep⟩
  unfold updN
  by_cases e : j = i
  · subst e; rw [if_pos rfl]; exact hx
  · rw [if_neg e]
    exact (h.is j hj).move fun k hk' => hk.2 k (Nat.lt_of_lt_of_le hk'.2 (h.hi j hj)) (h.apart hj hi e hk')
theorem Waves.snoc {w : World} {base : Nat} {ws : List WI} {nd : Nat → Nd} (h : Waves w base ws nd) {x : WI} (hx : IsWave w x.lo x.hi (nd ws.length) x.p) (h1 : base ≤ x.lo) (h2 : x.hi ≤ w.heap.size) (h3 : ∀ i, i < ws.length → (wAt ws i).hi ≤ x.lo) : Waves w base (ws ++ [x]) nd := by
  refine ⟨fun i hi => ?_, fun i hi => ?_, fun i hi => ?_, fun i j hij hj => ?_⟩
  · by_cases e : i < ws.length
    · rw [wAt_app_old e]; exact h.is i e
    · have e2 : i = ws.length := by simp at hi; omega
      subst e2; rw [wAt_app_new]; exact hx
  · by_cases e : i < ws.length
    · rw [wAt_app_old e]; exact h.lo i e
    · have e2 : i = ws.length := by simp at hi; omega
      subst e2; rw [wAt_app_new]; exact h1
  · by_cases e : i < ws.length
    · rw [wAt_app_old e]; exact h.hi i e
    · have e2 : i = ws.length := by simp at hi; omega
      subst e2; rw [wAt_app_new]; exact h2
  · have hi2 : i < ws.length := by simp at hj; omega
    rw [wAt_app_old hi2]
    by_cases e : j < ws.length
    · rw [wAt_app_old e]; exact h.sep i j hij e
    · have e2 : j = ws.length := by simp at hj; omega
      subst e2; rw [wAt_app_new]; exact h3 i hi2
theorem Waves.ext {w : World} {base : Nat} {ws : List WI} {nd nd' : Nat → Nd} (h : Waves w base ws nd) (he : ∀ i, i < ws.length → nd' i = nd i) : Waves w base ws nd' := ⟨fun i hi => by rw [he i hi]; exact h.is i hi, h.lo, h.hi, h.sep⟩
/-- A row of pointers to waves. -/
def kP : Kd Nat := Kd.scalar (fun p => .pointer (some ⟨p, 0, none⟩)) (fun _ => rfl)
theorem P_at {w : World} {A : Option Addr} {ps : List Nat} (h : kP.C w A ps.length ps) {k : Nat} (hk : k < ps.length) : ∃ ad, A = some ad ∧ w.cell? (ad.add k) = some (.pointer (some ⟨ps.getD k 0, 0, none⟩)) := by
  obtain ⟨ad, c, e, _, hK, hc0⟩ := Kd.C_get h 0 (k : Int) (by omega) (by omega)
  have hc : c = [Value.pointer (some ⟨ps.getD (k : Int).toNat 0, 0, none⟩)] := hK
  subst hc
  have := hc0 0 _ rfl
  rw [Int.toNat_natCast] at this
  exact ⟨ad, e, by simpa [kP, Kd.scalar] using this⟩
theorem infoP : (Tryz.prog.info? 35).map (fun i => (i.zero, i.size, i.bytes)) = some (some (.pointer none), 1, 8) := by kernel_rfl
/-- A row of elements that lead nowhere is its own block alone. -/
theorem R_own_move {α : Type} {dd : Kd α} (hd : ∀ {w w1 : World} {base : Nat} {ok ok' : Nat → Prop} {x : α} {cs : List Value}, dd.M w base ok x cs → dd.M w1 base ok' x cs) {e base : Nat} {ok : Nat → Prop} {w w1 : World} {v : Value} {xs : List α} (h : dd.R e w base ok v xs) (hm : ∀ k, v.ownBlock = some k → w1.heap[k]? = w.heap[k]?) : dd.R e w1 base ok v xs := by
  obtain ⟨h0, inner, ho, hr⟩ := h
  exact ⟨h0, inner, own_move ho hm, hr.imp_ (fun _ _ hp => hd hp)⟩
theorem R_own_lt {α : Type} {dd : Kd α} {e base : Nat} {ok : Nat → Prop} {w : World} {v : Value} {xs : List α} (h : dd.R e w base ok v xs) {k : Nat} (hk : v.ownBlock = some k) : base ≤ k ∧ k < w.heap.size := by
  have := (Kd.R_bound h).1 k hk
  exact ⟨this.2.1, this.2.2.1⟩
end Go.Proofs.YtadaoplmicghcaaGreatDoor
namespace Go.Proofs.YtadaoplmicghcaaGreatDoor
open Go.RowKit Go.Maps Go.Proofs.YtadaoplmicghcaaGreatDoorW.PrintWords Go.Proofs.YtadaoplmicghcaaGreatDoorW.PrintLast Go.Proofs.YtadaoplmicghcaaGreatDoorW.PrintMore
open WvTree WvSim
set_option linter.unusedVariables false
set_option linter.unusedSimpArgs false
set_option maxRecDepth 100000 in
theorem place_calls (w : World) (A B : Option Addr) (c d e : Nat) (ms : List Int) (u : Int) (hr : (Kd.int .i64).C w A ms.length ms) (hu : u ∈ ms) :
    Calls Tryz.prog 13 #[.agg #[.slice A ms.length c, .slice B d e], .int .i64 u] w fun en w' => ∃ a : Nat, en = .returned (.int .i64 a) ∧ a < ms.length ∧ rd ms a = u ∧ Below w.heap.size w w' := by
  have HR := Lib.hid hr
  have HU := Lib.hid hu
  have hm : (ms.length : Int) ≤ 9223372036854775807 := by have : ms.length ≤ 9223372036854775807 := hr.2.1; omega
  clear hr hu
  go_enter Tryz.func13, Tryz.ntmps13
  go_upto_region 1 with (fail)
  obtain ⟨wz, hwz⟩ : ∃ wz, wz = w.alloc (.cells #[.slice A ms.length c, .slice B d e] 25) := ⟨_, rfl⟩
  rw [← hwz]
  have HBG := Aside0.mk (show wz.heap[w.heap.size]? = some (.cells #[.slice A ms.length c, .slice B d e] 25 (0, 0)) by rw [hwz]; exact heap_alloc_new _ _)
  have HBW := Aside0.mk (show Below w.heap.size w wz by rw [hwz]; exact below_alloc (Below.refl _ _) _)
  have HRZ := Lib.hid (Kd.C_below HR.out HBW.out)
  clear hwz
  obtain ⟨g0, g1⟩ := P_cells (x := (0, 0)) HBG.out
  go_wp2
  clear g0 g1
  go_loop [10] (fun v => ∃ k : Nat, k ≤ ms.length ∧ v = .int .i64 k ∧ Hid (u ∉ ms.take k)) (fun v => ms.length - (intOf v).toNat)
  case atStart => exact ⟨0, Nat.zero_le _, rfl, by unfold Hid; simp⟩
  case round =>
    obtain ⟨k, hk, rfl, hno⟩ := hrel
    by_cases hlt : k < ms.length
    · obtain ⟨ad, rfl, hc⟩ := C_cell HRZ.out hlt
      obtain ⟨x, hx⟩ : ∃ x, x = rd ms k := ⟨_, rfl⟩
      rw [← hx] at hc
      have k0 : (0 : Int) ≤ k := by omega
      have k1 : (k : Int) < ms.length := by omega
      have HLT := Lib.hid hlt
      have HX := Lib.hid hx
      by_cases e1 : x = u
      · have e1b : (x == u) = true := by simpa using e1
        have HE := Lib.hid e1
        clear e1 hlt hx
        go_wp2
        go_ret
        exact ⟨k, rfl, HLT.out, by rw [← HX.out]; exact HE.out, HBW.out⟩
      · have e1b : (x == u) = false := by simpa using e1
        have HN := Lib.hid (show u ∉ ms.take (k + 1) by
          rw [take_rd ms k hlt, List.mem_append, not_or]
          exact ⟨hno.out, by simp only [List.mem_singleton]; rw [← hx]; exact fun h => e1 h.symm⟩)
        clear e1 hlt hx
        go_wp2
        go_round
        case rel => exact ⟨k + 1, by have := HLT.out; omega, by go_num, HN⟩
        case measure => have := HLT.out; simp [intOf]; omega
    · exact absurd HU.out (by have := hno.out; rw [List.take_of_length_le (by omega)] at this; exact this)
/-- How many have begun. -/
def cnt (ms : List Int) (bg : Int → Bool) : Nat := (ms.filter bg).length
theorem cnt_le (ms : List Int) (bg : Int → Bool) : cnt ms bg ≤ ms.length := List.length_filter_le _ _
theorem cnt_all {ms : List Int} {bg : Int → Bool} (h : ∀ a, a ∈ ms → bg a = true) : cnt ms bg = ms.length := by
  unfold cnt
  rw [List.filter_eq_self.2 h]
theorem cnt_full {ms : List Int} {bg : Int → Bool} (h : cnt ms bg = ms.length) : ∀ a, a ∈ ms → bg a = true := by
  have : ms.filter bg = ms := List.filter_sublist.eq_of_length h
  exact List.filter_eq_self.1 this
theorem cnt_some {ms : List Int} {bg : Int → Bool} (h : cnt ms bg < ms.length) : ∃ i, i < ms.length ∧ bg (rd ms i) = false := by
  by_cases hx : ∃ i, i < ms.length ∧ bg (rd ms i) = false
  · exact hx
  · have : cnt ms bg = ms.length := cnt_all fun a ha => by
      obtain ⟨i, hi, rfl⟩ := List.getElem_of_mem ha
      by_cases hb : bg ms[i] = true
      · exact hb
      · exact absurd ⟨i, hi, by rw [rd_get ms i hi]; simpa using hb⟩ hx
    omega
theorem cnt_begin : ∀ {ms : List Int} {bg : Int → Bool} {u : Int}, ms.Nodup → u ∈ ms → bg u = false → cnt ms (upd bg u true) = cnt ms bg + 1
  | [], bg, u, _, hu, _ => by simp at hu
  | x :: ms, bg, u, hn, hu, hb => by
    have hn2 := List.nodup_cons.1 hn
    unfold cnt
    by_cases e : x = u
    · subst e
      rw [List.filter_cons_of_pos (by simp [upd]), List.filter_cons_of_neg (by simp [hb])]
      have : ms.filter (upd bg x true) = ms.filter bg := List.filter_congr fun a ha => by
        have hne : a ≠ x := by rintro rfl; exact hn2.1 ha
        simp [upd, hne]
      rw [this]
      rfl
    · have hu2 : u ∈ ms := by rcases List.mem_cons.1 hu with h | h; exact absurd h.symm e; exact h
      have ih := cnt_begin hn2.2 hu2 hb
      unfold cnt at ih
      by_cases hx : bg x = true
      · rw [List.filter_cons_of_pos (by simp [upd, e, hx]), List.filter_cons_of_pos hx]
        simp only [List.length_cons, ih]
      · rw [List.filter_cons_of_neg (by simp [upd, e, hx]), List.filter_cons_of_neg (by simp [hx])]
        exact ih
/-- The wave of the member at a place. -/
def ndOf (ms : List Int) (ls : List (Int × Int)) (s : St) (i : Nat) : Nd := ⟨near15 ls (rd ms i), s.heard (rd ms i), s.told (rd ms i), s.bg (rd ms i)⟩
section
variable {ms : List Int} {ls : List (Int × Int)} {s : St}
theorem Inv.fine (T : IsTree ms ls) (h : Inv (WvTree.Edge ls) ms (near15 ls) s) {u : Int} (hu : u ∈ ms) : Fine ⟨near15 ls u, s.heard u, s.told u, s.bg u⟩ :=
  ⟨(T.rises u).nodup, (T.rises u).bound, h.hn u hu, fun x hx => h.heard_near T.net hu hx, h.tn u hu, fun x hx => ((h.tm u x hu).1 hx).2.1⟩
theorem rd_inj (hm : ∀ j, j < ms.length → MOk ms j) {i j : Nat} (hi : i < ms.length) (hj : j < ms.length) (h : i ≠ j) : rd ms i ≠ rd ms j := by
  rcases Nat.lt_or_ge i j with hlt | hge
  · have := MOk.sorted hm i j hlt hj; omega
  · have := MOk.sorted hm j i (by omega) hi; omega
theorem ndOf_begin (T : IsTree ms ls) {a : Nat} (ha : a < ms.length) : ∀ i, i < ms.length → ndOf ms ls (begin_ (near15 ls) s (rd ms a)) i = updN (ndOf ms ls s) a { { ndOf ms ls s a with bg := true } with told := (ndOf ms ls s a).told ++ tells (ndOf ms ls s a).near (ndOf ms ls s a).heard (ndOf ms ls s a).told true } i := by
  intro i hi
  unfold updN
  by_cases e : i = a
  · subst e
    rw [if_pos rfl]
    simp [ndOf, begin_, upd]
  · rw [if_neg e]
    have := rd_inj T.mok hi ha e
    simp [ndOf, begin_, upd, this]
theorem ndOf_hear (T : IsTree ms ls) {a : Nat} (ha : a < ms.length) (x : Int) (t1 : List (Int × Int)) : ∀ i, i < ms.length → ndOf ms ls (hear_ (near15 ls) s x (rd ms a) t1) i = updN (ndOf ms ls s) a { { ndOf ms ls s a with heard := (ndOf ms ls s a).heard ++ [x] } with told := (ndOf ms ls s a).told ++ tells (ndOf ms ls s a).near ((ndOf ms ls s a).heard ++ [x]) (ndOf ms ls s a).told (ndOf ms ls s a).bg } i := by
  intro i hi
  unfold updN
  by_cases e : i = a
  · subst e
    rw [if_pos rfl]
    simp [ndOf, hear_, upd]
  · rw [if_neg e]
    have := rd_inj T.mok hi ha e
    simp [ndOf, hear_, upd, this]
def both (ls : List (Int × Int)) : List (Int × Int) := ls ++ ls.map fun p => (p.2, p.1)
theorem both_mem {u v : Int} : (u, v) ∈ both ls ↔ WvTree.Edge ls u v := by
  unfold both WvTree.Edge
  rw [List.mem_append, List.mem_map]
  constructor
  · rintro (h | ⟨⟨a, b⟩, h, e⟩)
    · exact .inl h
    · cases e; exact .inr h
  · rintro (h | h)
    · exact .inl h
    · exact .inr ⟨(v, u), h, rfl⟩
theorem all_len (T : IsTree ms ls) (h : Inv (WvTree.Edge ls) ms (near15 ls) s) : s.all.length ≤ 2 * ls.length := by
  have h1 : s.all.length ≤ (both ls).length := LC.length_le_of_subset h.an fun x hx => by
    obtain ⟨u, v⟩ := x
    obtain ⟨hu, ht⟩ := (h.am u v).1 hx
    exact both_mem.2 (T.near_mem.1 ((h.tm u v hu).1 ht).2.1)
  unfold both at h1
  simp at h1
  omega
theorem links_nodup (T : IsTree ms ls) : ls.Nodup := by
  have hA : ∀ i j, i < j → j < ls.length → Ahead (lkAt ls i) (lkAt ls j) := by
    intro i j hij hj
    induction j with
    | zero => omega
    | succ j ih =>
      have h1 := (T.lok (j + 1) hj).2.2.2 (by omega)
      simp only [Nat.add_sub_cancel] at h1
      by_cases e : i = j
      · subst e; exact h1
      · have h2 := ih (by omega) (by omega)
        unfold Ahead at *
        omega
  rw [List.nodup_iff_pairwise_ne, List.pairwise_iff_getElem]
  intro i j hi hj hij e
  have := hA i j hij hj
  rw [lkAt_get _ _ hi, lkAt_get _ _ hj, e] at this
  unfold Ahead at this
  omega
theorem all_len_end (T : IsTree ms ls) (h : Inv (WvTree.Edge ls) ms (near15 ls) s) (hbg : ∀ a, a ∈ ms → s.bg a = true) (ht : s.todo = []) : s.all.length = 2 * ls.length := by
  obtain ⟨_, rank, hr⟩ := T.laws
  have hsub := h.all_told T.net (fun a b h => (T.edge_in h).2) hr hbg ht
  have hn : (both ls).Nodup := by
    unfold both
    rw [List.nodup_append]
    refine ⟨links_nodup T, ?_, fun a ha b hb e => ?_⟩
    · refine List.pairwise_map.2 ((links_nodup T).imp fun hab e => hab ?_)
      injection e with e1 e2
      exact Prod.ext e2 e1
    · obtain ⟨k, hk, rfl⟩ := List.mem_map.1 hb
      subst e
      have h1 := (lok_mem T.lok _ ha).1
      have h2 := (lok_mem T.lok _ hk).1
      simp only at h1
      omega
  have h2 : (both ls).length ≤ s.all.length := LC.length_le_of_subset hn fun x hx => by
    obtain ⟨u, v⟩ := x
    exact hsub u v (both_mem.1 hx)
  have h1 := all_len T h
  unfold both at h2
  simp at h2
  omega
/-- None is done ahead of the last beginning. -/
theorem not_done (T : IsTree ms ls) (h : Inv (WvTree.Edge ls) ms (near15 ls) s) {a : Nat} (ha : a < ms.length) (hd : ((ndOf ms ls s a).bg && (ndOf ms ls s a).heard.length == (ndOf ms ls s a).near.length) = true) : cnt ms s.bg = ms.length := by
  rw [Bool.and_eq_true, beq_iff_eq] at hd
  exact cnt_all (h.safe T.net (fun a b h => (T.edge_in h).2) T.laws.1 (rd_mem ms a ha) hd.1 hd.2)
theorem end_done (T : IsTree ms ls) (h : Inv (WvTree.Edge ls) ms (near15 ls) s) (hbg : ∀ a, a ∈ ms → s.bg a = true) (ht : s.todo = []) {a : Nat} (ha : a < ms.length) : ((ndOf ms ls s a).bg && (ndOf ms ls s a).heard.length == (ndOf ms ls s a).near.length) = true := by
  obtain ⟨_, rank, hr⟩ := T.laws
  have h1 := h.all_done T.net (fun a b h => (T.edge_in h).2) hr hbg ht _ (rd_mem ms a ha)
  have h2 := hbg _ (rd_mem ms a ha)
  simp [ndOf, h1, h2]
end
end Go.Proofs.YtadaoplmicghcaaGreatDoor
namespace Go.Proofs.YtadaoplmicghcaaGreatDoor
open Go.RowKit Go.Proofs.YtadaoplmicghcaaGreatDoorW.PrintWords Go.Proofs.YtadaoplmicghcaaGreatDoorW.PrintLast Go.Proofs.YtadaoplmicghcaaGreatDoorW.PrintMore
set_option linter.unusedVariables false
set_option linter.unusedSimpArgs false
section
open Go.ChangeShapes Go.WideShapes Go.Deep
variable {H : Type} {enc : TypeId × Value → H} {P : Program} {w : World} {base : Nat} {spare : Nat → Bool} {held : Bool}
theorem open_slice_fields {t e : TypeId} {fs : Array Field} {fuel : Nat} {cs : List Value} {x : DataW H × List MemPlace} (ht : P.underlying t = some (.slice e)) (he : P.underlying e = some (.struct fs))
    (hone : oneCellFields P fs = true) (hC : P.cellsOf e = fs.size) (h : DataW.trod enc P w base spare held fuel t cs = some x) :
    (cs = [.slice none 0 0] ∧ x = (.nil, [])) ∨
    ∃ (a : Addr) (len cap m : Nat) (D : Nat → DataW H) (Pl : Nat → List MemPlace), cs = [.slice (some a) len cap] ∧ base ≤ a.block ∧ len ≤ cap ∧ cap ≤ maxLen ∧ m = (if spare a.block then cap else len) ∧
      x = (.slice ((List.range len).map D) ((List.range (m - len)).map fun j => D (len + j)), MemPlace.row a (m * fs.size) ++ (List.range m).flatMap Pl) ∧
      ∀ i, i < m → ∃ (ys : List (DataW H × List MemPlace)) (n : Nat), D i = .agg (ys.map (·.1)) ∧ Pl i = ys.flatMap (·.2) ∧ ys.length = fs.size ∧
        ∀ (j : Nat) (f : Field), fs[j]? = some f → ∃ (v : Value) (y : DataW H × List MemPlace), w.cell? (a.add (i * fs.size + j)) = some v ∧ ys[j]? = some y ∧ DataW.trod enc P w base spare held n f.type [v] = some y := by
  rcases open_slice ht h with h0 | ⟨a, len, cap, m, n, D, Pl, hcs, hb, hl, hm, hmm, hx, hi⟩
  · exact .inl h0
  · refine .inr ⟨a, len, cap, m, D, Pl, hcs, hb, hl, hm, hmm, by rw [hC] at hx; exact hx, fun i him => ?_⟩
    obtain ⟨cs', hc, ht'⟩ := hi i him
    rw [hC] at hc
    obtain ⟨ys, n', hn', hy, hlen, hyl, hf⟩ := DataW.trod_struct he ht'
    obtain ⟨_, hcl, hat⟩ := World.cells?_some hc
    simp only [Prod.mk.injEq] at hy
    refine ⟨ys, n', hy.1, hy.2, hyl, fun j f hj => ?_⟩
    obtain ⟨ho, hk⟩ := hone_of hone j f hj
    have hjl : j < fs.size := (Array.getElem?_eq_some_iff.1 hj).1
    have hcell := hat j hjl
    have hv : cs'[j]? = some (cs'[j]'(by omega)) := List.getElem?_eq_getElem (by omega)
    have h1 := hf j f hj
    rw [ho, hk] at h1
    have hone' : (cs'.drop j).take 1 = [cs'[j]'(by omega)] := by
      rw [List.drop_eq_getElem_cons (by omega)]
      rfl
    rw [hone'] at h1
    have hys : ys[j]? = some (ys[j]'(by omega)) := List.getElem?_eq_getElem (by omega)
    refine ⟨_, _, ?_, hys, h1.trans hys⟩
    rw [← Go.Deep.add_add, hcell, hv]
end
section
open Go.ChangeShapes Go.WideShapes Go.Deep
set_option maxRecDepth 100000 in
theorem open_lks {H : Type} {enc : TypeId × Value → H} {W : World} {fuel : Nat} {cs : List Value} {x : DataW H × List MemPlace}
    (h : DataW.trod enc Tryz.prog W 0 (fun _ => true) true fuel 23 cs = some x) : ∃ (a : Option Addr) (cap : Nat) (l : List (Int × Int)), cs = [.slice a l.length cap] ∧ kLk.C W a l.length l := by
  rcases open_slice_fields Tryz.underlying23 Tryz.underlying86 (by kernel_rfl) (by kernel_rfl) h with ⟨hcs, _⟩ | ⟨ad, len, c, m, D, Pl, hcs, _, hl, hm, hmm, _, hall⟩
  · exact ⟨none, 0, [], hcs, rfl, Nat.zero_le _, fun h => absurd h (Nat.lt_irrefl 0)⟩
  · simp only [if_true] at hmm
    have each : ∀ i, i < len → ∃ o : Int × Int, W.cell? (ad.add (i * 2 + 0)) = some (.int .i64 o.1) ∧ W.cell? (ad.add (i * 2 + 1)) = some (.int .i64 o.2) := by
      intro i hi
      obtain ⟨ys, n, _, _, _, hf⟩ := hall i (by omega)
      obtain ⟨v0, y0, c0, _, t0⟩ := hf 0 _ rfl
      obtain ⟨v1, y1, c1, _, t1⟩ := hf 1 _ rfl
      obtain ⟨x0, e0, _, _⟩ := DataW.trod_int Tryz.underlying3 t0
      obtain ⟨x1, e1, _, _⟩ := DataW.trod_int Tryz.underlying3 t1
      simp only [List.cons.injEq, and_true] at e0 e1
      subst e0 e1
      exact ⟨⟨x0, x1⟩, c0, c1⟩
    obtain ⟨f, hf⟩ := choose_lt each
    have hmx : maxLen = 9223372036854775807 := rfl
    have hll : ((List.range len).map f).length = len := by simp
    refine ⟨some ad, c, (List.range len).map f, by rw [hll]; exact hcs, ?_⟩
    rw [hll]
    refine ⟨hll, by omega, fun hn => ⟨ad, rfl, fun j p hj => ?_⟩⟩
    rw [List.getElem?_map] at hj
    have hjl : j < len := by
      rcases Nat.lt_or_ge j len with h' | h'
      · exact h'
      · rw [List.getElem?_eq_none (by simpa using h')] at hj
        cases hj
    rw [List.getElem?_range hjl] at hj
    simp only [Option.map_some, Option.some.injEq] at hj
    subst hj
    obtain ⟨b0, b1⟩ := hf j hjl
    refine ⟨_, rfl, kLk_mk _ _, fun i u hu => ?_⟩
    match i, hu with
    | 0, hu => cases hu; exact b0
    | 1, hu => cases hu; exact b1
    | i + 2, hu => simp at hu
set_option maxRecDepth 100000 in
theorem open_nums {H : Type} {enc : TypeId × Value → H} {W : World} {fuel : Nat} {cs : List Value} {x : DataW H × List MemPlace}
    (h : DataW.trod enc Tryz.prog W 0 (fun _ => true) true fuel 22 cs = some x) : ∃ (a : Option Addr) (cap : Nat) (l : List Int), cs = [.slice a l.length cap] ∧ (Kd.int .i64).C W a l.length l := by
  rcases open_ints Tryz.underlying22 Tryz.underlying3 (by kernel_rfl) h with ⟨hcs, _⟩ | ⟨y, l', c', zs, hcs, _, hl', hm', hz, _, hcell, hwz⟩
  · exact ⟨none, 0, [], hcs, rfl, Nat.zero_le _, fun h => absurd h (Nat.lt_irrefl 0)⟩
  · obtain ⟨l, e, g1, g2, g3, g4⟩ := ReadsInt.ofRowC (k := .i64) (w := W) (a := some y) (len := l') (cap := c') (zs := zs) (.inr ⟨y, rfl, hl', hm', by simpa using hz, hcell, hwz⟩)
    subst e
    exact ⟨some y, c', l, hcs, Kd.C_of_reads (enc := Value.int .i64) (d := 0) g1⟩
set_option maxRecDepth 100000 in
theorem open_graph {H : Type} {enc : TypeId × Value → H} {W : World} {fuel : Nat} {cs : Array Value} {x : DataW H × List MemPlace}
    (h : DataW.trod enc Tryz.prog W 0 (fun _ => true) true fuel 25 cs.toList = some x) : ∃ (A : Option Addr) (c : Nat) (ms : List Int) (B : Option Addr) (d : Nat) (ls : List (Int × Int)), cs = #[.slice A ms.length c, .slice B ls.length d] ∧ (Kd.int .i64).C W A ms.length ms ∧ kLk.C W B ls.length ls := by
  obtain ⟨y0, y1, n, _, hl, t0, t1⟩ := trod_struct2 Tryz.underlying25 h
  have hc : Tryz.prog.cellsOf 25 = 2 := by kernel_rfl
  rw [hc] at hl
  obtain ⟨cl⟩ := cs
  simp only at hl
  match cl, hl with
  | [p, q], _ =>
    have k0 : Tryz.prog.cellsOf 22 = 1 := by kernel_rfl
    have k1 : Tryz.prog.cellsOf 23 = 1 := by kernel_rfl
    obtain ⟨A, c, ms, e0, h0⟩ := open_nums (cs := [p]) (by simpa [k0] using t0)
    obtain ⟨B, d, ls, e1, h1⟩ := open_lks (cs := [q]) (by simpa [k1] using t1)
    injection e0 with e0 _
    injection e1 with e1 _
    subst e0 e1
    exact ⟨A, c, ms, B, d, ls, rfl, h0, h1⟩
end
end Go.Proofs.YtadaoplmicghcaaGreatDoor
