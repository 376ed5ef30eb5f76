/- The reference's near, members, Near; the law's place. -/
import Derived.Test.YtpnokpoikhpiiaaTrS
import Derived.Test.YtpnokpoikhpiiaaTrC
import Derived.BigRegion
import Derived.Deep.RegionWith
namespace Go.Proofs.Ytpnokpoikhpiiaa
open Go.RowKit Go.Proofs.YtpnokpoikhpiiaaW.PrintWords Go.Proofs.YtpnokpoikhpiiaaW.PrintLast Go.Proofs.YtpnokpoikhpiiaaW.PrintMore
set_option linter.unusedVariables false
set_option linter.unusedSimpArgs false
theorem R_typed_set {e base g j t : Nat} {w : World} {v : Value} {xs : List Int} {ok : Nat → Prop} {cs : Array Value} {x : Nat × Nat} (h : (Kd.int .i64).R e w base ok v xs) (hg : w.heap[g]? = some (.cells cs t x)) (hne : t ≠ e) (u : Value) : (Kd.int .i64).R e (w.setCell ⟨g, j, none⟩ u) base ok v xs :=
  Kd.R_mono (Kd.R_move (Kd.R_bound h) (fun k hk => Below.heap_setCell _ _ _ _ (fun he => by
    obtain ⟨_, _, _, q, hq, cells, hc⟩ := hk
    subst he
    rw [hg] at hc
    injection hc with hc
    injection hc with _ ht _
    have hq' : q = e := by simpa [Kd.int, Kd.scalar] using hq
    exact hne (ht.trans hq')))) (fun _ hk => hk.1)
theorem R_typed_put {e base g t : Nat} {w : World} {v : Value} {xs : List Int} {ok : Nat → Prop} {a b c : Value} (h : (Kd.int .i64).R e w base ok v xs) (hg : w.heap[g]? = some (.cells #[a, b, c] t)) (hne : t ≠ e) (a' b' c' : Value) :
    (Kd.int .i64).R e (((w.setCell ⟨g, 0, none⟩ a').setCell ⟨g, 1, none⟩ b').setCell ⟨g, 2, none⟩ c') base ok v xs :=
  R_typed_set (R_typed_set (R_typed_set h hg hne _) (blk_set hg 0 a') hne _) (blk_set (blk_set hg 0 a') 1 b') hne _
set_option maxRecDepth 100000 in
set_option maxHeartbeats 2000000 in
theorem near_calls (w : World) (A B : Option Addr) (n c d : Nat) (ls : List (Int × Int)) (u : Int) (hl : kLk.C w B ls.length ls) (hL : ∀ k ∈ ls, k.1 < k.2) (hlen : ls.length ≤ 1000) :
    Calls Try.prog 24 #[.agg #[.slice A n c, .slice B ls.length d], .int .i64 u] w fun e w' => ∃ v, e = .returned v ∧ (Kd.int .i64).R 3 w' w.heap.size (fun _ => True) v (near15 ls u) ∧ Below w.heap.size w w' := by
  have HL := Lib.hid hl
  have HLT := Lib.hid hL
  have HLS := Lib.hid hlen
  have hm2 : (ls.length : Int) ≤ 1000 := by omega
  clear hl hL hlen
  go_enter Try.func24, Try.ntmps24
  go_upto_region 1 with (fail)
  obtain ⟨wz, hwz⟩ : ∃ wz, wz = w.alloc (.cells #[.slice A n c, .slice B ls.length d] 25) := ⟨_, rfl⟩
  rw [← hwz]
  have HBG := Aside0.mk (show wz.heap[w.heap.size]? = some (.cells #[.slice A n c, .slice B ls.length d] 25 (0, 0)) by rw [hwz]; exact heap_alloc_new _ _)
  have HBW := Aside0.mk (show Below w.heap.size w wz by rw [hwz]; exact below_alloc (Below.refl _ _) _)
  have HLZ := Lib.hid (Kd.C_below HL.out HBW.out)
  clear hwz
  obtain ⟨g0, g1⟩ := P_cells (x := (0, 0)) HBG.out
  go_wp2
  clear g0 g1
  go_loopw [5, 11] (fun v5 v11 wr => ∃ j : Nat, v11 = .int .i64 j ∧ j ≤ ls.length ∧ Aside0 ((Kd.int .i64).R 3 wr wz.heap.size (fun _ => True) v5 (nearOf u (ls.take j))) ∧ Aside0 (Below wz.heap.size wz wr)) (fun _ v _ => ls.length - (intOf v).toNat)
  case atStart => exact ⟨0, rfl, Nat.zero_le _, ⟨Kd.R_nil _ _ _ _ _⟩, ⟨Below.refl _ _⟩⟩
  case round =>
    obtain ⟨j, rfl, hj, HK, HB⟩ := hrel
    by_cases hlt : j < ls.length
    · obtain ⟨ad, rfl, hc0, hc1⟩ := Lk_cell (Kd.C_below HLZ.out HB.out) hlt
      have h12 := HLT.out _ (lkAt_mem ls j hlt)
      have HNT := Lib.hid (nearOf_take u ls j hlt)
      have HPL := Lib.hid (show (nearOf u (ls.take j)).length ≤ 2 * ls.length by have := nearOf_len u (ls.take j); have := List.length_take_le' j ls; omega)
      obtain ⟨x, hx⟩ : ∃ x, x = lkAt ls j := ⟨_, rfl⟩
      obtain ⟨P, hP⟩ : ∃ P, P = nearOf u (ls.take j) := ⟨_, rfl⟩
      rw [← hx] at hc0 hc1 h12 HNT
      rw [← hP] at HNT HPL HK
      obtain ⟨x1, x2⟩ := x
      simp only [] at hc0 hc1 h12 HNT
      have j0 : (0 : Int) ≤ j := by omega
      have j1 : (j : Int) < ls.length := by omega
      have HLJ := Lib.hid hlt
      clear hlt hx hP
      go_upto_region 5 with (fail)
      obtain ⟨w0, hw0⟩ : ∃ w0, w0 = wr.alloc (.cells #[.int .i64 x1, .int .i64 x2] 53) := ⟨_, rfl⟩
      rw [← hw0]
      have HBX := Aside0.mk (show w0.heap[wr.heap.size]? = some (.cells #[.int .i64 x1, .int .i64 x2] 53 (0, 0)) by rw [hw0]; exact heap_alloc_new _ _)
      have HB0 := Aside0.mk (show Below wz.heap.size wz w0 by rw [hw0]; exact below_alloc HB.out _)
      have HK0 := Aside0.mk (Kd.R_alloc HK.out (.cells #[.int .i64 x1, .int .i64 x2] 53))
      rw [← hw0] at HK0
      clear hw0 hc0 hc1
      obtain ⟨b0, b1⟩ := P_cells (x := (0, 0)) HBX.out
      by_cases e1 : x1 = u
      · have e1b : (x1 == u) = true := by simpa using e1
        have e2b : (x2 == u) = false := beq_eq_false_iff_ne.2 (by omega)
        have HE := Lib.hid (show nearOf u (ls.take (j + 1)) = P ++ [x2] by rw [HNT.out, if_pos e1, if_neg (by omega)]; simp)
        clear e1
        go_wp2_with (at_builtin; refine Kd.R_append (Kd.int .i64) (w0 := wz) (W := w0) wz.heap.size rfl _ _ 22 3 (.int .i64 0) 8 rfl Try.underlying22 info3 rfl (by decide) (by omega) _ P x2 [.int .i64 x2] (fun _ => True) (fun _ => False) rfl rfl rfl (fun _ hk => hk.elim) (fun _ _ => trivial) (by exact HK0.out) HB0.out HB0.out.size (by have := HPL.out; have := HLS.out; omega) ?_; intro v3 w3 ho hb hg hat; have HK3 := Aside0.mk ho; have HB3 := Aside0.mk hb; have HBX3 := Aside0.mk ((hg.block _ (blk_lt HBX.out) (own_not HK0.out HBX.out (by decide))).trans HBX.out); clear ho hb hg hat; obtain ⟨c0, c1⟩ := P_cells (x := (0, 0)) HBX3.out)
        go_roundw
        case rel => exact ⟨j + 1, by go_num, by have := HLJ.out; omega, by rw [HE.out]; exact HK3, HB3⟩
        case measure => have := HLJ.out; simp [intOf]; omega
      · have e1b : (x1 == u) = false := by simpa using e1
        by_cases e2 : x2 = u
        · have e2b : (x2 == u) = true := by simpa using e2
          have HE := Lib.hid (show nearOf u (ls.take (j + 1)) = P ++ [x1] by rw [HNT.out, if_neg e1, if_pos e2]; simp)
          clear e1 e2
          go_wp2_with (at_builtin; refine Kd.R_append (Kd.int .i64) (w0 := wz) (W := w0) wz.heap.size rfl _ _ 22 3 (.int .i64 0) 8 rfl Try.underlying22 info3 rfl (by decide) (by omega) _ P x1 [.int .i64 x1] (fun _ => True) (fun _ => False) rfl rfl rfl (fun _ hk => hk.elim) (fun _ _ => trivial) (by exact HK0.out) HB0.out HB0.out.size (by have := HPL.out; have := HLS.out; omega) ?_; intro v3 w3 ho hb hg hat; have HK3 := Aside0.mk ho; have HB3 := Aside0.mk hb; have HBX3 := Aside0.mk ((hg.block _ (blk_lt HBX.out) (own_not HK0.out HBX.out (by decide))).trans HBX.out); clear ho hb hg hat; obtain ⟨c0, c1⟩ := P_cells (x := (0, 0)) HBX3.out)
          go_roundw
          case rel => exact ⟨j + 1, by go_num, by have := HLJ.out; omega, by rw [HE.out]; exact HK3, HB3⟩
          case measure => have := HLJ.out; simp [intOf]; omega
        · have e2b : (x2 == u) = false := by simpa using e2
          have HE := Lib.hid (show nearOf u (ls.take (j + 1)) = P by rw [HNT.out, if_neg e1, if_neg e2]; simp)
          clear e1 e2
          go_wp2
          go_roundw
          case rel => exact ⟨j + 1, by go_num, by have := HLJ.out; omega, by rw [HE.out]; exact HK0, HB0⟩
          case measure => have := HLJ.out; simp [intOf]; omega
    · have j1 : ¬ (j : Int) < ls.length := by omega
      have HH := Lib.hid (show nearOf u (ls.take j) = nearOf u ls by rw [List.take_of_length_le (by omega)])
      rw [HH.out] at HK
      obtain ⟨A5, c5, rfl⟩ := Kd.R_slice HK.out
      have HC5 := Lib.hid (Kd.R_reads' HK.out).2.2
      clear hlt
      go_wp2_with (go_at_call 26; refine (sorted_calls _ _ _ (nearOf u ls) HC5.out).mono ?_; rintro e w4 ⟨v, rfl, hR, hb⟩; have H4 := Aside0.mk (below_step (below_step HBW.out HB.out) hb); have HR4 := Aside0.mk (Kd.R_lower hR (below_step HBW.out HB.out).size); clear hR hb)
      go_ret
      exact ⟨_, rfl, HR4.out, H4.out⟩
set_option maxRecDepth 100000 in
/-- In a graph that is a tree, a member's neighbours are a graph's members all. -/
theorem members_calls (w : World) (A B C : Option Addr) (c d e : Nat) (ms : List Int) (ls : List (Int × Int)) (u : Int) (hr : (Kd.int .i64).C w A ms.length ms) (hl : kLk.C w B ls.length ls) (hT : IsTree ms ls) (hu : u ∈ ms) (hC : (Kd.int .i64).C w C [u].length [u]) :
    Calls Try.prog 23 #[.agg #[.slice A ms.length c, .slice B ls.length d], .slice C 1 e] w fun en w' => ∃ X n cc cd, en = .returned (.agg #[.bool false, .slice X n cc, .int .i64 cd]) ∧ Below w.heap.size w w' := by
  have HR := Lib.hid hr
  have HL := Lib.hid hl
  have HT := Lib.hid hT
  have HU := Lib.hid hu
  have HC := Lib.hid hC
  have hm : (ms.length : Int) ≤ 8 := by have := hT.m8; omega
  clear hr hl hT hu hC
  go_enter Try.func23, Try.ntmps23
  go_upto_region 1 with (fail)
  obtain ⟨wz, hwz⟩ : ∃ wz, wz = (w.alloc (.cells #[.slice A ms.length c, .slice B ls.length d] 25)).alloc (.cells #[.bool false, .slice none 0 0, .int .i64 0] 30) := ⟨_, rfl⟩
  rw [← hwz]
  have HSZ := Lib.hid (show wz.heap.size = w.heap.size + 1 + 1 by rw [hwz, alloc_sz, alloc_sz])
  have HBG := Aside0.mk (show wz.heap[w.heap.size]? = some (.cells #[.slice A ms.length c, .slice B ls.length d] 25 (0, 0)) by rw [hwz, heap_old _ _ _ (by rw [alloc_sz]; omega)]; exact heap_alloc_new _ _)
  have HEC := Aside0.mk (show wz.heap[w.heap.size + 1]? = some (.cells #[.bool false, .slice none 0 0, .int .i64 0] 30 (0, 0)) by rw [hwz]; have := heap_alloc_new (w.alloc (.cells #[.slice A ms.length c, .slice B ls.length d] 25)) (.cells #[.bool false, .slice none 0 0, .int .i64 0] 30); rw [alloc_sz] at this; exact this)
  have HBW := Aside0.mk (show Below w.heap.size w wz by rw [hwz]; exact below_alloc (below_alloc (Below.refl _ _) _) _)
  clear hwz
  obtain ⟨g0, g1⟩ := P_cells (x := (0, 0)) HBG.out
  go_upto_region 2 with (go_at_call 6; refine (check15_calls wz _ _ _ _ ms ls (Kd.C_below HR.out HBW.out) (Kd.C_below HL.out HBW.out)).mono ?_; rintro en w1 ⟨b, X, n, cc, cd, rfl, hb, hbl⟩; obtain rfl := hb.2 HT.out; have HB1 := Aside0.mk hbl; clear hb hbl)
  clear g0 g1
  obtain ⟨w2, hw2⟩ : ∃ w2, w2 = w1.alloc (.cells #[.bool false, .slice X n cc, .int .i64 cd] 30) := ⟨_, rfl⟩
  rw [← hw2]
  have HB2 := Aside0.mk (show Below wz.heap.size wz w2 by rw [hw2]; exact below_alloc HB1.out _)
  have HXC := Aside0.mk (show w2.heap[w1.heap.size]? = some (.cells #[.bool false, .slice X n cc, .int .i64 cd] 30 (0, 0)) by rw [hw2]; exact heap_alloc_new _ _)
  clear hw2
  have HBC := Aside0.mk (below_step HBW.out HB2.out)
  have HEC2 := Aside0.mk ((HB2.out.block _ (by rw [HSZ.out]; omega)).trans HEC.out)
  obtain ⟨g0, g1⟩ := P_cells (x := (0, 0)) ((HB2.out.block _ (by rw [HSZ.out]; omega)).trans HBG.out)
  obtain ⟨⟨e0, e1, e2⟩, _⟩ := E_cells (x := (0, 0)) HXC.out
  obtain ⟨adC, rfl, hcc⟩ := C_cell (Kd.C_below HC.out HBC.out) (show 0 < [u].length by simp)
  have hc0 : w2.cell? adC = some (.int .i64 u) := by simpa [Addr.add, rd] using hcc
  have hin : decide (u ∈ ms) = true := decide_eq_true HU.out
  clear hcc
  go_wp2
  go_loop [12] (fun v => ∃ k : Nat, k ≤ 1 ∧ v = .int .i64 k) (fun v => 1 - (intOf v).toNat)
  case atStart => exact ⟨0, by omega, rfl⟩
  case round =>
    obtain ⟨k, hk, rfl⟩ := hrel
    rcases (show k = 0 ∨ k = 1 by omega) with rfl | rfl
    · go_wp2_with (go_at_call 13; refine (has_calls w2 _ _ ms u (Kd.C_below HR.out HBC.out)).mono ?_; rintro en w5 ⟨rfl, rfl⟩; rw [hin])
      go_round
      case rel => exact ⟨1, by omega, by go_num⟩
      case measure => simp [intOf]
    · obtain ⟨⟨q0, q1, q2⟩, q3, q4, q5⟩ := E_cells (x := (0, 0)) HEC2.out
      go_wp2
      clear q0 q1 q2 q3 q4 q5
      (try simp only [Exit.inBlock, Exit.then])
      obtain ⟨⟨x0, x1, x2⟩, _⟩ := E_cells (x := (0, 0)) (E_put HEC2.out (.bool false) (.slice X n cc) (.int .i64 cd))
      exact bodyPost_ret (v := .agg #[.bool false, .slice X n cc, .int .i64 cd]) (by simp [results, Try.results23, go_sem, x0, x1, x2]) rfl (by first | exact ⟨_, _, _, _, rfl, below_put HBC.out (Nat.le_succ _) _ _ _⟩ | exact ⟨⟨_, _, _, _, rfl⟩, below_put HBC.out (Nat.le_succ _) _ _ _⟩)
set_option maxRecDepth 100000 in
theorem near2_calls (w : World) (A B : Option Addr) (c d : Nat) (ms : List Int) (ls : List (Int × Int)) (u : Int) (hr : (Kd.int .i64).C w A ms.length ms) (hl : kLk.C w B ls.length ls) (hT : IsTree ms ls) (hu : u ∈ ms) :
    Calls Try.prog 19 #[.agg #[.slice A ms.length c, .slice B ls.length d], .int .i64 u] w fun en w' => ∃ v X n cc cd, en = .returned (.tuple #[v, .agg #[.bool false, .slice X n cc, .int .i64 cd]]) ∧ (Kd.int .i64).R 3 w' w.heap.size (fun _ => True) v (near15 ls u) ∧ Below w.heap.size w w' := by
  have HR := Lib.hid hr
  have HL := Lib.hid hl
  have HT := Lib.hid hT
  have HU := Lib.hid hu
  clear hr hl hT hu
  go_enter Try.func19, Try.ntmps19
  go_upto_region 1 with (fail)
  obtain ⟨wz, hwz⟩ : ∃ wz, wz = (w.alloc (.cells #[.slice A ms.length c, .slice B ls.length d] 25)).alloc (.cells #[.bool false, .slice none 0 0, .int .i64 0] 30) := ⟨_, rfl⟩
  rw [← hwz]
  have HSZ := Lib.hid (show wz.heap.size = w.heap.size + 1 + 1 by rw [hwz, alloc_sz, alloc_sz])
  have HBG := Aside0.mk (show wz.heap[w.heap.size]? = some (.cells #[.slice A ms.length c, .slice B ls.length d] 25 (0, 0)) by rw [hwz, heap_old _ _ _ (by rw [alloc_sz]; omega)]; exact heap_alloc_new _ _)
  have HEC := Aside0.mk (show wz.heap[w.heap.size + 1]? = some (.cells #[.bool false, .slice none 0 0, .int .i64 0] 30 (0, 0)) by rw [hwz]; have := heap_alloc_new (w.alloc (.cells #[.slice A ms.length c, .slice B ls.length d] 25)) (.cells #[.bool false, .slice none 0 0, .int .i64 0] 30); rw [alloc_sz] at this; exact this)
  have HBW := Aside0.mk (show Below w.heap.size w wz by rw [hwz]; exact below_alloc (below_alloc (Below.refl _ _) _) _)
  clear hwz
  obtain ⟨g0, g1⟩ := P_cells (x := (0, 0)) HBG.out
  go_upto_region 2 with (go_at_call 23; refine (members_calls _ _ _ _ _ _ _ ms ls u (Kd.C_below HR.out (below_alloc HBW.out _)) (Kd.C_below HL.out (below_alloc HBW.out _)) HT.out HU.out (lit_at _ _ [u] (by simp) (by simp) rfl rfl)).mono ?_; rintro en w1 ⟨X, n, cc, cd, rfl, hbl⟩; have HB1 := Aside0.mk (below_first hbl); clear hbl)
  clear g0 g1
  obtain ⟨w2, hw2⟩ : ∃ w2, w2 = w1.alloc (.cells #[.bool false, .slice X n cc, .int .i64 cd] 30) := ⟨_, rfl⟩
  rw [← hw2]
  have HB2 := Aside0.mk (show Below wz.heap.size wz w2 by rw [hw2]; exact below_alloc HB1.out _)
  have HXC := Aside0.mk (show w2.heap[w1.heap.size]? = some (.cells #[.bool false, .slice X n cc, .int .i64 cd] 30 (0, 0)) by rw [hw2]; exact heap_alloc_new _ _)
  clear hw2
  have HBC := Aside0.mk (below_step HBW.out HB2.out)
  have HEC2 := Aside0.mk ((HB2.out.block _ (by rw [HSZ.out]; omega)).trans HEC.out)
  obtain ⟨g0, g1⟩ := P_cells (x := (0, 0)) ((HB2.out.block _ (by rw [HSZ.out]; omega)).trans HBG.out)
  obtain ⟨⟨e0, e1, e2⟩, _⟩ := E_cells (x := (0, 0)) HXC.out
  go_wp2_with (go_at_call 24; refine (near_calls w2 _ _ _ _ _ ls u (Kd.C_below HL.out HBC.out) (fun k hk => (lok_mem HT.out.lok k hk).1) (by have := HT.out.len; have := HT.out.m8; omega)).mono ?_; rintro en w3 ⟨v, rfl, hR, hbl⟩; have HR3 := Aside0.mk (Kd.R_lower hR HBC.out.size); have HB3 := Aside0.mk (below_step HBC.out hbl); have HEC3 := Aside0.mk ((hbl.block _ (blk_lt HEC2.out)).trans HEC2.out); clear hR hbl; obtain ⟨⟨q0, q1, q2⟩, q3, q4, q5⟩ := E_cells (x := (0, 0)) HEC3.out)
  clear q0 q1 q2 q3 q4 q5
  (try simp only [Exit.inBlock, Exit.then])
  obtain ⟨⟨x0, x1, x2⟩, _⟩ := E_cells (x := (0, 0)) (E_put HEC3.out (.bool false) (.slice none 0 0) (.int .i64 0))
  refine bodyPost_ret (v := .tuple #[_, .agg #[.bool false, .slice none 0 0, .int .i64 0]]) (by simp [results, Try.results19, go_sem, x0, x1, x2]; rfl) rfl ⟨_, _, _, _, _, rfl, ?_, below_put HB3.out (Nat.le_succ _) _ _ _⟩
  exact R_typed_put HR3.out HEC3.out (by decide) _ _ _
end Go.Proofs.Ytpnokpoikhpiiaa
