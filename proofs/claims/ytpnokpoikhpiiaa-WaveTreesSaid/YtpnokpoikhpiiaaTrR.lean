/- The reference's ahead and reach. -/
import Derived.Test.YtpnokpoikhpiiaaTrG
namespace Go.Proofs.Ytpnokpoikhpiiaa
open Go.RowKit Go.Proofs.YtpnokpoikhpiiaaW.PrintWords Go.Proofs.YtpnokpoikhpiiaaW.PrintLast Go.Proofs.YtpnokpoikhpiiaaW.PrintMore
set_option linter.unusedVariables false
set_option linter.unusedSimpArgs false
def aheadB (x y : Int × Int) : Bool := decide (x.1 < y.1) || ((x.1 == y.1) && decide (x.2 < y.2))
theorem aheadB_iff {x y : Int × Int} : aheadB x y = true ↔ Ahead x y := by
  simp [aheadB, Ahead]
set_option maxRecDepth 100000 in
theorem ahead_calls (w : World) (a b x y : Int) :
    Calls Try.prog 17 #[.agg #[.int .i64 a, .int .i64 b], .agg #[.int .i64 x, .int .i64 y]] w fun e w' => e = .returned (.bool (aheadB (a, b) (x, y))) ∧ Below w.heap.size w w' := by
  by_cases h1 : a < x
  · have h1b : decide (a < x) = true := by simpa using h1
    have HR := Lib.hid (show aheadB (a, b) (x, y) = true by simp [aheadB, h1])
    clear h1
    go_enter Try.func17, Try.ntmps17
    go_wp2
    go_ret
    rw [HR.out]
    exact ⟨rfl, by repeat (first | exact Below.refl _ _ | refine below_alloc ?_ _)⟩
  · have h1b : decide (a < x) = false := by simpa using h1
    by_cases h2 : a = x
    · have h2b : (a == x) = true := by simpa using h2
      by_cases h3 : b < y
      · have h3b : decide (b < y) = true := by simpa using h3
        have HR := Lib.hid (show aheadB (a, b) (x, y) = true by simp [aheadB, h2, h3])
        clear h1 h2 h3
        go_enter Try.func17, Try.ntmps17
        go_wp2
        go_ret
        rw [HR.out]
        exact ⟨rfl, by repeat (first | exact Below.refl _ _ | refine below_alloc ?_ _)⟩
      · have h3b : decide (b < y) = false := by simpa using h3
        have HR := Lib.hid (show aheadB (a, b) (x, y) = false by simp [aheadB, h2]; omega)
        clear h1 h2 h3
        go_enter Try.func17, Try.ntmps17
        go_wp2
        go_ret
        rw [HR.out]
        exact ⟨rfl, by repeat (first | exact Below.refl _ _ | refine below_alloc ?_ _)⟩
    · have h2b : (a == x) = false := by simpa using h2
      have HR := Lib.hid (show aheadB (a, b) (x, y) = false by simp [aheadB, h2]; omega)
      clear h1 h2
      go_enter Try.func17, Try.ntmps17
      go_wp2
      go_ret
      rw [HR.out]
      exact ⟨rfl, by repeat (first | exact Below.refl _ _ | refine below_alloc ?_ _)⟩
theorem not_zero {x y : Int} (h : x < y) : ((x == (0 : Int)) && (y == 0)) = false := by
  rw [Bool.and_eq_false_iff]
  by_cases h0 : x = 0
  · right
    simp
    omega
  · left
    simpa using h0
theorem lit_row (W : World) (t : TypeId) (xs : List Int) (hm : xs.length ≤ 9223372036854775807) {n g : Nat} {cs : Array Value} (hg : g = W.heap.size) (hn : n = xs.length) (hcs : cs = (encs (Value.int .i64) xs).toArray) : (Kd.int .i64).R t (W.alloc (.cells cs t)) W.heap.size (fun _ => True) (.slice (some ⟨g, 0, none⟩) n n) xs := by
  subst hg hn hcs
  exact Kd.R_of_own (own_lit_of (enc := Value.int .i64) W W.heap.size t xs (Nat.le_refl _) hm) (fun _ _ => trivial)
theorem own_not {w : World} {base e g : Nat} {v : Value} {xs : List Int} {ok : Nat → Prop} {cs : Array Value} {t : Nat} {x : Nat × Nat} (h : (Kd.int .i64).R e w base ok v xs) (hg : w.heap[g]? = some (.cells cs t x)) (hne : t ≠ e) : some g ≠ v.ownBlock := by
  intro he
  obtain ⟨_, _, _, q, hq, cells, hc⟩ := (Kd.R_bound h).1 g he.symm
  rw [hg] at hc
  injection hc with hc
  injection hc with _ ht _
  have hq' : q = e := by simpa [Kd.int, Kd.scalar] using hq
  exact hne (ht.trans hq')
theorem foldl_take (a : Int) (ls : List (Int × Int)) (l : List Int) (j : Nat) (h : j < ls.length) : (ls.take (j + 1)).foldl (stepk a) l = stepk a ((ls.take j).foldl (stepk a) l) (lkAt ls j) := by
  rw [take_lk ls j h, List.foldl_append]
  rfl
theorem rd_pre (l t : List Int) (i : Nat) (h : i < l.length) : rd (l ++ t) i = rd l i := by
  rw [rd_get _ _ (by simp; omega), rd_get _ _ h, List.getElem_append_left h]
set_option maxRecDepth 100000 in
set_option maxHeartbeats 2000000 in
theorem reach_calls (w : World) (A B : Option Addr) (n c d : Nat) (ms : List Int) (ls : List (Int × Int)) (r : Int) (hl : kLk.C w B ls.length ls) (hL : ∀ k ∈ ls, k.1 < k.2 ∧ k.1 ∈ ms ∧ k.2 ∈ ms) (h8 : ms.length ≤ 8) (hr : r ∈ ms) :
    Calls Try.prog 18 #[.agg #[.slice A n c, .slice B ls.length d], .int .i64 r, .agg #[.int .i64 0, .int .i64 0]] w fun e w' => ∃ v, e = .returned v ∧ (Kd.int .i64).R 3 w' w.heap.size (fun _ => True) v (reachL ls r) ∧ Below w.heap.size w w' := by
  have HL := Lib.hid hl
  have HLS := Lib.hid hL
  have H8 := Lib.hid h8
  have HST := Lib.hid (RInv.start (ls := ls) hr)
  have hm2 : (ls.length : Int) ≤ 9223372036854775807 := by have : ls.length ≤ 9223372036854775807 := hl.2.1; omega
  clear hl hL h8 hr
  go_enter Try.func18, Try.ntmps18
  go_upto_region 1 with (fail)
  obtain ⟨wz, hwz⟩ : ∃ wz, wz = (w.alloc (.cells #[.slice A n c, .slice B ls.length d] 25)).alloc (.cells #[.int .i64 0, .int .i64 0] 53) := ⟨_, rfl⟩
  rw [← hwz]
  have HSZ := Lib.hid (show wz.heap.size = w.heap.size + 1 + 1 by rw [hwz, alloc_sz, alloc_sz])
  have HBG := Aside0.mk (show wz.heap[w.heap.size]? = some (.cells #[.slice A n c, .slice B ls.length d] 25 (0, 0)) by rw [hwz, heap_old _ _ _ (by rw [alloc_sz]; omega)]; exact heap_alloc_new _ _)
  have HBB := Aside0.mk (show wz.heap[w.heap.size + 1]? = some (.cells #[.int .i64 0, .int .i64 0] 53 (0, 0)) by rw [hwz]; have := heap_alloc_new (w.alloc (.cells #[.slice A n c, .slice B ls.length d] 25)) (.cells #[.int .i64 0, .int .i64 0] 53); rw [alloc_sz] at this; exact this)
  have HBW := Aside0.mk (show Below w.heap.size w wz by rw [hwz]; exact below_alloc (below_alloc (Below.refl _ _) _) _)
  have HLZ := Lib.hid (Kd.C_below HL.out HBW.out)
  clear hwz
  go_wp2
  go_loopw [7, 8] (fun v7 v8 wr => ∃ (i : Nat) (l : List Int), v8 = .int .i64 i ∧ i ≤ l.length ∧ Aside0 ((Kd.int .i64).R 3 wr wz.heap.size (fun _ => True) v7 l) ∧ Aside0 (Below wz.heap.size wz wr) ∧ Hid (RInv ms ls r l ∧ reachL ls r = reachF ls (9 - i) i l)) (fun _ v _ => 9 - (intOf v).toNat)
  case atStart => exact ⟨0, [r], rfl, by simp, ⟨lit_row wz 3 [r] (by simp) rfl rfl rfl⟩, ⟨below_alloc (Below.refl _ _) _⟩, HST.out, rfl⟩
  case round =>
    obtain ⟨i, l, rfl, hi, HK, HB, HI⟩ := hrel
    obtain ⟨A7, c7, rfl⟩ := Kd.R_slice HK.out
    have hl8 : l.length ≤ 8 := Nat.le_trans HI.out.1.len H8.out
    have hl8i : (l.length : Int) ≤ 8 := by omega
    have HL8 := Lib.hid hl8
    by_cases hlt : i < l.length
    · have HLT := Lib.hid hlt
      have i0 : (0 : Int) ≤ i := by omega
      have i1 : (i : Int) < l.length := by omega
      obtain ⟨a, ha⟩ : ∃ a, a = rd l i := ⟨_, rfl⟩
      have HA := Lib.hid ha
      have HAM := Lib.hid (show a ∈ l by rw [ha]; exact rd_mem l i hlt)
      have HRF := Lib.hid (show reachL ls r = reachF ls (9 - (i + 1)) (i + 1) (ls.foldl (stepk a) l) by
        rw [HI.out.2, show 9 - i = 9 - (i + 1) + 1 by omega]
        simp only [reachF, if_pos hlt, ha])
      obtain ⟨g0, g1⟩ := P_cells (x := (0, 0)) ((HB.out.block _ (by rw [HSZ.out]; omega)).trans HBG.out)
      clear hlt ha hl8 hi
      go_wp2
      clear g0 g1
      rename World => wo
      go_loopw [7, 22] (fun v7 v22 wr => ∃ (j : Nat) (lj : List Int), v22 = .int .i64 j ∧ j ≤ ls.length ∧ Aside0 ((Kd.int .i64).R 3 wr wz.heap.size (fun _ => True) v7 lj) ∧ Aside0 (Below wz.heap.size wz wr) ∧ Hid (lj = (ls.take j).foldl (stepk a) l ∧ RInv ms ls r lj ∧ ∃ t, lj = l ++ t)) (fun _ v _ => ls.length - (intOf v).toNat)
      case atStart => exact ⟨0, l, rfl, Nat.zero_le _, HK, HB, rfl, HI.out.1, [], by simp⟩
      case round =>
        obtain ⟨j, lj, rfl, hj, HKJ, HBJ, HIJ⟩ := hrel
        obtain ⟨A9, c9, rfl⟩ := Kd.R_slice HKJ.out
        have hlj8 : lj.length ≤ 8 := Nat.le_trans HIJ.out.2.1.len H8.out
        have hlj8i : (lj.length : Int) ≤ 8 := by omega
        have hij : i < lj.length := by obtain ⟨t, ht⟩ := HIJ.out.2.2; have := HLT.out; rw [ht, List.length_append]; omega
        have haj : rd lj i = a := by obtain ⟨t, ht⟩ := HIJ.out.2.2; rw [ht, rd_pre l t i HLT.out, HA.out]
        have hamj : a ∈ lj := by rw [← haj]; exact rd_mem lj i hij
        by_cases hlt : j < ls.length
        · obtain ⟨ad, rfl, hc0, hc1⟩ := Lk_cell (Kd.C_below HLZ.out HBJ.out) hlt
          obtain ⟨h12, hm1, hm2'⟩ := HLS.out _ (lkAt_mem ls j hlt)
          have HFT := Lib.hid (foldl_take a ls l j hlt)
          rw [← HIJ.out.1] at HFT
          have HSTP := Lib.hid (HIJ.out.2.1.step hamj (lkAt_mem ls j hlt) hm1 hm2')
          have HPRE := Lib.hid (stepk_pre a lj (lkAt ls j))
          obtain ⟨x, hx⟩ : ∃ x, x = lkAt ls j := ⟨_, rfl⟩
          rw [← hx] at hc0 hc1 h12 HFT HSTP HPRE
          obtain ⟨x1, x2⟩ := x
          simp only [] at hc0 hc1 h12
          have j0 : (0 : Int) ≤ j := by omega
          have j1 : (j : Int) < ls.length := by omega
          have HLJ := Lib.hid hlt
          have ij1 : (i : Int) < lj.length := by omega
          have HIL := Lib.hid hij
          have HAJ := Lib.hid haj
          clear hlt hx hm1 hm2' hij haj hamj hlj8
          go_upto_region 8 with (fail)
          obtain ⟨w0, hw0⟩ : ∃ w0, w0 = wr.alloc (.cells #[.int .i64 x1, .int .i64 x2] 53) := ⟨_, rfl⟩
          rw [← hw0]
          have HBX := Aside0.mk (show w0.heap[wr.heap.size]? = some (.cells #[.int .i64 x1, .int .i64 x2] 53 (0, 0)) by rw [hw0]; exact heap_alloc_new _ _)
          have HB0 := Aside0.mk (show Below wz.heap.size wz w0 by rw [hw0]; exact below_alloc HBJ.out _)
          have HK0 := Aside0.mk (show (Kd.int .i64).R 3 w0 wz.heap.size (fun _ => True) (.slice A9 lj.length c9) lj by rw [hw0]; exact Kd.R_alloc HKJ.out _)
          clear hw0 hc0 hc1
          have HC7 := Lib.hid (Kd.R_reads' HK0.out).2.2
          obtain ⟨b0, b1⟩ := P_cells (x := (0, 0)) HBX.out
          obtain ⟨g0, g1⟩ := P_cells (x := (0, 0)) ((HB0.out.block _ (by rw [HSZ.out]; omega)).trans HBB.out)
          obtain ⟨ad9, rfl, hci⟩ := C_cell HC7.out HIL.out
          rw [HAJ.out] at hci
          have hne : ∀ W : World, (binOp .eql 53 (.agg #[.int .i64 x1, .int .i64 x2]) (.agg #[.int .i64 0, .int .i64 0])).run Try.prog W = .ok (.bool false) W := fun W => by
            rw [link_eql, not_zero h12]
          by_cases e1 : x1 = a
          · have e1b : (x1 == a) = true := by simpa using e1
            have e2b : (x2 == a) = false := beq_eq_false_iff_ne.2 (by omega)
            by_cases e3 : x2 ∈ lj
            · have e3b : decide (x2 ∈ lj) = true := decide_eq_true e3
              have HE := Lib.hid (show stepk a lj (x1, x2) = lj by simp [stepk, add1, e1, e3])
              clear e1 e3
              go_upto_region 9 with (fail)
              clear hne
              go_quiet ((go_at_call 13; exact Calls.quiet_of_same ((has_calls _ _ _ lj _ (Kd.C_drewN HC7.out _)).mono fun _ _ ⟨h, k⟩ => ⟨h, k.symm⟩)))
              go_upto_region 11 with (fail)
              obtain ⟨w2, hw2⟩ : ∃ w2, w2 = w0.drewN nq := ⟨_, rfl⟩
              rw [← hw2]
              have HBX2 := Aside0.mk (show w2.heap[wr.heap.size]? = some (.cells #[.int .i64 x1, .int .i64 x2] 53 (0, 0)) by rw [hw2]; exact HBX.out)
              have HB2 := Aside0.mk (show Below wz.heap.size wz w2 by rw [hw2]; exact pw_below_drewN HB0.out _)
              have HK2 := Aside0.mk (show (Kd.int .i64).R 3 w2 wz.heap.size (fun _ => True) (.slice (some ad9) lj.length c9) lj by rw [hw2]; exact Kd.R_drewN HK0.out _)
              have HC7b := Lib.hid (Kd.R_reads' HK2.out).2.2
              clear hw2 b0 b1 g0 g1 hci
              obtain ⟨b0, b1⟩ := P_cells (x := (0, 0)) HBX2.out
              obtain ⟨_, e, hci⟩ := C_cell HC7b.out HIL.out
              cases e
              rw [HAJ.out] at hci
              go_quiet (fail)
              go_wp2
              go_roundw
              case rel => exact ⟨j + 1, lj, by go_num, by have := HLJ.out; omega, ⟨Kd.R_drewN HK2.out _⟩, ⟨pw_below_drewN HB2.out _⟩, by rw [HFT.out, HE.out], by rw [← HE.out]; exact HSTP.out, by rw [← HE.out]; obtain ⟨t, ht⟩ := HIJ.out.2.2; obtain ⟨t2, ht2⟩ := HPRE.out; exact ⟨t ++ t2, by rw [ht2, ht, List.append_assoc]⟩⟩
              case measure => have := HLJ.out; simp [intOf]; omega
            · have e3b : decide (x2 ∈ lj) = false := decide_eq_false e3
              have HE := Lib.hid (show stepk a lj (x1, x2) = lj ++ [x2] by simp [stepk, add1, e1, e3])
              clear e1 e3
              go_upto_region 9 with (fail)
              clear hne
              go_quiet ((go_at_call 13; exact Calls.quiet_of_same ((has_calls _ _ _ lj _ (Kd.C_drewN HC7.out _)).mono fun _ _ ⟨h, k⟩ => ⟨h, k.symm⟩)))
              go_upto_region 10 with (fail)
              obtain ⟨w2, hw2⟩ : ∃ w2, w2 = w0.drewN nq := ⟨_, rfl⟩
              rw [← hw2]
              have HBX2 := Aside0.mk (show w2.heap[wr.heap.size]? = some (.cells #[.int .i64 x1, .int .i64 x2] 53 (0, 0)) by rw [hw2]; exact HBX.out)
              have HB2 := Aside0.mk (show Below wz.heap.size wz w2 by rw [hw2]; exact pw_below_drewN HB0.out _)
              have HK2 := Aside0.mk (show (Kd.int .i64).R 3 w2 wz.heap.size (fun _ => True) (.slice (some ad9) lj.length c9) lj by rw [hw2]; exact Kd.R_drewN HK0.out _)
              have HC7b := Lib.hid (Kd.R_reads' HK2.out).2.2
              clear hw2 b0 b1 g0 g1 hci
              obtain ⟨b0, b1⟩ := P_cells (x := (0, 0)) HBX2.out
              go_upto_region 11 with (at_builtin; refine Kd.R_append (Kd.int .i64) (w0 := wz) (W := w2) wz.heap.size rfl _ _ 22 3 (.int .i64 0) 8 rfl Try.underlying22 info3 rfl (by decide) (by omega) _ lj x2 [.int .i64 x2] (fun _ => True) (fun _ => False) rfl rfl rfl (fun _ hk => hk.elim) (fun _ _ => trivial) (by exact HK2.out) HB2.out HB2.out.size (by omega) ?_; intro v3 w3 ho hb hg hat; have HK3 := Aside0.mk ho; have HB3 := Aside0.mk hb; have HBX3 := Aside0.mk ((hg.block _ (blk_lt HBX2.out) (own_not HK2.out HBX2.out (by decide))).trans HBX2.out); clear ho hb hg hat)
              clear b0 b1
              obtain ⟨A3, c3, rfl⟩ := Kd.R_slice HK3.out
              have HC3 := Lib.hid (Kd.R_reads' HK3.out).2.2
              have HIL3 := Lib.hid (show i < (lj ++ [x2]).length by have := HIL.out; simp; omega)
              obtain ⟨b0, b1⟩ := P_cells (x := (0, 0)) HBX3.out
              obtain ⟨ad3, rfl, hci⟩ := C_cell HC3.out HIL3.out
              rw [rd_pre lj [x2] i HIL.out, HAJ.out] at hci
              obtain ⟨lk, hlk⟩ : ∃ lk, lk = lj ++ [x2] := ⟨_, rfl⟩
              have HLK := Lib.hid hlk
              rw [← hlk] at HK3 HC3 HIL3 ⊢
              have hlkn : (lk.length : Int) = (lj.length : Int) + 1 := by rw [hlk]; simp
              have ij3 : (i : Int) < lk.length := by omega
              clear hlk
              go_quiet (fail)
              go_wp2
              go_roundw
              case rel => exact ⟨j + 1, lk, by go_num, by have := HLJ.out; omega, ⟨Kd.R_drewN HK3.out _⟩, ⟨pw_below_drewN HB3.out _⟩, by rw [HFT.out, (HE.out.trans HLK.out.symm)], by rw [← (HE.out.trans HLK.out.symm)]; exact HSTP.out, by rw [← (HE.out.trans HLK.out.symm)]; obtain ⟨t, ht⟩ := HIJ.out.2.2; obtain ⟨t2, ht2⟩ := HPRE.out; exact ⟨t ++ t2, by rw [ht2, ht, List.append_assoc]⟩⟩
              case measure => have := HLJ.out; simp [intOf]; omega
          · have e1b : (x1 == a) = false := by simpa using e1
            by_cases e2 : x2 = a
            · have e2b : (x2 == a) = true := by simpa using e2
              by_cases e3 : x1 ∈ lj
              · have e3b : decide (x1 ∈ lj) = true := decide_eq_true e3
                have HE := Lib.hid (show stepk a lj (x1, x2) = lj by simp [stepk, add1, e1, e2, e3])
                clear e1 e2 e3
                go_upto_region 9 with (fail)
                clear hne
                go_quiet (fail)
                go_upto_region 11 with (fail)
                obtain ⟨w2, hw2⟩ : ∃ w2, w2 = w0.drewN nq := ⟨_, rfl⟩
                rw [← hw2]
                have HBX2 := Aside0.mk (show w2.heap[wr.heap.size]? = some (.cells #[.int .i64 x1, .int .i64 x2] 53 (0, 0)) by rw [hw2]; exact HBX.out)
                have HB2 := Aside0.mk (show Below wz.heap.size wz w2 by rw [hw2]; exact pw_below_drewN HB0.out _)
                have HK2 := Aside0.mk (show (Kd.int .i64).R 3 w2 wz.heap.size (fun _ => True) (.slice (some ad9) lj.length c9) lj by rw [hw2]; exact Kd.R_drewN HK0.out _)
                have HC7b := Lib.hid (Kd.R_reads' HK2.out).2.2
                clear hw2 b0 b1 g0 g1 hci
                obtain ⟨b0, b1⟩ := P_cells (x := (0, 0)) HBX2.out
                obtain ⟨_, e, hci⟩ := C_cell HC7b.out HIL.out
                cases e
                rw [HAJ.out] at hci
                go_quiet ((go_at_call 13; exact Calls.quiet_of_same ((has_calls _ _ _ lj _ (Kd.C_drewN HC7b.out _)).mono fun _ _ ⟨h, k⟩ => ⟨h, k.symm⟩)))
                go_wp2
                go_roundw
                case rel => exact ⟨j + 1, lj, by go_num, by have := HLJ.out; omega, ⟨Kd.R_drewN HK2.out _⟩, ⟨pw_below_drewN HB2.out _⟩, by rw [HFT.out, HE.out], by rw [← HE.out]; exact HSTP.out, by rw [← HE.out]; obtain ⟨t, ht⟩ := HIJ.out.2.2; obtain ⟨t2, ht2⟩ := HPRE.out; exact ⟨t ++ t2, by rw [ht2, ht, List.append_assoc]⟩⟩
                case measure => have := HLJ.out; simp [intOf]; omega
              · have e3b : decide (x1 ∈ lj) = false := decide_eq_false e3
                have HE := Lib.hid (show stepk a lj (x1, x2) = lj ++ [x1] by simp [stepk, add1, e1, e2, e3])
                clear e1 e2 e3
                go_upto_region 9 with (fail)
                clear hne
                go_quiet (fail)
                go_upto_region 11 with (fail)
                obtain ⟨w1, hw1⟩ : ∃ w1, w1 = w0.drewN nq := ⟨_, rfl⟩
                rw [← hw1]
                have HBX2 := Aside0.mk (show w1.heap[wr.heap.size]? = some (.cells #[.int .i64 x1, .int .i64 x2] 53 (0, 0)) by rw [hw1]; exact HBX.out)
                have HB2 := Aside0.mk (show Below wz.heap.size wz w1 by rw [hw1]; exact pw_below_drewN HB0.out _)
                have HK2 := Aside0.mk (show (Kd.int .i64).R 3 w1 wz.heap.size (fun _ => True) (.slice (some ad9) lj.length c9) lj by rw [hw1]; exact Kd.R_drewN HK0.out _)
                have HC7b := Lib.hid (Kd.R_reads' HK2.out).2.2
                clear hw1 b0 b1 g0 g1 hci
                obtain ⟨b0, b1⟩ := P_cells (x := (0, 0)) HBX2.out
                obtain ⟨_, e, hci⟩ := C_cell HC7b.out HIL.out
                cases e
                rw [HAJ.out] at hci
                go_quiet ((go_at_call 13; exact Calls.quiet_of_same ((has_calls _ _ _ lj _ (Kd.C_drewN HC7b.out _)).mono fun _ _ ⟨h, k⟩ => ⟨h, k.symm⟩)))
                go_upto_region 12 with (fail)
                obtain ⟨w2, hw2⟩ : ∃ w2, w2 = w1.drewN nq := ⟨_, rfl⟩
                rw [← hw2]
                have HK2 := Aside0.mk (show (Kd.int .i64).R 3 w2 wz.heap.size (fun _ => True) (.slice (some ad9) lj.length c9) lj by rw [hw2]; exact Kd.R_drewN HK2.out _)
                have HB2 := Aside0.mk (show Below wz.heap.size wz w2 by rw [hw2]; exact pw_below_drewN HB2.out _)
                have HBX2 := Aside0.mk (show w2.heap[wr.heap.size]? = some (.cells #[.int .i64 x1, .int .i64 x2] 53 (0, 0)) by rw [hw2]; exact HBX2.out)
                clear hw2 b0 b1 hci
                obtain ⟨b0, b1⟩ := P_cells (x := (0, 0)) HBX2.out
                go_wp2_with (at_builtin; refine Kd.R_append (Kd.int .i64) (w0 := wz) (W := w2) wz.heap.size rfl _ _ 22 3 (.int .i64 0) 8 rfl Try.underlying22 info3 rfl (by decide) (by omega) _ lj x1 [.int .i64 x1] (fun _ => True) (fun _ => False) rfl rfl rfl (fun _ hk => hk.elim) (fun _ _ => trivial) (by exact HK2.out) HB2.out HB2.out.size (by omega) ?_; intro v3 w3 ho hb hg hat; have HK3 := Aside0.mk ho; have HB3 := Aside0.mk hb; have HBX3 := Aside0.mk ((hg.block _ (blk_lt HBX2.out) (own_not HK2.out HBX2.out (by decide))).trans HBX2.out); clear ho hb hg hat)
                go_roundw
                case rel => exact ⟨j + 1, lj ++ [x1], by go_num, by have := HLJ.out; omega, HK3, HB3, by rw [HFT.out, HE.out], by rw [← HE.out]; exact HSTP.out, by rw [← HE.out]; obtain ⟨t, ht⟩ := HIJ.out.2.2; obtain ⟨t2, ht2⟩ := HPRE.out; exact ⟨t ++ t2, by rw [ht2, ht, List.append_assoc]⟩⟩
                case measure => have := HLJ.out; simp [intOf]; omega
            · have e2b : (x2 == a) = false := by simpa using e2
              have HE := Lib.hid (show stepk a lj (x1, x2) = lj by simp [stepk, e1, e2])
              clear e1 e2
              go_upto_region 9 with (fail)
              clear hne
              go_quiet (fail)
              go_upto_region 11 with (fail)
              obtain ⟨w2, hw2⟩ : ∃ w2, w2 = w0.drewN nq := ⟨_, rfl⟩
              rw [← hw2]
              have HBX2 := Aside0.mk (show w2.heap[wr.heap.size]? = some (.cells #[.int .i64 x1, .int .i64 x2] 53 (0, 0)) by rw [hw2]; exact HBX.out)
              have HB2 := Aside0.mk (show Below wz.heap.size wz w2 by rw [hw2]; exact pw_below_drewN HB0.out _)
              have HK2 := Aside0.mk (show (Kd.int .i64).R 3 w2 wz.heap.size (fun _ => True) (.slice (some ad9) lj.length c9) lj by rw [hw2]; exact Kd.R_drewN HK0.out _)
              have HC7b := Lib.hid (Kd.R_reads' HK2.out).2.2
              clear hw2 b0 b1 g0 g1 hci
              obtain ⟨b0, b1⟩ := P_cells (x := (0, 0)) HBX2.out
              obtain ⟨_, e, hci⟩ := C_cell HC7b.out HIL.out
              cases e
              rw [HAJ.out] at hci
              go_quiet (fail)
              go_wp2
              go_roundw
              case rel => exact ⟨j + 1, lj, by go_num, by have := HLJ.out; omega, ⟨Kd.R_drewN HK2.out _⟩, ⟨pw_below_drewN HB2.out _⟩, by rw [HFT.out, HE.out], by rw [← HE.out]; exact HSTP.out, by rw [← HE.out]; obtain ⟨t, ht⟩ := HIJ.out.2.2; obtain ⟨t2, ht2⟩ := HPRE.out; exact ⟨t ++ t2, by rw [ht2, ht, List.append_assoc]⟩⟩
              case measure => have := HLJ.out; simp [intOf]; omega
        · have j1 : ¬ (j : Int) < ls.length := by omega
          have HFE := Lib.hid (show lj = ls.foldl (stepk a) l by rw [HIJ.out.1, List.take_of_length_le (by omega)])
          clear hlt haj hamj hlj8
          go_wp2
          go_roundw
          case rel => exact ⟨i + 1, lj, by go_num, by omega, HKJ, HBJ, HIJ.out.2.1, by rw [HFE.out]; exact HRF.out⟩
          case measure => have := HLT.out; have := HL8.out; simp [intOf]; omega
    · have i1 : ¬ (i : Int) < l.length := by omega
      have HRE := Lib.hid (show reachL ls r = l by
        rw [HI.out.2]
        cases h9 : 9 - i with
        | zero => rfl
        | succ f => simp only [reachF, if_neg hlt])
      clear hlt hl8
      go_wp2
      go_ret
      exact ⟨_, rfl, by rw [HRE.out]; exact Kd.R_lower HK.out HBW.out.size, below_step HBW.out HB.out⟩
end Go.Proofs.Ytpnokpoikhpiiaa
