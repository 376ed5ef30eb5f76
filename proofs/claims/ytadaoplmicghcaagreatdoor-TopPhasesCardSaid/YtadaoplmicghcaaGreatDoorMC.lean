/- The reference's Check of a graph. -/
import Derived.Test.YtadaoplmicghcaaGreatDoorM2
import Derived.Deep.RegionHeld3
namespace Go.Proofs.YtadaoplmicghcaaGreatDoor
open Go.RowKit Go.Proofs.YtadaoplmicghcaaGreatDoorW.PrintWords Go.Proofs.YtadaoplmicghcaaGreatDoorW.PrintLast Go.Proofs.YtadaoplmicghcaaGreatDoorW.PrintMore
set_option linter.unusedVariables false
set_option linter.unusedSimpArgs false
theorem Below.keeps {B : Nat} {w w' : World} (h : Below B w w') {p : Addr} {v : Value} (hc : w.cell? p = some v) (hp : p.block < B) : w'.cell? p = some v := (h.cell hp).trans hc
theorem cell_in {w : World} {a : Addr} {v : Value} (h : w.cell? a = some v) : a.block < w.heap.size := by
  by_cases hb : a.block < w.heap.size
  · exact hb
  · unfold World.cell? at h
    rw [Array.getElem?_eq_none (by omega)] at h
    simp at h
set_option maxRecDepth 100000 in
set_option maxHeartbeats 8000000 in
theorem check15_calls (w : World) (A B : Option Addr) (c d : Nat) (ms : List Int) (ls : List (Int × Int)) (hr : (Kd.int .i64).C w A ms.length ms) (hl : kLk.C w B ls.length ls) :
    Calls Tryz.prog 5 #[.agg #[.slice A ms.length c, .slice B ls.length d]] w fun e w' => ∃ b X n cc cd, e = .returned (.agg #[.bool b, .slice X n cc, .int .i64 cd]) ∧ (b = false ↔ IsTree ms ls) ∧ Below w.heap.size w w' := by
  have HR := Lib.hid hr
  have HL := Lib.hid hl
  have hm : (ms.length : Int) ≤ 9223372036854775807 := by have : ms.length ≤ 9223372036854775807 := hr.2.1; omega
  have hm2 : (ls.length : Int) ≤ 9223372036854775807 := by have : ls.length ≤ 9223372036854775807 := hl.2.1; omega
  clear hr hl
  go_enter Tryz.func5, Tryz.ntmps5
  go_upto_region 1 with (fail)
  obtain ⟨wz, hwz⟩ : ∃ wz, wz = (w.alloc (.cells #[.slice A ms.length c, .slice B ls.length d] 25)).alloc (.cells #[.bool false, .slice none 0 0, .int .i64 0] 30) := ⟨_, rfl⟩
  rw [← hwz]
  have HSZ := Lib.hid (show wz.heap.size = w.heap.size + 1 + 1 by rw [hwz, alloc_sz, alloc_sz])
  have HBG := Aside0.mk (show wz.heap[w.heap.size]? = some (.cells #[.slice A ms.length c, .slice B ls.length d] 25 (0, 0)) by rw [hwz, heap_old _ _ _ (by rw [alloc_sz]; omega)]; exact heap_alloc_new _ _)
  have HEC := Aside0.mk (show wz.heap[w.heap.size + 1]? = some (.cells #[.bool false, .slice none 0 0, .int .i64 0] 30 (0, 0)) by rw [hwz]; have := heap_alloc_new (w.alloc (.cells #[.slice A ms.length c, .slice B ls.length d] 25)) (.cells #[.bool false, .slice none 0 0, .int .i64 0] 30); rw [alloc_sz] at this; exact this)
  have HBW := Aside0.mk (show Below w.heap.size w wz by rw [hwz]; exact below_alloc (below_alloc (Below.refl _ _) _) _)
  have HRZ := Lib.hid (Kd.C_below HR.out HBW.out)
  have HLZ := Lib.hid (Kd.C_below HL.out HBW.out)
  clear hwz
  obtain ⟨g0, g1⟩ := P_cells (x := (0, 0)) HBG.out
  by_cases p1 : (ms.length : Int) > 8
  · have HNO := Lib.hid (show ¬ IsTree ms ls from fun T => by have := T.m8; omega)
    have p1b : decide ((ms.length : Int) > 8) = true := by simpa using p1
    clear p1
    go_wp2_with (go_at_call 31; refine (refN_calls _ 2).mono ?_; rintro e w2 ⟨rfl, hw2⟩; have HE2 := Aside0.mk (show w2.heap[w.heap.size + 1]? = some (.cells #[.bool false, .slice none 0 0, .int .i64 0] 30 (0, 0)) by rw [hw2, heap_old _ _ _ (blk_lt HEC.out)]; exact HEC.out); have HB2 := Aside0.mk (show Below w.heap.size w w2 by rw [hw2]; exact (HBW.out).alloc (HBW.out).size _); clear hw2; obtain ⟨⟨q0, q1, q2⟩, q3, q4, q5⟩ := E_cells (x := (0, 0)) HE2.out)
    clear q0 q1 q2 q3 q4 q5
    (try simp only [Exit.inBlock, Exit.then])
    obtain ⟨⟨x0, x1, x2⟩, _⟩ := E_cells (x := (0, 0)) (E_put HE2.out (.bool true) (.slice none 0 0) (.int .i64 2))
    exact bodyPost_ret (v := .agg #[.bool true, .slice none 0 0, .int .i64 2]) (by simp [results, Tryz.results5, go_sem, x0, x1, x2]) rfl ⟨_, _, _, _, _, rfl, ⟨fun h => (by cases h), fun T => absurd T HNO.out⟩, below_put HB2.out (Nat.le_succ _) _ _ _⟩
  · have p1b : decide ((ms.length : Int) > 8) = false := by simpa using p1
    have HM8 := Lib.hid (show ms.length ≤ 8 by omega)
    clear p1
    go_wp2
    go_loop [15] (fun v => ∃ k : Nat, k ≤ ms.length ∧ v = .int .i64 k ∧ Hid (∀ j, j < k → MOk ms j)) (fun v => ms.length - (intOf v).toNat)
    case atStart => exact ⟨0, Nat.zero_le _, rfl, fun j hj => by omega⟩
    case round =>
      obtain ⟨k, hk, rfl, HMK⟩ := hrel
      by_cases hlt : k < ms.length
      · obtain ⟨ad, rfl, hcell⟩ := C_cell HRZ.out hlt
        have k0 : (0 : Int) ≤ k := by omega
        have k1 : (k : Int) < ms.length := by omega
        have HLT := Lib.hid hlt
        obtain ⟨x, hx⟩ : ∃ x, x = rd ms k := ⟨_, rfl⟩
        rw [← hx] at hcell
        have HX := Lib.hid hx
        by_cases m1 : x < 0
        · have m1b : decide (x < 0) = true := by simpa using m1
          have HNO := Lib.hid (show ¬ IsTree ms ls from fun T => by have := (T.mok k hlt).1; omega)
          clear hlt hx m1
          go_wp2_with (first
            | (go_at_call 31; refine (refN_calls _ 12).mono ?_; rintro e w2 ⟨rfl, hw2⟩; have HE2 := Aside0.mk (show w2.heap[w.heap.size + 1]? = some (.cells #[.bool false, .slice none 0 0, .int .i64 0] 30 (0, 0)) by rw [hw2, heap_old _ _ _ (blk_lt HEC.out)]; exact HEC.out); have HB2 := Aside0.mk (show Below w.heap.size w w2 by rw [hw2]; exact (HBW.out).alloc (HBW.out).size _); clear hw2)
            | (go_at_call 32; refine (refAt_E _ 2 k 12).mono ?_; rintro e w3 ⟨AA, an, ac, rfl, hb⟩; have HE3 := Aside0.mk ((hb.block _ (blk_lt HE2.out)).trans HE2.out); have HB3 := Aside0.mk (below_step HB2.out hb); clear hb; obtain ⟨⟨q0, q1, q2⟩, q3, q4, q5⟩ := E_cells (x := (0, 0)) HE3.out))
          clear q0 q1 q2 q3 q4 q5
          (try simp only [Exit.inBlock, Exit.then])
          obtain ⟨⟨x0, x1, x2⟩, _⟩ := E_cells (x := (0, 0)) (E_put HE3.out (.bool true) (.slice AA an ac) (.int .i64 12))
          exact bodyPost_ret (v := .agg #[.bool true, .slice AA an ac, .int .i64 12]) (by simp [results, Tryz.results5, go_sem, x0, x1, x2]) rfl ⟨_, _, _, _, _, rfl, ⟨fun h => (by cases h), fun T => absurd T HNO.out⟩, below_put HB3.out (Nat.le_succ _) _ _ _⟩
        · have m1b : decide (x < 0) = false := by simpa using m1
          by_cases m2 : x ≥ 8
          · have m2b : decide (x ≥ 8) = true := by simpa using m2
            have HNO := Lib.hid (show ¬ IsTree ms ls from fun T => by have := (T.mok k hlt).2.1; omega)
            clear hlt hx m1 m2
            go_wp2_with (first
              | (go_at_call 31; refine (refN_calls _ 12).mono ?_; rintro e w2 ⟨rfl, hw2⟩; have HE2 := Aside0.mk (show w2.heap[w.heap.size + 1]? = some (.cells #[.bool false, .slice none 0 0, .int .i64 0] 30 (0, 0)) by rw [hw2, heap_old _ _ _ (blk_lt HEC.out)]; exact HEC.out); have HB2 := Aside0.mk (show Below w.heap.size w w2 by rw [hw2]; exact (HBW.out).alloc (HBW.out).size _); clear hw2)
              | (go_at_call 32; refine (refAt_E _ 2 k 12).mono ?_; rintro e w3 ⟨AA, an, ac, rfl, hb⟩; have HE3 := Aside0.mk ((hb.block _ (blk_lt HE2.out)).trans HE2.out); have HB3 := Aside0.mk (below_step HB2.out hb); clear hb; obtain ⟨⟨q0, q1, q2⟩, q3, q4, q5⟩ := E_cells (x := (0, 0)) HE3.out))
            clear q0 q1 q2 q3 q4 q5
            (try simp only [Exit.inBlock, Exit.then])
            obtain ⟨⟨x0, x1, x2⟩, _⟩ := E_cells (x := (0, 0)) (E_put HE3.out (.bool true) (.slice AA an ac) (.int .i64 12))
            exact bodyPost_ret (v := .agg #[.bool true, .slice AA an ac, .int .i64 12]) (by simp [results, Tryz.results5, go_sem, x0, x1, x2]) rfl ⟨_, _, _, _, _, rfl, ⟨fun h => (by cases h), fun T => absurd T HNO.out⟩, below_put HB3.out (Nat.le_succ _) _ _ _⟩
          · have m2b : decide (x ≥ 8) = false := by simpa using m2
            by_cases m3 : (k : Int) > 0
            · have m3b : decide ((k : Int) > 0) = true := by simpa using m3
              obtain ⟨j, hj⟩ : ∃ j : Nat, k = j + 1 := ⟨k - 1, by omega⟩
              have j0 : (0 : Int) ≤ (k : Int) - 1 := by omega
              have j1 : (k : Int) - 1 < ms.length := by omega
              obtain ⟨_, e, hcell2⟩ := C_cell HRZ.out (show j < ms.length by omega)
              cases e
              obtain ⟨y, hy⟩ : ∃ y, y = rd ms j := ⟨_, rfl⟩
              have HY := Lib.hid (show y = rd ms ((k - 1 : Nat) : Int) by rw [hy, hj]; simp)
              rw [← hy, show j = k - 1 by omega] at hcell2
              by_cases m4 : y ≥ x
              · have m4b : decide (y ≥ x) = true := by simpa using m4
                have HNO := Lib.hid (show ¬ IsTree ms ls from fun T => by have := (T.mok k hlt).2.2 (by omega); rw [← HY.out, ← hx] at this; omega)
                clear hlt hx hy hj m1 m2 m3 m4
                go_wp2_with (first
                  | (go_at_call 31; refine (refN_calls _ 12).mono ?_; rintro e w2 ⟨rfl, hw2⟩; have HE2 := Aside0.mk (show w2.heap[w.heap.size + 1]? = some (.cells #[.bool false, .slice none 0 0, .int .i64 0] 30 (0, 0)) by rw [hw2, heap_old _ _ _ (blk_lt HEC.out)]; exact HEC.out); have HB2 := Aside0.mk (show Below w.heap.size w w2 by rw [hw2]; exact (HBW.out).alloc (HBW.out).size _); clear hw2)
                  | (go_at_call 32; refine (refAt_E _ 2 k 12).mono ?_; rintro e w3 ⟨AA, an, ac, rfl, hb⟩; have HE3 := Aside0.mk ((hb.block _ (blk_lt HE2.out)).trans HE2.out); have HB3 := Aside0.mk (below_step HB2.out hb); clear hb; obtain ⟨⟨q0, q1, q2⟩, q3, q4, q5⟩ := E_cells (x := (0, 0)) HE3.out))
                clear q0 q1 q2 q3 q4 q5
                (try simp only [Exit.inBlock, Exit.then])
                obtain ⟨⟨x0, x1, x2⟩, _⟩ := E_cells (x := (0, 0)) (E_put HE3.out (.bool true) (.slice AA an ac) (.int .i64 12))
                exact bodyPost_ret (v := .agg #[.bool true, .slice AA an ac, .int .i64 12]) (by simp [results, Tryz.results5, go_sem, x0, x1, x2]) rfl ⟨_, _, _, _, _, rfl, ⟨fun h => (by cases h), fun T => absurd T HNO.out⟩, below_put HB3.out (Nat.le_succ _) _ _ _⟩
              · have m4b : decide (y ≥ x) = false := by simpa using m4
                have HS := Lib.hid (show MOk ms k from ⟨by omega, by omega, fun _ => by rw [← HY.out, ← hx]; omega⟩)
                clear hlt hx hy hj m1 m2 m3 m4
                go_wp2
                go_round
                case rel => exact ⟨k + 1, by have := HLT.out; omega, by go_num, fun q hq => if h : q < k then HMK.out q h else (by have e : q = k := (by omega); subst e; exact HS.out)⟩
                case measure => have := HLT.out; simp [intOf]; omega
            · have HS := Lib.hid (show MOk ms k from ⟨by omega, by omega, fun h => by omega⟩)
              obtain rfl : k = 0 := by omega
              have hc0 : wz.cell? ad = some (.int .i64 x) := by simpa [Addr.add] using hcell
              have k2 : (0 : Int) < ms.length := by omega
              clear hlt hx m1 m2 m3 hcell k0 k1
              go_wp2
              go_round
              case rel => exact ⟨1, by have := HLT.out; omega, by go_num, fun q hq => (by have e : q = 0 := (by omega); subst e; exact HS.out)⟩
              case measure => have := HLT.out; simp [intOf]; omega
      · have k1 : ¬ (k : Int) < ms.length := by omega
        obtain rfl : k = ms.length := by omega
        clear hlt hk
        go_wp2
        clear g0 g1 k1
        go_loopw [47] (fun v47 wr => ∃ j : Nat, v47 = .int .i64 j ∧ j ≤ ls.length ∧ Aside0 (Below wz.heap.size wz wr) ∧ Hid (∀ q, q < j → LOk ms ls q)) (fun v _ => ls.length - (intOf v).toNat)
        case atStart => exact ⟨0, rfl, Nat.zero_le _, ⟨Below.refl _ _⟩, fun q hq => by omega⟩
        case round =>
          obtain ⟨j, rfl, hj, HB, HLK⟩ := hrel
          by_cases hlt : j < ls.length
          · obtain ⟨ad, rfl, hc0, hc1⟩ := Lk_cell (Kd.C_below HLZ.out HB.out) hlt
            obtain ⟨x, hx⟩ : ∃ x, x = lkAt ls j := ⟨_, rfl⟩
            rw [← hx] at hc0 hc1
            have HX := Lib.hid hx
            obtain ⟨x1, x2⟩ := x
            simp only [] at hc0 hc1
            have j0 : (0 : Int) ≤ j := by omega
            have j1 : (j : Int) < ls.length := by omega
            have HLT := Lib.hid hlt
            clear hlt hx
            go_upto_region 12 with (fail)
            obtain ⟨w0, hw0⟩ : ∃ w0, w0 = wr.alloc (.cells #[.int .i64 x1, .int .i64 x2] 86) := ⟨_, rfl⟩
            rw [← hw0]
            have HBX := Aside0.mk (show w0.heap[wr.heap.size]? = some (.cells #[.int .i64 x1, .int .i64 x2] 86 (0, 0)) by rw [hw0]; exact heap_alloc_new _ _)
            have HB0 := Aside0.mk (show Below wz.heap.size wz w0 by rw [hw0]; exact below_alloc HB.out _)
            clear hw0 hc0 hc1
            have HCM := Lib.hid (Kd.C_below HRZ.out HB0.out)
            have HCL := Lib.hid (Kd.C_below HLZ.out HB0.out)
            obtain ⟨b0, b1⟩ := P_cells (x := (0, 0)) HBX.out
            obtain ⟨g0, g1⟩ := P_cells (x := (0, 0)) ((HB0.out.block _ (by rw [HSZ.out]; omega)).trans HBG.out)
            have HBC0 := Aside0.mk (below_step HBW.out HB0.out)
            have HEC0 := Aside0.mk ((HB0.out.block _ (by rw [HSZ.out]; omega)).trans HEC.out)
            by_cases d1 : x1 ≥ x2
            · have d1b : decide (x1 ≥ x2) = true := by simpa using d1
              have HNO := Lib.hid (show ¬ IsTree ms ls from fun T => by have := (T.lok j HLT.out).1; rw [← HX.out] at this; simp at this; omega)
              clear d1
              go_quiet (fail)
              clear b0 b1 g0 g1
              obtain ⟨wd, hwd⟩ : ∃ wd, wd = w0.drewN nq := ⟨_, rfl⟩
              rw [← hwd]
              have HBC := Aside0.mk (show Below w.heap.size w wd by rw [hwd]; exact pw_below_drewN HBC0.out _)
              have HEC1 := Aside0.mk (show wd.heap[w.heap.size + 1]? = some (.cells #[.bool false, .slice none 0 0, .int .i64 0] 30 (0, 0)) by rw [hwd]; exact HEC0.out)
              clear hwd
              go_wp2_with (first
                | (go_at_call 31; refine (refN_calls _ 13).mono ?_; rintro e w2 ⟨rfl, hw2⟩; have HE2 := Aside0.mk (show w2.heap[w.heap.size + 1]? = some (.cells #[.bool false, .slice none 0 0, .int .i64 0] 30 (0, 0)) by rw [hw2, heap_old _ _ _ (blk_lt HEC1.out)]; exact HEC1.out); have HB2 := Aside0.mk (show Below w.heap.size w w2 by rw [hw2]; exact (HBC.out).alloc (HBC.out).size _); clear hw2)
                | (go_at_call 32; refine (refAt_E _ 2 j 13).mono ?_; rintro e w3 ⟨AA, an, ac, rfl, hb⟩; have HE3 := Aside0.mk ((hb.block _ (blk_lt HE2.out)).trans HE2.out); have HB3 := Aside0.mk (below_step HB2.out hb); clear hb; obtain ⟨⟨q0, q1, q2⟩, q3, q4, q5⟩ := E_cells (x := (0, 0)) HE3.out))
              clear q0 q1 q2 q3 q4 q5
              (try simp only [Exit.inBlock, Exit.then])
              obtain ⟨⟨x0, x1, x2⟩, _⟩ := E_cells (x := (0, 0)) (E_put HE3.out (.bool true) (.slice AA an ac) (.int .i64 13))
              exact bodyPost_ret (v := .agg #[.bool true, .slice AA an ac, .int .i64 13]) (by simp [results, Tryz.results5, go_sem, x0, x1, x2]) rfl ⟨_, _, _, _, _, rfl, ⟨fun h => (by cases h), fun T => absurd T HNO.out⟩, below_put HB3.out (Nat.le_succ _) _ _ _⟩
            · have d1b : decide (x1 ≥ x2) = false := by simpa using d1
              by_cases d2 : x1 ∈ ms
              · have d2b : decide (x1 ∈ ms) = true := decide_eq_true d2
                by_cases d3 : x2 ∈ ms
                · have d3b : decide (x2 ∈ ms) = true := decide_eq_true d3
                  by_cases d4 : (j : Int) > 0
                  · have d4b : decide ((j : Int) > 0) = true := by simpa using d4
                    have d4x : (0 : Int) < (j : Int) := by omega
                    have d4y : 0 < j := by omega
                    have d4z : decide ((0 : Int) < (j : Int)) = true := by simpa using d4y
                    have d4w : decide (0 < j) = true := by simpa using d4y
                    obtain ⟨i, hi⟩ : ∃ i : Nat, j = i + 1 := ⟨j - 1, by omega⟩
                    have hij : (j : Int) - 1 = i := by omega
                    have i0 : (0 : Int) ≤ i := by omega
                    have i1 : (i : Int) < ls.length := by omega
                    have hw1 : IntKind.i64.wrap ((j : Int) - 1) = (i : Int) := by rw [IntKind.wrap_i64]; omega
                    have hw2 : IntKind.i64.wrap (i : Int) = (i : Int) := by rw [IntKind.wrap_i64]; omega
                    obtain ⟨_, e, p0, p1⟩ := Lk_cell HCL.out (show i < ls.length by have := HLT.out; omega)
                    cases e
                    obtain ⟨y, hy⟩ : ∃ y, y = lkAt ls i := ⟨_, rfl⟩
                    have HY := Lib.hid (show y = lkAt ls (j - 1) by rw [hy, hi]; simp)
                    rw [← hy] at p0 p1
                    obtain ⟨y1, y2⟩ := y
                    simp only [] at p0 p1
                    have X0 := Lib.hid b0
                    have XL0 := Lib.hid (cell_in b0)
                    have X1 := Lib.hid b1
                    have XL1 := Lib.hid (cell_in b1)
                    have G0 := Lib.hid g0
                    have GL0 := Lib.hid (cell_in g0)
                    have G1 := Lib.hid g1
                    have GL1 := Lib.hid (cell_in g1)
                    have P0 := Lib.hid p0
                    have PL0 := Lib.hid (cell_in p0)
                    have P1 := Lib.hid p1
                    have PL1 := Lib.hid (cell_in p1)
                    have D1 := Lib.hid d1
                    have D2 := Lib.hid d2
                    have D3 := Lib.hid d3
                    clear hy hi b0 b1 g0 g1 p0 p1 d1 d2 d3 d4
                    by_cases d5 : Ahead (y1, y2) (x1, x2)
                    · have HAB := Lib.hid (show aheadB (y1, y2) (x1, x2) = true from aheadB_iff.2 d5)
                      have HS := Lib.hid (show LOk ms ls j by
                        refine ⟨?_, ?_, ?_, fun _ => ?_⟩ <;> rw [← HX.out]
                        · have := D1.out; simp; omega
                        · exact D2.out
                        · exact D3.out
                        · rw [← HY.out]; exact d5)
                      clear d5
                      go_wp2
                      refine wp_region_noPanic ?_
                      refine wp_region_held_drew (S := fun W => Below w0.heap.size w0 W) (by kernel_rfl) (by first | exact Below.refl _ _ | exact (Below.refl _ _).drew) (fun hHeld => ?_)
                      refine wpAnyH_take (i := 0) (v := ?_) rfl (by kernel_rfl) (by kernel_rfl) (by kernel_rfl) (fun _ _ _ h => h) (Or.inl ⟨by rfl, ?_⟩) (by assumption) ?_
                      rotate_left 1
                      · first | (intro w hSw; go_simp; done) | (intro w hSw; go_simp; with_reducible rfl)
                      try simp only [Act.put, List.getElem_toArray, List.getElem_cons_zero, List.getElem_cons_succ, List.setIfInBounds_toArray, List.set_cons_zero, List.set_cons_succ]
                      refine wpAnyH_take (i := 1) (v := ?_) rfl (by kernel_rfl) (by kernel_rfl) (by kernel_rfl) (fun _ _ _ h => h) (Or.inl ⟨by rfl, ?_⟩) (by assumption) ?_
                      rotate_left 1
                      · first | (intro w hSw; have x0 := Below.keeps hSw X0.out XL0.out; have x1 := Below.keeps hSw X1.out XL1.out; have g0 := Below.keeps hSw G0.out GL0.out; have g1 := Below.keeps hSw G1.out GL1.out; have p0 := Below.keeps hSw P0.out PL0.out; have p1 := Below.keeps hSw P1.out PL1.out; go_simp; done) | (intro w hSw; have x0 := Below.keeps hSw X0.out XL0.out; have x1 := Below.keeps hSw X1.out XL1.out; have g0 := Below.keeps hSw G0.out GL0.out; have g1 := Below.keeps hSw G1.out GL1.out; have p0 := Below.keeps hSw P0.out PL0.out; have p1 := Below.keeps hSw P1.out PL1.out; go_simp; with_reducible rfl)
                      try simp only [Act.put, List.getElem_toArray, List.getElem_cons_zero, List.getElem_cons_succ, List.setIfInBounds_toArray, List.set_cons_zero, List.set_cons_succ]
                      refine wpAnyH_take (i := 2) (v := ?_) rfl (by kernel_rfl) (by kernel_rfl) (by kernel_rfl) (fun _ _ _ h => h) (Or.inl ⟨by rfl, ?_⟩) (by assumption) ?_
                      rotate_left 1
                      · first | (intro w hSw; go_simp; done) | (intro w hSw; go_simp; with_reducible rfl)
                      try simp only [Act.put, List.getElem_toArray, List.getElem_cons_zero, List.getElem_cons_succ, List.setIfInBounds_toArray, List.set_cons_zero, List.set_cons_succ]
                      refine wpAnyH_take (i := 3) (v := ?_) rfl (by kernel_rfl) (by kernel_rfl) (by kernel_rfl) (fun _ _ _ h => h) (Or.inl ⟨by rfl, ?_⟩) (by assumption) ?_
                      rotate_left 1
                      · first | (intro w hSw; have x0 := Below.keeps hSw X0.out XL0.out; have x1 := Below.keeps hSw X1.out XL1.out; have g0 := Below.keeps hSw G0.out GL0.out; have g1 := Below.keeps hSw G1.out GL1.out; have p0 := Below.keeps hSw P0.out PL0.out; have p1 := Below.keeps hSw P1.out PL1.out; go_simp; done) | (intro w hSw; have x0 := Below.keeps hSw X0.out XL0.out; have x1 := Below.keeps hSw X1.out XL1.out; have g0 := Below.keeps hSw G0.out GL0.out; have g1 := Below.keeps hSw G1.out GL1.out; have p0 := Below.keeps hSw P0.out PL0.out; have p1 := Below.keeps hSw P1.out PL1.out; go_simp; with_reducible rfl)
                      try simp only [Act.put, List.getElem_toArray, List.getElem_cons_zero, List.getElem_cons_succ, List.setIfInBounds_toArray, List.set_cons_zero, List.set_cons_succ]
                      refine wpAnyH_take (i := 4) (v := ?_) rfl (by kernel_rfl) (by kernel_rfl) (by kernel_rfl) (fun _ _ _ h => h) (Or.inl ⟨by rfl, ?_⟩) (by assumption) ?_
                      rotate_left 1
                      · first | (intro w hSw; go_simp; done) | (intro w hSw; go_simp; with_reducible rfl)
                      try simp only [Act.put, List.getElem_toArray, List.getElem_cons_zero, List.getElem_cons_succ, List.setIfInBounds_toArray, List.set_cons_zero, List.set_cons_succ]
                      refine wpAnyH_take (i := 5) (v := ?_) rfl (by kernel_rfl) (by kernel_rfl) (by kernel_rfl) (fun _ _ _ h => h) (Or.inl ⟨by rfl, ?_⟩) (by assumption) ?_
                      rotate_left 1
                      · first | (intro w hSw; go_simp; done) | (intro w hSw; go_simp; with_reducible rfl)
                      try simp only [Act.put, List.getElem_toArray, List.getElem_cons_zero, List.getElem_cons_succ, List.setIfInBounds_toArray, List.set_cons_zero, List.set_cons_succ]
                      refine wpAnyH_take (i := 6) (v := ?_) rfl (by kernel_rfl) (by kernel_rfl) (by kernel_rfl) (fun _ _ _ h => h) (Or.inl ⟨by rfl, ?_⟩) (by assumption) ?_
                      rotate_left 1
                      · first | (intro w hSw; go_simp; done) | (intro w hSw; go_simp; with_reducible rfl)
                      try simp only [Act.put, List.getElem_toArray, List.getElem_cons_zero, List.getElem_cons_succ, List.setIfInBounds_toArray, List.set_cons_zero, List.set_cons_succ]
                      refine wpAnyH_take (i := 7) (v := ?_) rfl (by kernel_rfl) (by kernel_rfl) (by kernel_rfl) (fun _ _ _ h => h) (Or.inl ⟨by rfl, ?_⟩) (by assumption) ?_
                      rotate_left 1
                      · first | (intro w hSw; have x0 := Below.keeps hSw X0.out XL0.out; have x1 := Below.keeps hSw X1.out XL1.out; have g0 := Below.keeps hSw G0.out GL0.out; have g1 := Below.keeps hSw G1.out GL1.out; have p0 := Below.keeps hSw P0.out PL0.out; have p1 := Below.keeps hSw P1.out PL1.out; go_simp; done) | (intro w hSw; have x0 := Below.keeps hSw X0.out XL0.out; have x1 := Below.keeps hSw X1.out XL1.out; have g0 := Below.keeps hSw G0.out GL0.out; have g1 := Below.keeps hSw G1.out GL1.out; have p0 := Below.keeps hSw P0.out PL0.out; have p1 := Below.keeps hSw P1.out PL1.out; go_simp; with_reducible rfl)
                      try simp only [Act.put, List.getElem_toArray, List.getElem_cons_zero, List.getElem_cons_succ, List.setIfInBounds_toArray, List.set_cons_zero, List.set_cons_succ]
                      refine wpAnyH_take (i := 8) (v := ?_) rfl (by kernel_rfl) (by kernel_rfl) (by kernel_rfl) (fun _ _ _ h => h) (Or.inl ⟨by rfl, ?_⟩) (by assumption) ?_
                      rotate_left 1
                      · first | (intro w hSw; go_simp; done) | (intro w hSw; go_simp; with_reducible rfl)
                      try simp only [Act.put, List.getElem_toArray, List.getElem_cons_zero, List.getElem_cons_succ, List.setIfInBounds_toArray, List.set_cons_zero, List.set_cons_succ]
                      refine wpAnyH_take (i := 9) (v := ?_) rfl (by kernel_rfl) (by kernel_rfl) (by kernel_rfl) (fun _ _ _ h => h) (Or.inl ⟨by rfl, ?_⟩) (by assumption) ?_
                      rotate_left 1
                      · first | (intro w hSw; have x0 := Below.keeps hSw X0.out XL0.out; have x1 := Below.keeps hSw X1.out XL1.out; have g0 := Below.keeps hSw G0.out GL0.out; have g1 := Below.keeps hSw G1.out GL1.out; have p0 := Below.keeps hSw P0.out PL0.out; have p1 := Below.keeps hSw P1.out PL1.out; go_simp; done) | (intro w hSw; have x0 := Below.keeps hSw X0.out XL0.out; have x1 := Below.keeps hSw X1.out XL1.out; have g0 := Below.keeps hSw G0.out GL0.out; have g1 := Below.keeps hSw G1.out GL1.out; have p0 := Below.keeps hSw P0.out PL0.out; have p1 := Below.keeps hSw P1.out PL1.out; go_simp; with_reducible rfl)
                      try simp only [Act.put, List.getElem_toArray, List.getElem_cons_zero, List.getElem_cons_succ, List.setIfInBounds_toArray, List.set_cons_zero, List.set_cons_succ]
                      refine wpAnyH_ready (rs := [10]) (by kernel_rfl) (by simp) ?_
                      refine AllReadyH.cons rfl (fun K hK => ?_) AllReadyH.nil
                      go_simp
                      (go_at_call 33; refine (has_calls _ _ _ ms _ (Kd.C_below HCM.out hHeld)).mono ?_; rintro e w5 ⟨rfl, rfl⟩; rw [d2b])
                      go_simp
                      refine hK.out _ _ hHeld (fun hHeld => ?_)
                      clear hK K
                      try simp only [Act.put, List.getElem_toArray, List.getElem_cons_zero, List.getElem_cons_succ, List.setIfInBounds_toArray, List.set_cons_zero, List.set_cons_succ]
                      refine wpAnyH_take (i := 11) (v := ?_) rfl (by kernel_rfl) (by kernel_rfl) (by kernel_rfl) (fun _ _ _ h => h) (Or.inl ⟨by rfl, ?_⟩) (by assumption) ?_
                      rotate_left 1
                      · first | (intro w hSw; go_simp; done) | (intro w hSw; go_simp; with_reducible rfl)
                      try simp only [Act.put, List.getElem_toArray, List.getElem_cons_zero, List.getElem_cons_succ, List.setIfInBounds_toArray, List.set_cons_zero, List.set_cons_succ]
                      refine wpAnyH_take (i := 12) (v := ?_) rfl (by kernel_rfl) (by kernel_rfl) (by kernel_rfl) (fun _ _ _ h => h) (Or.inl ⟨by rfl, ?_⟩) (by assumption) ?_
                      rotate_left 1
                      · first | (intro w hSw; go_simp; done) | (intro w hSw; go_simp; with_reducible rfl)
                      try simp only [Act.put, List.getElem_toArray, List.getElem_cons_zero, List.getElem_cons_succ, List.setIfInBounds_toArray, List.set_cons_zero, List.set_cons_succ]
                      refine wpAnyH_take (i := 13) (v := ?_) rfl (by kernel_rfl) (by kernel_rfl) (by kernel_rfl) (fun _ _ _ h => h) (Or.inl ⟨by rfl, ?_⟩) (by assumption) ?_
                      rotate_left 1
                      · first | (intro w hSw; go_simp; done) | (intro w hSw; go_simp; with_reducible rfl)
                      try simp only [Act.put, List.getElem_toArray, List.getElem_cons_zero, List.getElem_cons_succ, List.setIfInBounds_toArray, List.set_cons_zero, List.set_cons_succ]
                      refine wpAnyH_take (i := 14) (v := ?_) rfl (by kernel_rfl) (by kernel_rfl) (by kernel_rfl) (fun _ _ _ h => h) (Or.inl ⟨by rfl, ?_⟩) (by assumption) ?_
                      rotate_left 1
                      · first | (intro w hSw; go_simp; done) | (intro w hSw; go_simp; with_reducible rfl)
                      try simp only [Act.put, List.getElem_toArray, List.getElem_cons_zero, List.getElem_cons_succ, List.setIfInBounds_toArray, List.set_cons_zero, List.set_cons_succ]
                      refine wpAnyH_take (i := 15) (v := ?_) rfl (by kernel_rfl) (by kernel_rfl) (by kernel_rfl) (fun _ _ _ h => h) (Or.inl ⟨by rfl, ?_⟩) (by assumption) ?_
                      rotate_left 1
                      · first | (intro w hSw; have x0 := Below.keeps hSw X0.out XL0.out; have x1 := Below.keeps hSw X1.out XL1.out; have g0 := Below.keeps hSw G0.out GL0.out; have g1 := Below.keeps hSw G1.out GL1.out; have p0 := Below.keeps hSw P0.out PL0.out; have p1 := Below.keeps hSw P1.out PL1.out; go_simp; done) | (intro w hSw; have x0 := Below.keeps hSw X0.out XL0.out; have x1 := Below.keeps hSw X1.out XL1.out; have g0 := Below.keeps hSw G0.out GL0.out; have g1 := Below.keeps hSw G1.out GL1.out; have p0 := Below.keeps hSw P0.out PL0.out; have p1 := Below.keeps hSw P1.out PL1.out; go_simp; with_reducible rfl)
                      try simp only [Act.put, List.getElem_toArray, List.getElem_cons_zero, List.getElem_cons_succ, List.setIfInBounds_toArray, List.set_cons_zero, List.set_cons_succ]
                      refine wpAnyH_take (i := 16) (v := ?_) rfl (by kernel_rfl) (by kernel_rfl) (by kernel_rfl) (fun _ _ _ h => h) (Or.inl ⟨by rfl, ?_⟩) (by assumption) ?_
                      rotate_left 1
                      · first | (intro w hSw; go_simp; done) | (intro w hSw; go_simp; with_reducible rfl)
                      try simp only [Act.put, List.getElem_toArray, List.getElem_cons_zero, List.getElem_cons_succ, List.setIfInBounds_toArray, List.set_cons_zero, List.set_cons_succ]
                      refine wpAnyH_take (i := 17) (v := ?_) rfl (by kernel_rfl) (by kernel_rfl) (by kernel_rfl) (fun _ _ _ h => h) (Or.inl ⟨by rfl, ?_⟩) (by assumption) ?_
                      rotate_left 1
                      · first | (intro w hSw; have x0 := Below.keeps hSw X0.out XL0.out; have x1 := Below.keeps hSw X1.out XL1.out; have g0 := Below.keeps hSw G0.out GL0.out; have g1 := Below.keeps hSw G1.out GL1.out; have p0 := Below.keeps hSw P0.out PL0.out; have p1 := Below.keeps hSw P1.out PL1.out; go_simp; done) | (intro w hSw; have x0 := Below.keeps hSw X0.out XL0.out; have x1 := Below.keeps hSw X1.out XL1.out; have g0 := Below.keeps hSw G0.out GL0.out; have g1 := Below.keeps hSw G1.out GL1.out; have p0 := Below.keeps hSw P0.out PL0.out; have p1 := Below.keeps hSw P1.out PL1.out; go_simp; with_reducible rfl)
                      try simp only [Act.put, List.getElem_toArray, List.getElem_cons_zero, List.getElem_cons_succ, List.setIfInBounds_toArray, List.set_cons_zero, List.set_cons_succ]
                      refine wpAnyH_ready (rs := [18]) (by kernel_rfl) (by simp) ?_
                      refine AllReadyH.cons rfl (fun K hK => ?_) AllReadyH.nil
                      go_simp
                      (go_at_call 33; refine (has_calls _ _ _ ms _ (Kd.C_below HCM.out hHeld)).mono ?_; rintro e w5 ⟨rfl, rfl⟩; rw [d3b])
                      go_simp
                      refine hK.out _ _ hHeld (fun hHeld => ?_)
                      clear hK K
                      try simp only [Act.put, List.getElem_toArray, List.getElem_cons_zero, List.getElem_cons_succ, List.setIfInBounds_toArray, List.set_cons_zero, List.set_cons_succ]
                      refine wpAnyH_take (i := 19) (v := ?_) rfl (by kernel_rfl) (by kernel_rfl) (by kernel_rfl) (fun _ _ _ h => h) (Or.inl ⟨by rfl, ?_⟩) (by assumption) ?_
                      rotate_left 1
                      · first | (intro w hSw; go_simp; done) | (intro w hSw; go_simp; with_reducible rfl)
                      try simp only [Act.put, List.getElem_toArray, List.getElem_cons_zero, List.getElem_cons_succ, List.setIfInBounds_toArray, List.set_cons_zero, List.set_cons_succ]
                      refine wpAnyH_take (i := 20) (v := ?_) rfl (by kernel_rfl) (by kernel_rfl) (by kernel_rfl) (fun _ _ _ h => h) (Or.inl ⟨by rfl, ?_⟩) (by assumption) ?_
                      rotate_left 1
                      · first | (intro w hSw; go_simp; done) | (intro w hSw; go_simp; with_reducible rfl)
                      try simp only [Act.put, List.getElem_toArray, List.getElem_cons_zero, List.getElem_cons_succ, List.setIfInBounds_toArray, List.set_cons_zero, List.set_cons_succ]
                      refine wpAnyH_take (i := 21) (v := ?_) rfl (by kernel_rfl) (by kernel_rfl) (by kernel_rfl) (fun _ _ _ h => h) (Or.inl ⟨by rfl, ?_⟩) (by assumption) ?_
                      rotate_left 1
                      · first | (intro w hSw; go_simp; done) | (intro w hSw; go_simp; with_reducible rfl)
                      try simp only [Act.put, List.getElem_toArray, List.getElem_cons_zero, List.getElem_cons_succ, List.setIfInBounds_toArray, List.set_cons_zero, List.set_cons_succ]
                      refine wpAnyH_take (i := 22) (v := ?_) rfl (by kernel_rfl) (by kernel_rfl) (by kernel_rfl) (fun _ _ _ h => h) (Or.inl ⟨by rfl, ?_⟩) (by assumption) ?_
                      rotate_left 1
                      · first | (intro w hSw; go_simp; done) | (intro w hSw; go_simp; with_reducible rfl)
                      try simp only [Act.put, List.getElem_toArray, List.getElem_cons_zero, List.getElem_cons_succ, List.setIfInBounds_toArray, List.set_cons_zero, List.set_cons_succ]
                      refine wpAnyH_take (i := 23) (v := ?_) rfl (by kernel_rfl) (by kernel_rfl) (by kernel_rfl) (fun _ _ _ h => h) (Or.inl ⟨by rfl, ?_⟩) (by assumption) ?_
                      rotate_left 1
                      · first | (intro w hSw; go_simp; done) | (intro w hSw; go_simp; with_reducible rfl)
                      try simp only [Act.put, List.getElem_toArray, List.getElem_cons_zero, List.getElem_cons_succ, List.setIfInBounds_toArray, List.set_cons_zero, List.set_cons_succ]
                      refine wpAnyH_take (i := 24) (v := ?_) rfl (by kernel_rfl) (by kernel_rfl) (by kernel_rfl) (fun _ _ _ h => h) (Or.inl ⟨by rfl, ?_⟩) (by assumption) ?_
                      rotate_left 1
                      · first | (intro w hSw; go_simp; done) | (intro w hSw; go_simp; with_reducible rfl)
                      try simp only [Act.put, List.getElem_toArray, List.getElem_cons_zero, List.getElem_cons_succ, List.setIfInBounds_toArray, List.set_cons_zero, List.set_cons_succ]
                      refine wpAnyH_take (i := 25) (v := ?_) rfl (by kernel_rfl) (by kernel_rfl) (by kernel_rfl) (fun _ _ _ h => h) (Or.inl ⟨by rfl, ?_⟩) (by assumption) ?_
                      rotate_left 1
                      · first | (intro w hSw; go_simp; done) | (intro w hSw; go_simp; with_reducible rfl)
                      try simp only [Act.put, List.getElem_toArray, List.getElem_cons_zero, List.getElem_cons_succ, List.setIfInBounds_toArray, List.set_cons_zero, List.set_cons_succ]
                      refine wpAnyH_take (i := 26) (v := ?_) rfl (by kernel_rfl) (by kernel_rfl) (by kernel_rfl) (fun _ _ _ h => h) (Or.inl ⟨by rfl, ?_⟩) (by assumption) ?_
                      rotate_left 1
                      · first | (intro w hSw; have x0 := Below.keeps hSw X0.out XL0.out; have x1 := Below.keeps hSw X1.out XL1.out; have g0 := Below.keeps hSw G0.out GL0.out; have g1 := Below.keeps hSw G1.out GL1.out; have p0 := Below.keeps hSw P0.out PL0.out; have p1 := Below.keeps hSw P1.out PL1.out; go_simp; done) | (intro w hSw; have x0 := Below.keeps hSw X0.out XL0.out; have x1 := Below.keeps hSw X1.out XL1.out; have g0 := Below.keeps hSw G0.out GL0.out; have g1 := Below.keeps hSw G1.out GL1.out; have p0 := Below.keeps hSw P0.out PL0.out; have p1 := Below.keeps hSw P1.out PL1.out; go_simp; with_reducible rfl)
                      try simp only [Act.put, List.getElem_toArray, List.getElem_cons_zero, List.getElem_cons_succ, List.setIfInBounds_toArray, List.set_cons_zero, List.set_cons_succ]
                      refine wpAnyH_take (i := 27) (v := ?_) rfl (by kernel_rfl) (by kernel_rfl) (by kernel_rfl) (fun _ _ _ h => h) (Or.inl ⟨by rfl, ?_⟩) (by assumption) ?_
                      rotate_left 1
                      · first | (intro w hSw; go_simp; done) | (intro w hSw; go_simp; with_reducible rfl)
                      try simp only [Act.put, List.getElem_toArray, List.getElem_cons_zero, List.getElem_cons_succ, List.setIfInBounds_toArray, List.set_cons_zero, List.set_cons_succ]
                      refine wpAnyH_take (i := 28) (v := ?_) rfl (by kernel_rfl) (by kernel_rfl) (by kernel_rfl) (fun _ _ _ h => h) (Or.inl ⟨by rfl, ?_⟩) (by assumption) ?_
                      rotate_left 1
                      · first | (intro w hSw; go_simp; done) | (intro w hSw; go_simp; with_reducible rfl)
                      try simp only [Act.put, List.getElem_toArray, List.getElem_cons_zero, List.getElem_cons_succ, List.setIfInBounds_toArray, List.set_cons_zero, List.set_cons_succ]
                      refine wpAnyH_take (i := 29) (v := ?_) rfl (by kernel_rfl) (by kernel_rfl) (by kernel_rfl) (fun _ _ _ h => h) (Or.inl ⟨by rfl, ?_⟩) (by assumption) ?_
                      rotate_left 1
                      · first | (intro w hSw; go_simp; done) | (intro w hSw; go_simp; with_reducible rfl)
                      try simp only [Act.put, List.getElem_toArray, List.getElem_cons_zero, List.getElem_cons_succ, List.setIfInBounds_toArray, List.set_cons_zero, List.set_cons_succ]
                      refine wpAnyH_take (i := 30) (v := ?_) rfl (by kernel_rfl) (by kernel_rfl) (by kernel_rfl) (fun _ _ _ h => h) (Or.inl ⟨by rfl, ?_⟩) (by assumption) ?_
                      rotate_left 1
                      · first | (intro w hSw; have x0 := Below.keeps hSw X0.out XL0.out; have x1 := Below.keeps hSw X1.out XL1.out; have g0 := Below.keeps hSw G0.out GL0.out; have g1 := Below.keeps hSw G1.out GL1.out; have p0 := Below.keeps hSw P0.out PL0.out; have p1 := Below.keeps hSw P1.out PL1.out; go_simp; done) | (intro w hSw; have x0 := Below.keeps hSw X0.out XL0.out; have x1 := Below.keeps hSw X1.out XL1.out; have g0 := Below.keeps hSw G0.out GL0.out; have g1 := Below.keeps hSw G1.out GL1.out; have p0 := Below.keeps hSw P0.out PL0.out; have p1 := Below.keeps hSw P1.out PL1.out; go_simp; with_reducible rfl)
                      try simp only [Act.put, List.getElem_toArray, List.getElem_cons_zero, List.getElem_cons_succ, List.setIfInBounds_toArray, List.set_cons_zero, List.set_cons_succ]
                      refine wpAnyH_take (i := 31) (v := ?_) rfl (by kernel_rfl) (by kernel_rfl) (by kernel_rfl) (fun _ _ _ h => h) (Or.inl ⟨by rfl, ?_⟩) (by assumption) ?_
                      rotate_left 1
                      · first | (intro w hSw; have x0 := Below.keeps hSw X0.out XL0.out; have x1 := Below.keeps hSw X1.out XL1.out; have g0 := Below.keeps hSw G0.out GL0.out; have g1 := Below.keeps hSw G1.out GL1.out; have p0 := Below.keeps hSw P0.out PL0.out; have p1 := Below.keeps hSw P1.out PL1.out; go_simp; done) | (intro w hSw; have x0 := Below.keeps hSw X0.out XL0.out; have x1 := Below.keeps hSw X1.out XL1.out; have g0 := Below.keeps hSw G0.out GL0.out; have g1 := Below.keeps hSw G1.out GL1.out; have p0 := Below.keeps hSw P0.out PL0.out; have p1 := Below.keeps hSw P1.out PL1.out; go_simp; with_reducible rfl)
                      try simp only [Act.put, List.getElem_toArray, List.getElem_cons_zero, List.getElem_cons_succ, List.setIfInBounds_toArray, List.set_cons_zero, List.set_cons_succ]
                      refine wpAnyH_ready (rs := [32]) (by kernel_rfl) (by simp) ?_
                      refine AllReadyH.cons rfl (fun K hK => ?_) AllReadyH.nil
                      go_simp
                      (go_at_call 34; refine (ahead_calls _ _ _ _ _).mono ?_; rintro e w6 ⟨rfl, hb⟩; have hHeld2 := below_step hHeld hb; clear hb; rw [HAB.out])
                      go_simp
                      refine hK.out _ _ hHeld2 (fun hHeld => ?_)
                      clear hK K
                      try simp only [Act.put, List.getElem_toArray, List.getElem_cons_zero, List.getElem_cons_succ, List.setIfInBounds_toArray, List.set_cons_zero, List.set_cons_succ]
                      refine wpAnyH_take (i := 33) (v := ?_) rfl (by kernel_rfl) (by kernel_rfl) (by kernel_rfl) (fun _ _ _ h => h) (Or.inl ⟨by rfl, ?_⟩) (by assumption) ?_
                      rotate_left 1
                      · first | (intro w hSw; go_simp; done) | (intro w hSw; go_simp; with_reducible rfl)
                      try simp only [Act.put, List.getElem_toArray, List.getElem_cons_zero, List.getElem_cons_succ, List.setIfInBounds_toArray, List.set_cons_zero, List.set_cons_succ]
                      refine wpAnyH_take (i := 34) (v := ?_) rfl (by kernel_rfl) (by kernel_rfl) (by kernel_rfl) (fun _ _ _ h => h) (Or.inl ⟨by rfl, ?_⟩) (by assumption) ?_
                      rotate_left 1
                      · first | (intro w hSw; go_simp; done) | (intro w hSw; go_simp; with_reducible rfl)
                      try simp only [Act.put, List.getElem_toArray, List.getElem_cons_zero, List.getElem_cons_succ, List.setIfInBounds_toArray, List.set_cons_zero, List.set_cons_succ]
                      refine wpAnyH_take (i := 35) (v := ?_) rfl (by kernel_rfl) (by kernel_rfl) (by kernel_rfl) (fun _ _ _ h => h) (Or.inl ⟨by rfl, ?_⟩) (by assumption) ?_
                      rotate_left 1
                      · first | (intro w hSw; go_simp; done) | (intro w hSw; go_simp; with_reducible rfl)
                      try simp only [Act.put, List.getElem_toArray, List.getElem_cons_zero, List.getElem_cons_succ, List.setIfInBounds_toArray, List.set_cons_zero, List.set_cons_succ]
                      refine wpAnyH_done (by kernel_rfl) ?_ _
                      refine NoPanic.normal ?_
                      go_wp2
                      go_roundw
                      case rel => exact ⟨j + 1, by go_num, by have := HLT.out; omega, ⟨below_step HB0.out hHeld⟩, fun q hq => if h : q < j then HLK.out q h else (by have e : q = j := (by omega); subst e; exact HS.out)⟩
                      case measure => have := HLT.out; simp [intOf]; omega
                    · have HAB := Lib.hid (show aheadB (y1, y2) (x1, x2) = false by rw [Bool.eq_false_iff]; exact fun h => d5 (aheadB_iff.1 h))
                      have HNO := Lib.hid (show ¬ IsTree ms ls from fun T => d5 (by have := (T.lok j HLT.out).2.2.2 (by omega); rw [← HX.out, ← HY.out] at this; exact this))
                      clear d5
                      go_wp2
                      refine wp_region_noPanic ?_
                      refine wp_region_held_drew (S := fun W => Below w0.heap.size w0 W) (by kernel_rfl) (by first | exact Below.refl _ _ | exact (Below.refl _ _).drew) (fun hHeld => ?_)
                      refine wpAnyH_take (i := 0) (v := ?_) rfl (by kernel_rfl) (by kernel_rfl) (by kernel_rfl) (fun _ _ _ h => h) (Or.inl ⟨by rfl, ?_⟩) (by assumption) ?_
                      rotate_left 1
                      · first | (intro w hSw; go_simp; done) | (intro w hSw; go_simp; with_reducible rfl)
                      try simp only [Act.put, List.getElem_toArray, List.getElem_cons_zero, List.getElem_cons_succ, List.setIfInBounds_toArray, List.set_cons_zero, List.set_cons_succ]
                      refine wpAnyH_take (i := 1) (v := ?_) rfl (by kernel_rfl) (by kernel_rfl) (by kernel_rfl) (fun _ _ _ h => h) (Or.inl ⟨by rfl, ?_⟩) (by assumption) ?_
                      rotate_left 1
                      · first | (intro w hSw; have x0 := Below.keeps hSw X0.out XL0.out; have x1 := Below.keeps hSw X1.out XL1.out; have g0 := Below.keeps hSw G0.out GL0.out; have g1 := Below.keeps hSw G1.out GL1.out; have p0 := Below.keeps hSw P0.out PL0.out; have p1 := Below.keeps hSw P1.out PL1.out; go_simp; done) | (intro w hSw; have x0 := Below.keeps hSw X0.out XL0.out; have x1 := Below.keeps hSw X1.out XL1.out; have g0 := Below.keeps hSw G0.out GL0.out; have g1 := Below.keeps hSw G1.out GL1.out; have p0 := Below.keeps hSw P0.out PL0.out; have p1 := Below.keeps hSw P1.out PL1.out; go_simp; with_reducible rfl)
                      try simp only [Act.put, List.getElem_toArray, List.getElem_cons_zero, List.getElem_cons_succ, List.setIfInBounds_toArray, List.set_cons_zero, List.set_cons_succ]
                      refine wpAnyH_take (i := 2) (v := ?_) rfl (by kernel_rfl) (by kernel_rfl) (by kernel_rfl) (fun _ _ _ h => h) (Or.inl ⟨by rfl, ?_⟩) (by assumption) ?_
                      rotate_left 1
                      · first | (intro w hSw; go_simp; done) | (intro w hSw; go_simp; with_reducible rfl)
                      try simp only [Act.put, List.getElem_toArray, List.getElem_cons_zero, List.getElem_cons_succ, List.setIfInBounds_toArray, List.set_cons_zero, List.set_cons_succ]
                      refine wpAnyH_take (i := 3) (v := ?_) rfl (by kernel_rfl) (by kernel_rfl) (by kernel_rfl) (fun _ _ _ h => h) (Or.inl ⟨by rfl, ?_⟩) (by assumption) ?_
                      rotate_left 1
                      · first | (intro w hSw; have x0 := Below.keeps hSw X0.out XL0.out; have x1 := Below.keeps hSw X1.out XL1.out; have g0 := Below.keeps hSw G0.out GL0.out; have g1 := Below.keeps hSw G1.out GL1.out; have p0 := Below.keeps hSw P0.out PL0.out; have p1 := Below.keeps hSw P1.out PL1.out; go_simp; done) | (intro w hSw; have x0 := Below.keeps hSw X0.out XL0.out; have x1 := Below.keeps hSw X1.out XL1.out; have g0 := Below.keeps hSw G0.out GL0.out; have g1 := Below.keeps hSw G1.out GL1.out; have p0 := Below.keeps hSw P0.out PL0.out; have p1 := Below.keeps hSw P1.out PL1.out; go_simp; with_reducible rfl)
                      try simp only [Act.put, List.getElem_toArray, List.getElem_cons_zero, List.getElem_cons_succ, List.setIfInBounds_toArray, List.set_cons_zero, List.set_cons_succ]
                      refine wpAnyH_take (i := 4) (v := ?_) rfl (by kernel_rfl) (by kernel_rfl) (by kernel_rfl) (fun _ _ _ h => h) (Or.inl ⟨by rfl, ?_⟩) (by assumption) ?_
                      rotate_left 1
                      · first | (intro w hSw; go_simp; done) | (intro w hSw; go_simp; with_reducible rfl)
                      try simp only [Act.put, List.getElem_toArray, List.getElem_cons_zero, List.getElem_cons_succ, List.setIfInBounds_toArray, List.set_cons_zero, List.set_cons_succ]
                      refine wpAnyH_take (i := 5) (v := ?_) rfl (by kernel_rfl) (by kernel_rfl) (by kernel_rfl) (fun _ _ _ h => h) (Or.inl ⟨by rfl, ?_⟩) (by assumption) ?_
                      rotate_left 1
                      · first | (intro w hSw; go_simp; done) | (intro w hSw; go_simp; with_reducible rfl)
                      try simp only [Act.put, List.getElem_toArray, List.getElem_cons_zero, List.getElem_cons_succ, List.setIfInBounds_toArray, List.set_cons_zero, List.set_cons_succ]
                      refine wpAnyH_take (i := 6) (v := ?_) rfl (by kernel_rfl) (by kernel_rfl) (by kernel_rfl) (fun _ _ _ h => h) (Or.inl ⟨by rfl, ?_⟩) (by assumption) ?_
                      rotate_left 1
                      · first | (intro w hSw; go_simp; done) | (intro w hSw; go_simp; with_reducible rfl)
                      try simp only [Act.put, List.getElem_toArray, List.getElem_cons_zero, List.getElem_cons_succ, List.setIfInBounds_toArray, List.set_cons_zero, List.set_cons_succ]
                      refine wpAnyH_take (i := 7) (v := ?_) rfl (by kernel_rfl) (by kernel_rfl) (by kernel_rfl) (fun _ _ _ h => h) (Or.inl ⟨by rfl, ?_⟩) (by assumption) ?_
                      rotate_left 1
                      · first | (intro w hSw; have x0 := Below.keeps hSw X0.out XL0.out; have x1 := Below.keeps hSw X1.out XL1.out; have g0 := Below.keeps hSw G0.out GL0.out; have g1 := Below.keeps hSw G1.out GL1.out; have p0 := Below.keeps hSw P0.out PL0.out; have p1 := Below.keeps hSw P1.out PL1.out; go_simp; done) | (intro w hSw; have x0 := Below.keeps hSw X0.out XL0.out; have x1 := Below.keeps hSw X1.out XL1.out; have g0 := Below.keeps hSw G0.out GL0.out; have g1 := Below.keeps hSw G1.out GL1.out; have p0 := Below.keeps hSw P0.out PL0.out; have p1 := Below.keeps hSw P1.out PL1.out; go_simp; with_reducible rfl)
                      try simp only [Act.put, List.getElem_toArray, List.getElem_cons_zero, List.getElem_cons_succ, List.setIfInBounds_toArray, List.set_cons_zero, List.set_cons_succ]
                      refine wpAnyH_take (i := 8) (v := ?_) rfl (by kernel_rfl) (by kernel_rfl) (by kernel_rfl) (fun _ _ _ h => h) (Or.inl ⟨by rfl, ?_⟩) (by assumption) ?_
                      rotate_left 1
                      · first | (intro w hSw; go_simp; done) | (intro w hSw; go_simp; with_reducible rfl)
                      try simp only [Act.put, List.getElem_toArray, List.getElem_cons_zero, List.getElem_cons_succ, List.setIfInBounds_toArray, List.set_cons_zero, List.set_cons_succ]
                      refine wpAnyH_take (i := 9) (v := ?_) rfl (by kernel_rfl) (by kernel_rfl) (by kernel_rfl) (fun _ _ _ h => h) (Or.inl ⟨by rfl, ?_⟩) (by assumption) ?_
                      rotate_left 1
                      · first | (intro w hSw; have x0 := Below.keeps hSw X0.out XL0.out; have x1 := Below.keeps hSw X1.out XL1.out; have g0 := Below.keeps hSw G0.out GL0.out; have g1 := Below.keeps hSw G1.out GL1.out; have p0 := Below.keeps hSw P0.out PL0.out; have p1 := Below.keeps hSw P1.out PL1.out; go_simp; done) | (intro w hSw; have x0 := Below.keeps hSw X0.out XL0.out; have x1 := Below.keeps hSw X1.out XL1.out; have g0 := Below.keeps hSw G0.out GL0.out; have g1 := Below.keeps hSw G1.out GL1.out; have p0 := Below.keeps hSw P0.out PL0.out; have p1 := Below.keeps hSw P1.out PL1.out; go_simp; with_reducible rfl)
                      try simp only [Act.put, List.getElem_toArray, List.getElem_cons_zero, List.getElem_cons_succ, List.setIfInBounds_toArray, List.set_cons_zero, List.set_cons_succ]
                      refine wpAnyH_ready (rs := [10]) (by kernel_rfl) (by simp) ?_
                      refine AllReadyH.cons rfl (fun K hK => ?_) AllReadyH.nil
                      go_simp
                      (go_at_call 33; refine (has_calls _ _ _ ms _ (Kd.C_below HCM.out hHeld)).mono ?_; rintro e w5 ⟨rfl, rfl⟩; rw [d2b])
                      go_simp
                      refine hK.out _ _ hHeld (fun hHeld => ?_)
                      clear hK K
                      try simp only [Act.put, List.getElem_toArray, List.getElem_cons_zero, List.getElem_cons_succ, List.setIfInBounds_toArray, List.set_cons_zero, List.set_cons_succ]
                      refine wpAnyH_take (i := 11) (v := ?_) rfl (by kernel_rfl) (by kernel_rfl) (by kernel_rfl) (fun _ _ _ h => h) (Or.inl ⟨by rfl, ?_⟩) (by assumption) ?_
                      rotate_left 1
                      · first | (intro w hSw; go_simp; done) | (intro w hSw; go_simp; with_reducible rfl)
                      try simp only [Act.put, List.getElem_toArray, List.getElem_cons_zero, List.getElem_cons_succ, List.setIfInBounds_toArray, List.set_cons_zero, List.set_cons_succ]
                      refine wpAnyH_take (i := 12) (v := ?_) rfl (by kernel_rfl) (by kernel_rfl) (by kernel_rfl) (fun _ _ _ h => h) (Or.inl ⟨by rfl, ?_⟩) (by assumption) ?_
                      rotate_left 1
                      · first | (intro w hSw; go_simp; done) | (intro w hSw; go_simp; with_reducible rfl)
                      try simp only [Act.put, List.getElem_toArray, List.getElem_cons_zero, List.getElem_cons_succ, List.setIfInBounds_toArray, List.set_cons_zero, List.set_cons_succ]
                      refine wpAnyH_take (i := 13) (v := ?_) rfl (by kernel_rfl) (by kernel_rfl) (by kernel_rfl) (fun _ _ _ h => h) (Or.inl ⟨by rfl, ?_⟩) (by assumption) ?_
                      rotate_left 1
                      · first | (intro w hSw; go_simp; done) | (intro w hSw; go_simp; with_reducible rfl)
                      try simp only [Act.put, List.getElem_toArray, List.getElem_cons_zero, List.getElem_cons_succ, List.setIfInBounds_toArray, List.set_cons_zero, List.set_cons_succ]
                      refine wpAnyH_take (i := 14) (v := ?_) rfl (by kernel_rfl) (by kernel_rfl) (by kernel_rfl) (fun _ _ _ h => h) (Or.inl ⟨by rfl, ?_⟩) (by assumption) ?_
                      rotate_left 1
                      · first | (intro w hSw; go_simp; done) | (intro w hSw; go_simp; with_reducible rfl)
                      try simp only [Act.put, List.getElem_toArray, List.getElem_cons_zero, List.getElem_cons_succ, List.setIfInBounds_toArray, List.set_cons_zero, List.set_cons_succ]
                      refine wpAnyH_take (i := 15) (v := ?_) rfl (by kernel_rfl) (by kernel_rfl) (by kernel_rfl) (fun _ _ _ h => h) (Or.inl ⟨by rfl, ?_⟩) (by assumption) ?_
                      rotate_left 1
                      · first | (intro w hSw; have x0 := Below.keeps hSw X0.out XL0.out; have x1 := Below.keeps hSw X1.out XL1.out; have g0 := Below.keeps hSw G0.out GL0.out; have g1 := Below.keeps hSw G1.out GL1.out; have p0 := Below.keeps hSw P0.out PL0.out; have p1 := Below.keeps hSw P1.out PL1.out; go_simp; done) | (intro w hSw; have x0 := Below.keeps hSw X0.out XL0.out; have x1 := Below.keeps hSw X1.out XL1.out; have g0 := Below.keeps hSw G0.out GL0.out; have g1 := Below.keeps hSw G1.out GL1.out; have p0 := Below.keeps hSw P0.out PL0.out; have p1 := Below.keeps hSw P1.out PL1.out; go_simp; with_reducible rfl)
                      try simp only [Act.put, List.getElem_toArray, List.getElem_cons_zero, List.getElem_cons_succ, List.setIfInBounds_toArray, List.set_cons_zero, List.set_cons_succ]
                      refine wpAnyH_take (i := 16) (v := ?_) rfl (by kernel_rfl) (by kernel_rfl) (by kernel_rfl) (fun _ _ _ h => h) (Or.inl ⟨by rfl, ?_⟩) (by assumption) ?_
                      rotate_left 1
                      · first | (intro w hSw; go_simp; done) | (intro w hSw; go_simp; with_reducible rfl)
                      try simp only [Act.put, List.getElem_toArray, List.getElem_cons_zero, List.getElem_cons_succ, List.setIfInBounds_toArray, List.set_cons_zero, List.set_cons_succ]
                      refine wpAnyH_take (i := 17) (v := ?_) rfl (by kernel_rfl) (by kernel_rfl) (by kernel_rfl) (fun _ _ _ h => h) (Or.inl ⟨by rfl, ?_⟩) (by assumption) ?_
                      rotate_left 1
                      · first | (intro w hSw; have x0 := Below.keeps hSw X0.out XL0.out; have x1 := Below.keeps hSw X1.out XL1.out; have g0 := Below.keeps hSw G0.out GL0.out; have g1 := Below.keeps hSw G1.out GL1.out; have p0 := Below.keeps hSw P0.out PL0.out; have p1 := Below.keeps hSw P1.out PL1.out; go_simp; done) | (intro w hSw; have x0 := Below.keeps hSw X0.out XL0.out; have x1 := Below.keeps hSw X1.out XL1.out; have g0 := Below.keeps hSw G0.out GL0.out; have g1 := Below.keeps hSw G1.out GL1.out; have p0 := Below.keeps hSw P0.out PL0.out; have p1 := Below.keeps hSw P1.out PL1.out; go_simp; with_reducible rfl)
                      try simp only [Act.put, List.getElem_toArray, List.getElem_cons_zero, List.getElem_cons_succ, List.setIfInBounds_toArray, List.set_cons_zero, List.set_cons_succ]
                      refine wpAnyH_ready (rs := [18]) (by kernel_rfl) (by simp) ?_
                      refine AllReadyH.cons rfl (fun K hK => ?_) AllReadyH.nil
                      go_simp
                      (go_at_call 33; refine (has_calls _ _ _ ms _ (Kd.C_below HCM.out hHeld)).mono ?_; rintro e w5 ⟨rfl, rfl⟩; rw [d3b])
                      go_simp
                      refine hK.out _ _ hHeld (fun hHeld => ?_)
                      clear hK K
                      try simp only [Act.put, List.getElem_toArray, List.getElem_cons_zero, List.getElem_cons_succ, List.setIfInBounds_toArray, List.set_cons_zero, List.set_cons_succ]
                      refine wpAnyH_take (i := 19) (v := ?_) rfl (by kernel_rfl) (by kernel_rfl) (by kernel_rfl) (fun _ _ _ h => h) (Or.inl ⟨by rfl, ?_⟩) (by assumption) ?_
                      rotate_left 1
                      · first | (intro w hSw; go_simp; done) | (intro w hSw; go_simp; with_reducible rfl)
                      try simp only [Act.put, List.getElem_toArray, List.getElem_cons_zero, List.getElem_cons_succ, List.setIfInBounds_toArray, List.set_cons_zero, List.set_cons_succ]
                      refine wpAnyH_take (i := 20) (v := ?_) rfl (by kernel_rfl) (by kernel_rfl) (by kernel_rfl) (fun _ _ _ h => h) (Or.inl ⟨by rfl, ?_⟩) (by assumption) ?_
                      rotate_left 1
                      · first | (intro w hSw; go_simp; done) | (intro w hSw; go_simp; with_reducible rfl)
                      try simp only [Act.put, List.getElem_toArray, List.getElem_cons_zero, List.getElem_cons_succ, List.setIfInBounds_toArray, List.set_cons_zero, List.set_cons_succ]
                      refine wpAnyH_take (i := 21) (v := ?_) rfl (by kernel_rfl) (by kernel_rfl) (by kernel_rfl) (fun _ _ _ h => h) (Or.inl ⟨by rfl, ?_⟩) (by assumption) ?_
                      rotate_left 1
                      · first | (intro w hSw; go_simp; done) | (intro w hSw; go_simp; with_reducible rfl)
                      try simp only [Act.put, List.getElem_toArray, List.getElem_cons_zero, List.getElem_cons_succ, List.setIfInBounds_toArray, List.set_cons_zero, List.set_cons_succ]
                      refine wpAnyH_take (i := 22) (v := ?_) rfl (by kernel_rfl) (by kernel_rfl) (by kernel_rfl) (fun _ _ _ h => h) (Or.inl ⟨by rfl, ?_⟩) (by assumption) ?_
                      rotate_left 1
                      · first | (intro w hSw; go_simp; done) | (intro w hSw; go_simp; with_reducible rfl)
                      try simp only [Act.put, List.getElem_toArray, List.getElem_cons_zero, List.getElem_cons_succ, List.setIfInBounds_toArray, List.set_cons_zero, List.set_cons_succ]
                      refine wpAnyH_take (i := 23) (v := ?_) rfl (by kernel_rfl) (by kernel_rfl) (by kernel_rfl) (fun _ _ _ h => h) (Or.inl ⟨by rfl, ?_⟩) (by assumption) ?_
                      rotate_left 1
                      · first | (intro w hSw; go_simp; done) | (intro w hSw; go_simp; with_reducible rfl)
                      try simp only [Act.put, List.getElem_toArray, List.getElem_cons_zero, List.getElem_cons_succ, List.setIfInBounds_toArray, List.set_cons_zero, List.set_cons_succ]
                      refine wpAnyH_take (i := 24) (v := ?_) rfl (by kernel_rfl) (by kernel_rfl) (by kernel_rfl) (fun _ _ _ h => h) (Or.inl ⟨by rfl, ?_⟩) (by assumption) ?_
                      rotate_left 1
                      · first | (intro w hSw; go_simp; done) | (intro w hSw; go_simp; with_reducible rfl)
                      try simp only [Act.put, List.getElem_toArray, List.getElem_cons_zero, List.getElem_cons_succ, List.setIfInBounds_toArray, List.set_cons_zero, List.set_cons_succ]
                      refine wpAnyH_take (i := 25) (v := ?_) rfl (by kernel_rfl) (by kernel_rfl) (by kernel_rfl) (fun _ _ _ h => h) (Or.inl ⟨by rfl, ?_⟩) (by assumption) ?_
                      rotate_left 1
                      · first | (intro w hSw; go_simp; done) | (intro w hSw; go_simp; with_reducible rfl)
                      try simp only [Act.put, List.getElem_toArray, List.getElem_cons_zero, List.getElem_cons_succ, List.setIfInBounds_toArray, List.set_cons_zero, List.set_cons_succ]
                      refine wpAnyH_take (i := 26) (v := ?_) rfl (by kernel_rfl) (by kernel_rfl) (by kernel_rfl) (fun _ _ _ h => h) (Or.inl ⟨by rfl, ?_⟩) (by assumption) ?_
                      rotate_left 1
                      · first | (intro w hSw; have x0 := Below.keeps hSw X0.out XL0.out; have x1 := Below.keeps hSw X1.out XL1.out; have g0 := Below.keeps hSw G0.out GL0.out; have g1 := Below.keeps hSw G1.out GL1.out; have p0 := Below.keeps hSw P0.out PL0.out; have p1 := Below.keeps hSw P1.out PL1.out; go_simp; done) | (intro w hSw; have x0 := Below.keeps hSw X0.out XL0.out; have x1 := Below.keeps hSw X1.out XL1.out; have g0 := Below.keeps hSw G0.out GL0.out; have g1 := Below.keeps hSw G1.out GL1.out; have p0 := Below.keeps hSw P0.out PL0.out; have p1 := Below.keeps hSw P1.out PL1.out; go_simp; with_reducible rfl)
                      try simp only [Act.put, List.getElem_toArray, List.getElem_cons_zero, List.getElem_cons_succ, List.setIfInBounds_toArray, List.set_cons_zero, List.set_cons_succ]
                      refine wpAnyH_take (i := 27) (v := ?_) rfl (by kernel_rfl) (by kernel_rfl) (by kernel_rfl) (fun _ _ _ h => h) (Or.inl ⟨by rfl, ?_⟩) (by assumption) ?_
                      rotate_left 1
                      · first | (intro w hSw; go_simp; done) | (intro w hSw; go_simp; with_reducible rfl)
                      try simp only [Act.put, List.getElem_toArray, List.getElem_cons_zero, List.getElem_cons_succ, List.setIfInBounds_toArray, List.set_cons_zero, List.set_cons_succ]
                      refine wpAnyH_take (i := 28) (v := ?_) rfl (by kernel_rfl) (by kernel_rfl) (by kernel_rfl) (fun _ _ _ h => h) (Or.inl ⟨by rfl, ?_⟩) (by assumption) ?_
                      rotate_left 1
                      · first | (intro w hSw; go_simp; done) | (intro w hSw; go_simp; with_reducible rfl)
                      try simp only [Act.put, List.getElem_toArray, List.getElem_cons_zero, List.getElem_cons_succ, List.setIfInBounds_toArray, List.set_cons_zero, List.set_cons_succ]
                      refine wpAnyH_take (i := 29) (v := ?_) rfl (by kernel_rfl) (by kernel_rfl) (by kernel_rfl) (fun _ _ _ h => h) (Or.inl ⟨by rfl, ?_⟩) (by assumption) ?_
                      rotate_left 1
                      · first | (intro w hSw; go_simp; done) | (intro w hSw; go_simp; with_reducible rfl)
                      try simp only [Act.put, List.getElem_toArray, List.getElem_cons_zero, List.getElem_cons_succ, List.setIfInBounds_toArray, List.set_cons_zero, List.set_cons_succ]
                      refine wpAnyH_take (i := 30) (v := ?_) rfl (by kernel_rfl) (by kernel_rfl) (by kernel_rfl) (fun _ _ _ h => h) (Or.inl ⟨by rfl, ?_⟩) (by assumption) ?_
                      rotate_left 1
                      · first | (intro w hSw; have x0 := Below.keeps hSw X0.out XL0.out; have x1 := Below.keeps hSw X1.out XL1.out; have g0 := Below.keeps hSw G0.out GL0.out; have g1 := Below.keeps hSw G1.out GL1.out; have p0 := Below.keeps hSw P0.out PL0.out; have p1 := Below.keeps hSw P1.out PL1.out; go_simp; done) | (intro w hSw; have x0 := Below.keeps hSw X0.out XL0.out; have x1 := Below.keeps hSw X1.out XL1.out; have g0 := Below.keeps hSw G0.out GL0.out; have g1 := Below.keeps hSw G1.out GL1.out; have p0 := Below.keeps hSw P0.out PL0.out; have p1 := Below.keeps hSw P1.out PL1.out; go_simp; with_reducible rfl)
                      try simp only [Act.put, List.getElem_toArray, List.getElem_cons_zero, List.getElem_cons_succ, List.setIfInBounds_toArray, List.set_cons_zero, List.set_cons_succ]
                      refine wpAnyH_take (i := 31) (v := ?_) rfl (by kernel_rfl) (by kernel_rfl) (by kernel_rfl) (fun _ _ _ h => h) (Or.inl ⟨by rfl, ?_⟩) (by assumption) ?_
                      rotate_left 1
                      · first | (intro w hSw; have x0 := Below.keeps hSw X0.out XL0.out; have x1 := Below.keeps hSw X1.out XL1.out; have g0 := Below.keeps hSw G0.out GL0.out; have g1 := Below.keeps hSw G1.out GL1.out; have p0 := Below.keeps hSw P0.out PL0.out; have p1 := Below.keeps hSw P1.out PL1.out; go_simp; done) | (intro w hSw; have x0 := Below.keeps hSw X0.out XL0.out; have x1 := Below.keeps hSw X1.out XL1.out; have g0 := Below.keeps hSw G0.out GL0.out; have g1 := Below.keeps hSw G1.out GL1.out; have p0 := Below.keeps hSw P0.out PL0.out; have p1 := Below.keeps hSw P1.out PL1.out; go_simp; with_reducible rfl)
                      try simp only [Act.put, List.getElem_toArray, List.getElem_cons_zero, List.getElem_cons_succ, List.setIfInBounds_toArray, List.set_cons_zero, List.set_cons_succ]
                      refine wpAnyH_ready (rs := [32]) (by kernel_rfl) (by simp) ?_
                      refine AllReadyH.cons rfl (fun K hK => ?_) AllReadyH.nil
                      go_simp
                      (go_at_call 34; refine (ahead_calls _ _ _ _ _).mono ?_; rintro e w6 ⟨rfl, hb⟩; have hHeld2 := below_step hHeld hb; clear hb; rw [HAB.out])
                      go_simp
                      refine hK.out _ _ hHeld2 (fun hHeld => ?_)
                      clear hK K
                      try simp only [Act.put, List.getElem_toArray, List.getElem_cons_zero, List.getElem_cons_succ, List.setIfInBounds_toArray, List.set_cons_zero, List.set_cons_succ]
                      refine wpAnyH_take (i := 33) (v := ?_) rfl (by kernel_rfl) (by kernel_rfl) (by kernel_rfl) (fun _ _ _ h => h) (Or.inl ⟨by rfl, ?_⟩) (by assumption) ?_
                      rotate_left 1
                      · first | (intro w hSw; go_simp; done) | (intro w hSw; go_simp; with_reducible rfl)
                      try simp only [Act.put, List.getElem_toArray, List.getElem_cons_zero, List.getElem_cons_succ, List.setIfInBounds_toArray, List.set_cons_zero, List.set_cons_succ]
                      refine wpAnyH_take (i := 34) (v := ?_) rfl (by kernel_rfl) (by kernel_rfl) (by kernel_rfl) (fun _ _ _ h => h) (Or.inl ⟨by rfl, ?_⟩) (by assumption) ?_
                      rotate_left 1
                      · first | (intro w hSw; go_simp; done) | (intro w hSw; go_simp; with_reducible rfl)
                      try simp only [Act.put, List.getElem_toArray, List.getElem_cons_zero, List.getElem_cons_succ, List.setIfInBounds_toArray, List.set_cons_zero, List.set_cons_succ]
                      refine wpAnyH_take (i := 35) (v := ?_) rfl (by kernel_rfl) (by kernel_rfl) (by kernel_rfl) (fun _ _ _ h => h) (Or.inl ⟨by rfl, ?_⟩) (by assumption) ?_
                      rotate_left 1
                      · first | (intro w hSw; go_simp; done) | (intro w hSw; go_simp; with_reducible rfl)
                      try simp only [Act.put, List.getElem_toArray, List.getElem_cons_zero, List.getElem_cons_succ, List.setIfInBounds_toArray, List.set_cons_zero, List.set_cons_succ]
                      refine wpAnyH_done (by kernel_rfl) ?_ _
                      refine NoPanic.normal ?_
                      have HBC := Aside0.mk (below_step HBC0.out hHeld)
                      have HEC1 := Aside0.mk ((hHeld.block _ (blk_lt HEC0.out)).trans HEC0.out)
                      go_wp2_with (first
                        | (go_at_call 31; refine (refN_calls _ 13).mono ?_; rintro e w2 ⟨rfl, hw2⟩; have HE2 := Aside0.mk (show w2.heap[w.heap.size + 1]? = some (.cells #[.bool false, .slice none 0 0, .int .i64 0] 30 (0, 0)) by rw [hw2, heap_old _ _ _ (blk_lt HEC1.out)]; exact HEC1.out); have HB2 := Aside0.mk (show Below w.heap.size w w2 by rw [hw2]; exact (HBC.out).alloc (HBC.out).size _); clear hw2)
                        | (go_at_call 32; refine (refAt_E _ 2 j 13).mono ?_; rintro e w3 ⟨AA, an, ac, rfl, hb⟩; have HE3 := Aside0.mk ((hb.block _ (blk_lt HE2.out)).trans HE2.out); have HB3 := Aside0.mk (below_step HB2.out hb); clear hb; obtain ⟨⟨q0, q1, q2⟩, q3, q4, q5⟩ := E_cells (x := (0, 0)) HE3.out))
                      clear q0 q1 q2 q3 q4 q5
                      (try simp only [Exit.inBlock, Exit.then])
                      obtain ⟨⟨x0, x1, x2⟩, _⟩ := E_cells (x := (0, 0)) (E_put HE3.out (.bool true) (.slice AA an ac) (.int .i64 13))
                      exact bodyPost_ret (v := .agg #[.bool true, .slice AA an ac, .int .i64 13]) (by simp [results, Tryz.results5, go_sem, x0, x1, x2]) rfl ⟨_, _, _, _, _, rfl, ⟨fun h => (by cases h), fun T => absurd T HNO.out⟩, below_put HB3.out (Nat.le_succ _) _ _ _⟩
                  · have d4b : decide ((j : Int) > 0) = false := by simpa using d4
                    have d4z : decide ((0 : Int) < (j : Int)) = false := decide_eq_false (by omega)
                    have d4w : decide (0 < j) = false := decide_eq_false (by omega)
                    have HS := Lib.hid (show LOk ms ls j by
                      refine ⟨?_, ?_, ?_, fun h => by omega⟩ <;> rw [← HX.out]
                      · simp; omega
                      · exact d2
                      · exact d3)
                    clear d1 d2 d3 d4
                    go_quiet ((go_at_call 33; exact Calls.quiet_of_same ((has_calls _ _ _ ms _ (Kd.C_drewN HCM.out _)).mono fun _ _ ⟨h, k⟩ => ⟨h, k.symm⟩)))
                    clear b0 b1 g0 g1
                    go_wp2
                    go_roundw
                    case rel => exact ⟨j + 1, by go_num, by have := HLT.out; omega, ⟨pw_below_drewN HB0.out _⟩, fun q hq => if h : q < j then HLK.out q h else (by have e : q = j := (by omega); subst e; exact HS.out)⟩
                    case measure => have := HLT.out; simp [intOf]; omega
                · have d3b : decide (x2 ∈ ms) = false := decide_eq_false d3
                  have HNO := Lib.hid (show ¬ IsTree ms ls from fun T => d3 (by have := (T.lok j HLT.out).2.2.1; rw [← HX.out] at this; exact this))
                  clear d1 d2 d3
                  go_quiet ((go_at_call 33; exact Calls.quiet_of_same ((has_calls _ _ _ ms _ (Kd.C_drewN HCM.out _)).mono fun _ _ ⟨h, k⟩ => ⟨h, k.symm⟩)))
                  clear b0 b1 g0 g1
                  obtain ⟨wd, hwd⟩ : ∃ wd, wd = w0.drewN nq := ⟨_, rfl⟩
                  rw [← hwd]
                  have HBC := Aside0.mk (show Below w.heap.size w wd by rw [hwd]; exact pw_below_drewN HBC0.out _)
                  have HEC1 := Aside0.mk (show wd.heap[w.heap.size + 1]? = some (.cells #[.bool false, .slice none 0 0, .int .i64 0] 30 (0, 0)) by rw [hwd]; exact HEC0.out)
                  clear hwd
                  go_wp2_with (first
                    | (go_at_call 31; refine (refN_calls _ 13).mono ?_; rintro e w2 ⟨rfl, hw2⟩; have HE2 := Aside0.mk (show w2.heap[w.heap.size + 1]? = some (.cells #[.bool false, .slice none 0 0, .int .i64 0] 30 (0, 0)) by rw [hw2, heap_old _ _ _ (blk_lt HEC1.out)]; exact HEC1.out); have HB2 := Aside0.mk (show Below w.heap.size w w2 by rw [hw2]; exact (HBC.out).alloc (HBC.out).size _); clear hw2)
                    | (go_at_call 32; refine (refAt_E _ 2 j 13).mono ?_; rintro e w3 ⟨AA, an, ac, rfl, hb⟩; have HE3 := Aside0.mk ((hb.block _ (blk_lt HE2.out)).trans HE2.out); have HB3 := Aside0.mk (below_step HB2.out hb); clear hb; obtain ⟨⟨q0, q1, q2⟩, q3, q4, q5⟩ := E_cells (x := (0, 0)) HE3.out))
                  clear q0 q1 q2 q3 q4 q5
                  (try simp only [Exit.inBlock, Exit.then])
                  obtain ⟨⟨x0, x1, x2⟩, _⟩ := E_cells (x := (0, 0)) (E_put HE3.out (.bool true) (.slice AA an ac) (.int .i64 13))
                  exact bodyPost_ret (v := .agg #[.bool true, .slice AA an ac, .int .i64 13]) (by simp [results, Tryz.results5, go_sem, x0, x1, x2]) rfl ⟨_, _, _, _, _, rfl, ⟨fun h => (by cases h), fun T => absurd T HNO.out⟩, below_put HB3.out (Nat.le_succ _) _ _ _⟩
              · have d2b : decide (x1 ∈ ms) = false := decide_eq_false d2
                have HNO := Lib.hid (show ¬ IsTree ms ls from fun T => d2 (by have := (T.lok j HLT.out).2.1; rw [← HX.out] at this; exact this))
                clear d1 d2
                go_quiet ((go_at_call 33; exact Calls.quiet_of_same ((has_calls _ _ _ ms _ (Kd.C_drewN HCM.out _)).mono fun _ _ ⟨h, k⟩ => ⟨h, k.symm⟩)))
                clear b0 b1 g0 g1
                obtain ⟨wd, hwd⟩ : ∃ wd, wd = w0.drewN nq := ⟨_, rfl⟩
                rw [← hwd]
                have HBC := Aside0.mk (show Below w.heap.size w wd by rw [hwd]; exact pw_below_drewN HBC0.out _)
                have HEC1 := Aside0.mk (show wd.heap[w.heap.size + 1]? = some (.cells #[.bool false, .slice none 0 0, .int .i64 0] 30 (0, 0)) by rw [hwd]; exact HEC0.out)
                clear hwd
                go_wp2_with (first
                  | (go_at_call 31; refine (refN_calls _ 13).mono ?_; rintro e w2 ⟨rfl, hw2⟩; have HE2 := Aside0.mk (show w2.heap[w.heap.size + 1]? = some (.cells #[.bool false, .slice none 0 0, .int .i64 0] 30 (0, 0)) by rw [hw2, heap_old _ _ _ (blk_lt HEC1.out)]; exact HEC1.out); have HB2 := Aside0.mk (show Below w.heap.size w w2 by rw [hw2]; exact (HBC.out).alloc (HBC.out).size _); clear hw2)
                  | (go_at_call 32; refine (refAt_E _ 2 j 13).mono ?_; rintro e w3 ⟨AA, an, ac, rfl, hb⟩; have HE3 := Aside0.mk ((hb.block _ (blk_lt HE2.out)).trans HE2.out); have HB3 := Aside0.mk (below_step HB2.out hb); clear hb; obtain ⟨⟨q0, q1, q2⟩, q3, q4, q5⟩ := E_cells (x := (0, 0)) HE3.out))
                clear q0 q1 q2 q3 q4 q5
                (try simp only [Exit.inBlock, Exit.then])
                obtain ⟨⟨x0, x1, x2⟩, _⟩ := E_cells (x := (0, 0)) (E_put HE3.out (.bool true) (.slice AA an ac) (.int .i64 13))
                exact bodyPost_ret (v := .agg #[.bool true, .slice AA an ac, .int .i64 13]) (by simp [results, Tryz.results5, go_sem, x0, x1, x2]) rfl ⟨_, _, _, _, _, rfl, ⟨fun h => (by cases h), fun T => absurd T HNO.out⟩, below_put HB3.out (Nat.le_succ _) _ _ _⟩
          · have j1 : ¬ (j : Int) < ls.length := by omega
            obtain rfl : j = ls.length := by omega
            clear hlt hj
            have HBC0 := Aside0.mk (below_step HBW.out HB.out)
            have HEC0 := Aside0.mk ((HB.out.block _ (by rw [HSZ.out]; omega)).trans HEC.out)
            have HCM := Lib.hid (Kd.C_below HRZ.out HB.out)
            have HCL := Lib.hid (Kd.C_below HLZ.out HB.out)
            go_upto_region 15 with (fail)
            clear j1
            obtain ⟨g0, g1⟩ := P_cells (x := (0, 0)) ((HB.out.block _ (by rw [HSZ.out]; omega)).trans HBG.out)
            by_cases f1 : ms.length = 0
            · have f1b : ((ms.length : Int) == 0) = true := beq_iff_eq.2 (by omega)
              have HNO := Lib.hid (show ¬ IsTree ms ls from fun T => T.ne (List.eq_nil_of_length_eq_zero f1))
              clear f1
              go_quiet (fail)
              clear g0 g1
              obtain ⟨wd, hwd⟩ : ∃ wd, wd = wr.drewN nq := ⟨_, rfl⟩
              rw [← hwd]
              have HBC := Aside0.mk (show Below w.heap.size w wd by rw [hwd]; exact pw_below_drewN HBC0.out _)
              have HEC1 := Aside0.mk (show wd.heap[w.heap.size + 1]? = some (.cells #[.bool false, .slice none 0 0, .int .i64 0] 30 (0, 0)) by rw [hwd]; exact HEC0.out)
              clear hwd
              go_wp2_with (go_at_call 31; refine (refN_calls _ 14).mono ?_; rintro e w2 ⟨rfl, hw2⟩; have HE2 := Aside0.mk (show w2.heap[w.heap.size + 1]? = some (.cells #[.bool false, .slice none 0 0, .int .i64 0] 30 (0, 0)) by rw [hw2, heap_old _ _ _ (blk_lt HEC1.out)]; exact HEC1.out); have HB2 := Aside0.mk (show Below w.heap.size w w2 by rw [hw2]; exact (HBC.out).alloc (HBC.out).size _); clear hw2; obtain ⟨⟨q0, q1, q2⟩, q3, q4, q5⟩ := E_cells (x := (0, 0)) HE2.out)
              clear q0 q1 q2 q3 q4 q5
              (try simp only [Exit.inBlock, Exit.then])
              obtain ⟨⟨x0, x1, x2⟩, _⟩ := E_cells (x := (0, 0)) (E_put HE2.out (.bool true) (.slice none 0 0) (.int .i64 14))
              exact bodyPost_ret (v := .agg #[.bool true, .slice none 0 0, .int .i64 14]) (by simp [results, Tryz.results5, go_sem, x0, x1, x2]) rfl ⟨_, _, _, _, _, rfl, ⟨fun h => (by cases h), fun T => absurd T HNO.out⟩, below_put HB2.out (Nat.le_succ _) _ _ _⟩
            · have f1b : ((ms.length : Int) == 0) = false := beq_eq_false_iff_ne.2 (by omega)
              by_cases f2 : ls.length + 1 = ms.length
              · have f2b : ((ls.length : Int) != (ms.length : Int) - 1) = false := by simp; omega
                have hw1 : IntKind.i64.wrap ((ms.length : Int) - 1) = (ms.length : Int) - 1 := by rw [IntKind.wrap_i64]; omega
                have HF1 := Lib.hid f1
                have HF2 := Lib.hid f2
                have z0 : (0 : Int) < ms.length := by omega
                have z0n : 0 < ms.length := by omega
                obtain ⟨adm, rfl, hcm⟩ := C_cell HCM.out (show 0 < ms.length by omega)
                have p0 : wr.cell? adm = some (.int .i64 (rd ms 0)) := by simpa [Addr.add] using hcm
                obtain ⟨r, hr⟩ : ∃ r, r = rd ms 0 := ⟨_, rfl⟩
                rw [← hr] at p0
                have HRR := Lib.hid hr
                have HRM := Lib.hid (show r ∈ ms by rw [hr]; exact rd_mem ms 0 (by omega))
                have G0 := Lib.hid g0
                have GL0 := Lib.hid (cell_in g0)
                have G1 := Lib.hid g1
                have GL1 := Lib.hid (cell_in g1)
                have P0 := Lib.hid p0
                have PL0 := Lib.hid (cell_in p0)
                obtain ⟨R, hR⟩ : ∃ R, R = reachL ls r := ⟨_, rfl⟩
                have HRE := Lib.hid hR
                have hLm := Lib.hid (lok_mem HLK.out)
                clear f1 f2 hcm p0 hr hR g0 g1
                by_cases f3 : R.length = ms.length
                · have f3b : ((R.length : Int) != (ms.length : Int)) = false := by simp; omega
                  have HT := Lib.hid (show IsTree ms ls from ⟨HM8.out, HMK.out, HLK.out, fun e => HF1.out (by rw [e]; rfl), HF2.out, by rw [← HRR.out, ← HRE.out]; exact f3⟩)
                  clear f3
                  go_wp2
                  refine wp_region_noPanic ?_
                  refine wp_region_held_drew (S := fun W => Below wr.heap.size wr W) (by kernel_rfl) (by first | exact Below.refl _ _ | exact (Below.refl _ _).drew) (fun hHeld => ?_)
                  refine wpAnyH_take (i := 0) (v := ?_) rfl (by kernel_rfl) (by kernel_rfl) (by kernel_rfl) (fun _ _ _ h => h) (Or.inl ⟨by rfl, ?_⟩) (by assumption) ?_
                  rotate_left 1
                  · first | (intro w hSw; go_simp; done) | (intro w hSw; go_simp; with_reducible rfl)
                  try simp only [Act.put, List.getElem_toArray, List.getElem_cons_zero, List.getElem_cons_succ, List.setIfInBounds_toArray, List.set_cons_zero, List.set_cons_succ]
                  refine wpAnyH_take (i := 1) (v := ?_) rfl (by kernel_rfl) (by kernel_rfl) (by kernel_rfl) (fun _ _ _ h => h) (Or.inl ⟨by rfl, ?_⟩) (by assumption) ?_
                  rotate_left 1
                  · first | (intro w hSw; have g0 := Below.keeps hSw G0.out GL0.out; have g1 := Below.keeps hSw G1.out GL1.out; have p0 := Below.keeps hSw P0.out PL0.out; go_simp; done) | (intro w hSw; have g0 := Below.keeps hSw G0.out GL0.out; have g1 := Below.keeps hSw G1.out GL1.out; have p0 := Below.keeps hSw P0.out PL0.out; go_simp; with_reducible rfl)
                  try simp only [Act.put, List.getElem_toArray, List.getElem_cons_zero, List.getElem_cons_succ, List.setIfInBounds_toArray, List.set_cons_zero, List.set_cons_succ]
                  refine wpAnyH_take (i := 2) (v := ?_) rfl (by kernel_rfl) (by kernel_rfl) (by kernel_rfl) (fun _ _ _ h => h) (Or.inl ⟨by rfl, ?_⟩) (by assumption) ?_
                  rotate_left 1
                  · first | (intro w hSw; go_simp; done) | (intro w hSw; go_simp; with_reducible rfl)
                  try simp only [Act.put, List.getElem_toArray, List.getElem_cons_zero, List.getElem_cons_succ, List.setIfInBounds_toArray, List.set_cons_zero, List.set_cons_succ]
                  refine wpAnyH_take (i := 3) (v := ?_) rfl (by kernel_rfl) (by kernel_rfl) (by kernel_rfl) (fun _ _ _ h => h) (Or.inl ⟨by rfl, ?_⟩) (by assumption) ?_
                  rotate_left 1
                  · first | (intro w hSw; go_simp; done) | (intro w hSw; go_simp; with_reducible rfl)
                  try simp only [Act.put, List.getElem_toArray, List.getElem_cons_zero, List.getElem_cons_succ, List.setIfInBounds_toArray, List.set_cons_zero, List.set_cons_succ]
                  refine wpAnyH_take (i := 4) (v := ?_) rfl (by kernel_rfl) (by kernel_rfl) (by kernel_rfl) (fun _ _ _ h => h) (Or.inl ⟨by rfl, ?_⟩) (by assumption) ?_
                  rotate_left 1
                  · first | (intro w hSw; go_simp; done) | (intro w hSw; go_simp; with_reducible rfl)
                  try simp only [Act.put, List.getElem_toArray, List.getElem_cons_zero, List.getElem_cons_succ, List.setIfInBounds_toArray, List.set_cons_zero, List.set_cons_succ]
                  refine wpAnyH_take (i := 5) (v := ?_) rfl (by kernel_rfl) (by kernel_rfl) (by kernel_rfl) (fun _ _ _ h => h) (Or.inl ⟨by rfl, ?_⟩) (by assumption) ?_
                  rotate_left 1
                  · first | (intro w hSw; go_simp; done) | (intro w hSw; go_simp; with_reducible rfl)
                  try simp only [Act.put, List.getElem_toArray, List.getElem_cons_zero, List.getElem_cons_succ, List.setIfInBounds_toArray, List.set_cons_zero, List.set_cons_succ]
                  refine wpAnyH_take (i := 6) (v := ?_) rfl (by kernel_rfl) (by kernel_rfl) (by kernel_rfl) (fun _ _ _ h => h) (Or.inl ⟨by rfl, ?_⟩) (by assumption) ?_
                  rotate_left 1
                  · first | (intro w hSw; have g0 := Below.keeps hSw G0.out GL0.out; have g1 := Below.keeps hSw G1.out GL1.out; have p0 := Below.keeps hSw P0.out PL0.out; go_simp; done) | (intro w hSw; have g0 := Below.keeps hSw G0.out GL0.out; have g1 := Below.keeps hSw G1.out GL1.out; have p0 := Below.keeps hSw P0.out PL0.out; go_simp; with_reducible rfl)
                  try simp only [Act.put, List.getElem_toArray, List.getElem_cons_zero, List.getElem_cons_succ, List.setIfInBounds_toArray, List.set_cons_zero, List.set_cons_succ]
                  refine wpAnyH_take (i := 7) (v := ?_) rfl (by kernel_rfl) (by kernel_rfl) (by kernel_rfl) (fun _ _ _ h => h) (Or.inl ⟨by rfl, ?_⟩) (by assumption) ?_
                  rotate_left 1
                  · first | (intro w hSw; go_simp; done) | (intro w hSw; go_simp; with_reducible rfl)
                  try simp only [Act.put, List.getElem_toArray, List.getElem_cons_zero, List.getElem_cons_succ, List.setIfInBounds_toArray, List.set_cons_zero, List.set_cons_succ]
                  refine wpAnyH_take (i := 8) (v := ?_) rfl (by kernel_rfl) (by kernel_rfl) (by kernel_rfl) (fun _ _ _ h => h) (Or.inl ⟨by rfl, ?_⟩) (by assumption) ?_
                  rotate_left 1
                  · first | (intro w hSw; go_simp; done) | (intro w hSw; go_simp; with_reducible rfl)
                  try simp only [Act.put, List.getElem_toArray, List.getElem_cons_zero, List.getElem_cons_succ, List.setIfInBounds_toArray, List.set_cons_zero, List.set_cons_succ]
                  refine wpAnyH_take (i := 9) (v := ?_) rfl (by kernel_rfl) (by kernel_rfl) (by kernel_rfl) (fun _ _ _ h => h) (Or.inl ⟨by rfl, ?_⟩) (by assumption) ?_
                  rotate_left 1
                  · first | (intro w hSw; have g0 := Below.keeps hSw G0.out GL0.out; have g1 := Below.keeps hSw G1.out GL1.out; have p0 := Below.keeps hSw P0.out PL0.out; go_simp; done) | (intro w hSw; have g0 := Below.keeps hSw G0.out GL0.out; have g1 := Below.keeps hSw G1.out GL1.out; have p0 := Below.keeps hSw P0.out PL0.out; go_simp; with_reducible rfl)
                  try simp only [Act.put, List.getElem_toArray, List.getElem_cons_zero, List.getElem_cons_succ, List.setIfInBounds_toArray, List.set_cons_zero, List.set_cons_succ]
                  refine wpAnyH_take (i := 10) (v := ?_) rfl (by kernel_rfl) (by kernel_rfl) (by kernel_rfl) (fun _ _ _ h => h) (Or.inl ⟨by rfl, ?_⟩) (by assumption) ?_
                  rotate_left 1
                  · first | (intro w hSw; go_simp; done) | (intro w hSw; go_simp; with_reducible rfl)
                  try simp only [Act.put, List.getElem_toArray, List.getElem_cons_zero, List.getElem_cons_succ, List.setIfInBounds_toArray, List.set_cons_zero, List.set_cons_succ]
                  refine wpAnyH_take (i := 11) (v := ?_) rfl (by kernel_rfl) (by kernel_rfl) (by kernel_rfl) (fun _ _ _ h => h) (Or.inl ⟨by rfl, ?_⟩) (by assumption) ?_
                  rotate_left 1
                  · first | (intro w hSw; go_simp; done) | (intro w hSw; go_simp; with_reducible rfl)
                  try simp only [Act.put, List.getElem_toArray, List.getElem_cons_zero, List.getElem_cons_succ, List.setIfInBounds_toArray, List.set_cons_zero, List.set_cons_succ]
                  refine wpAnyH_take (i := 12) (v := ?_) rfl (by kernel_rfl) (by kernel_rfl) (by kernel_rfl) (fun _ _ _ h => h) (Or.inl ⟨by rfl, ?_⟩) (by assumption) ?_
                  rotate_left 1
                  · first | (intro w hSw; go_simp; done) | (intro w hSw; go_simp; with_reducible rfl)
                  try simp only [Act.put, List.getElem_toArray, List.getElem_cons_zero, List.getElem_cons_succ, List.setIfInBounds_toArray, List.set_cons_zero, List.set_cons_succ]
                  refine wpAnyH_take (i := 13) (v := ?_) rfl (by kernel_rfl) (by kernel_rfl) (by kernel_rfl) (fun _ _ _ h => h) (Or.inl ⟨by rfl, ?_⟩) (by assumption) ?_
                  rotate_left 1
                  · first | (intro w hSw; go_simp; done) | (intro w hSw; go_simp; with_reducible rfl)
                  try simp only [Act.put, List.getElem_toArray, List.getElem_cons_zero, List.getElem_cons_succ, List.setIfInBounds_toArray, List.set_cons_zero, List.set_cons_succ]
                  refine wpAnyH_take (i := 14) (v := ?_) rfl (by kernel_rfl) (by kernel_rfl) (by kernel_rfl) (fun _ _ _ h => h) (Or.inl ⟨by rfl, ?_⟩) (by assumption) ?_
                  rotate_left 1
                  · first | (intro w hSw; go_simp; done) | (intro w hSw; go_simp; with_reducible rfl)
                  try simp only [Act.put, List.getElem_toArray, List.getElem_cons_zero, List.getElem_cons_succ, List.setIfInBounds_toArray, List.set_cons_zero, List.set_cons_succ]
                  refine wpAnyH_take (i := 15) (v := ?_) rfl (by kernel_rfl) (by kernel_rfl) (by kernel_rfl) (fun _ _ _ h => h) (Or.inl ⟨by rfl, ?_⟩) (by assumption) ?_
                  rotate_left 1
                  · first | (intro w hSw; have g0 := Below.keeps hSw G0.out GL0.out; have g1 := Below.keeps hSw G1.out GL1.out; have p0 := Below.keeps hSw P0.out PL0.out; go_simp; done) | (intro w hSw; have g0 := Below.keeps hSw G0.out GL0.out; have g1 := Below.keeps hSw G1.out GL1.out; have p0 := Below.keeps hSw P0.out PL0.out; go_simp; with_reducible rfl)
                  try simp only [Act.put, List.getElem_toArray, List.getElem_cons_zero, List.getElem_cons_succ, List.setIfInBounds_toArray, List.set_cons_zero, List.set_cons_succ]
                  refine wpAnyH_take (i := 16) (v := ?_) rfl (by kernel_rfl) (by kernel_rfl) (by kernel_rfl) (fun _ _ _ h => h) (Or.inl ⟨by rfl, ?_⟩) (by assumption) ?_
                  rotate_left 1
                  · first | (intro w hSw; go_simp; done) | (intro w hSw; go_simp; with_reducible rfl)
                  try simp only [Act.put, List.getElem_toArray, List.getElem_cons_zero, List.getElem_cons_succ, List.setIfInBounds_toArray, List.set_cons_zero, List.set_cons_succ]
                  refine wpAnyH_take (i := 17) (v := ?_) rfl (by kernel_rfl) (by kernel_rfl) (by kernel_rfl) (fun _ _ _ h => h) (Or.inl ⟨by rfl, ?_⟩) (by assumption) ?_
                  rotate_left 1
                  · first | (intro w hSw; have g0 := Below.keeps hSw G0.out GL0.out; have g1 := Below.keeps hSw G1.out GL1.out; have p0 := Below.keeps hSw P0.out PL0.out; go_simp; done) | (intro w hSw; have g0 := Below.keeps hSw G0.out GL0.out; have g1 := Below.keeps hSw G1.out GL1.out; have p0 := Below.keeps hSw P0.out PL0.out; go_simp; with_reducible rfl)
                  try simp only [Act.put, List.getElem_toArray, List.getElem_cons_zero, List.getElem_cons_succ, List.setIfInBounds_toArray, List.set_cons_zero, List.set_cons_succ]
                  refine wpAnyH_take (i := 18) (v := ?_) rfl (by kernel_rfl) (by kernel_rfl) (by kernel_rfl) (fun _ _ _ h => h) (Or.inl ⟨by rfl, ?_⟩) (by assumption) ?_
                  rotate_left 1
                  · first | (intro w hSw; have g0 := Below.keeps hSw G0.out GL0.out; have g1 := Below.keeps hSw G1.out GL1.out; have p0 := Below.keeps hSw P0.out PL0.out; go_simp; done) | (intro w hSw; have g0 := Below.keeps hSw G0.out GL0.out; have g1 := Below.keeps hSw G1.out GL1.out; have p0 := Below.keeps hSw P0.out PL0.out; go_simp; with_reducible rfl)
                  try simp only [Act.put, List.getElem_toArray, List.getElem_cons_zero, List.getElem_cons_succ, List.setIfInBounds_toArray, List.set_cons_zero, List.set_cons_succ]
                  refine wpAnyH_take (i := 19) (v := ?_) rfl (by kernel_rfl) (by kernel_rfl) (by kernel_rfl) (fun _ _ _ h => h) (Or.inl ⟨by rfl, ?_⟩) (by assumption) ?_
                  rotate_left 1
                  · first | (intro w hSw; have g0 := Below.keeps hSw G0.out GL0.out; have g1 := Below.keeps hSw G1.out GL1.out; have p0 := Below.keeps hSw P0.out PL0.out; go_simp; done) | (intro w hSw; have g0 := Below.keeps hSw G0.out GL0.out; have g1 := Below.keeps hSw G1.out GL1.out; have p0 := Below.keeps hSw P0.out PL0.out; go_simp; with_reducible rfl)
                  try simp only [Act.put, List.getElem_toArray, List.getElem_cons_zero, List.getElem_cons_succ, List.setIfInBounds_toArray, List.set_cons_zero, List.set_cons_succ]
                  refine wpAnyH_take (i := 20) (v := ?_) rfl (by kernel_rfl) (by kernel_rfl) (by kernel_rfl) (fun _ _ _ h => h) (Or.inl ⟨by rfl, ?_⟩) (by assumption) ?_
                  rotate_left 1
                  · first | (intro w hSw; go_simp; done) | (intro w hSw; go_simp; with_reducible rfl)
                  try simp only [Act.put, List.getElem_toArray, List.getElem_cons_zero, List.getElem_cons_succ, List.setIfInBounds_toArray, List.set_cons_zero, List.set_cons_succ]
                  refine wpAnyH_take (i := 23) (v := ?_) rfl (by kernel_rfl) (by kernel_rfl) (by kernel_rfl) (fun _ _ _ h => h) (Or.inl ⟨by rfl, ?_⟩) (by assumption) ?_
                  rotate_left 1
                  · first | (intro w hSw; go_simp; done) | (intro w hSw; go_simp; with_reducible rfl)
                  try simp only [Act.put, List.getElem_toArray, List.getElem_cons_zero, List.getElem_cons_succ, List.setIfInBounds_toArray, List.set_cons_zero, List.set_cons_succ]
                  refine wpAnyH_take (i := 24) (v := ?_) rfl (by kernel_rfl) (by kernel_rfl) (by kernel_rfl) (fun _ _ _ h => h) (Or.inl ⟨by rfl, ?_⟩) (by assumption) ?_
                  rotate_left 1
                  · first | (intro w hSw; have g0 := Below.keeps hSw G0.out GL0.out; have g1 := Below.keeps hSw G1.out GL1.out; have p0 := Below.keeps hSw P0.out PL0.out; go_simp; done) | (intro w hSw; have g0 := Below.keeps hSw G0.out GL0.out; have g1 := Below.keeps hSw G1.out GL1.out; have p0 := Below.keeps hSw P0.out PL0.out; go_simp; with_reducible rfl)
                  try simp only [Act.put, List.getElem_toArray, List.getElem_cons_zero, List.getElem_cons_succ, List.setIfInBounds_toArray, List.set_cons_zero, List.set_cons_succ]
                  refine wpAnyH_take (i := 25) (v := ?_) rfl (by kernel_rfl) (by kernel_rfl) (by kernel_rfl) (fun _ _ _ h => h) (Or.inl ⟨by rfl, ?_⟩) (by assumption) ?_
                  rotate_left 1
                  · first | (intro w hSw; go_simp; done) | (intro w hSw; go_simp; with_reducible rfl)
                  try simp only [Act.put, List.getElem_toArray, List.getElem_cons_zero, List.getElem_cons_succ, List.setIfInBounds_toArray, List.set_cons_zero, List.set_cons_succ]
                  refine wpAnyH_ready (rs := [21]) (by kernel_rfl) (by simp) ?_
                  refine AllReadyH.cons rfl (fun K hK => ?_) AllReadyH.nil
                  go_simp
                  (go_at_call 35; refine (reach_calls _ _ _ _ _ _ ms ls r (Kd.C_below HCL.out hHeld) hLm.out HM8.out HRM.out).mono ?_; rintro e w6 ⟨v, rfl, hv, hb⟩; rw [← HRE.out] at hv; obtain ⟨A6, c6, rfl⟩ := Kd.R_slice hv; have hHeld2 := below_step hHeld hb; clear hb hv)
                  go_simp
                  refine hK.out _ _ hHeld2 (fun hHeld => ?_)
                  clear hK K
                  try simp only [Act.put, List.getElem_toArray, List.getElem_cons_zero, List.getElem_cons_succ, List.setIfInBounds_toArray, List.set_cons_zero, List.set_cons_succ]
                  refine wpAnyH_take (i := 22) (v := ?_) rfl (by kernel_rfl) (by kernel_rfl) (by kernel_rfl) (fun _ _ _ h => h) (Or.inl ⟨by rfl, ?_⟩) (by assumption) ?_
                  rotate_left 1
                  · first | (intro w hSw; go_simp; done) | (intro w hSw; go_simp; with_reducible rfl)
                  try simp only [Act.put, List.getElem_toArray, List.getElem_cons_zero, List.getElem_cons_succ, List.setIfInBounds_toArray, List.set_cons_zero, List.set_cons_succ]
                  refine wpAnyH_take (i := 26) (v := ?_) rfl (by kernel_rfl) (by kernel_rfl) (by kernel_rfl) (fun _ _ _ h => h) (Or.inl ⟨by rfl, ?_⟩) (by assumption) ?_
                  rotate_left 1
                  · first | (intro w hSw; go_simp; done) | (intro w hSw; go_simp; with_reducible rfl)
                  try simp only [Act.put, List.getElem_toArray, List.getElem_cons_zero, List.getElem_cons_succ, List.setIfInBounds_toArray, List.set_cons_zero, List.set_cons_succ]
                  refine wpAnyH_take (i := 27) (v := ?_) rfl (by kernel_rfl) (by kernel_rfl) (by kernel_rfl) (fun _ _ _ h => h) (Or.inl ⟨by rfl, ?_⟩) (by assumption) ?_
                  rotate_left 1
                  · first | (intro w hSw; go_simp; done) | (intro w hSw; go_simp; with_reducible rfl)
                  try simp only [Act.put, List.getElem_toArray, List.getElem_cons_zero, List.getElem_cons_succ, List.setIfInBounds_toArray, List.set_cons_zero, List.set_cons_succ]
                  refine wpAnyH_done (by kernel_rfl) ?_ _
                  refine NoPanic.normal ?_
                  have HBC := Aside0.mk (below_step HBC0.out hHeld)
                  have HEC1 := Aside0.mk ((hHeld.block _ (blk_lt HEC0.out)).trans HEC0.out)
                  obtain ⟨⟨q0, q1, q2⟩, q3, q4, q5⟩ := E_cells (x := (0, 0)) HEC1.out
                  go_wp2
                  clear q0 q1 q2 q3 q4 q5
                  (try simp only [Exit.inBlock, Exit.then])
                  obtain ⟨⟨x0, x1, x2⟩, _⟩ := E_cells (x := (0, 0)) (E_put HEC1.out (.bool false) (.slice none 0 0) (.int .i64 0))
                  exact bodyPost_ret (v := .agg #[.bool false, .slice none 0 0, .int .i64 0]) (by simp [results, Tryz.results5, go_sem, x0, x1, x2]) rfl ⟨_, _, _, _, _, rfl, ⟨fun _ => HT.out, fun _ => rfl⟩, below_put HBC.out (Nat.le_succ _) _ _ _⟩
                · have f3b : ((R.length : Int) != (ms.length : Int)) = true := by simp; omega
                  have HNO := Lib.hid (show ¬ IsTree ms ls from fun T => f3 (by have := T.all; rw [← HRR.out, ← HRE.out] at this; exact this))
                  clear f3
                  go_wp2
                  refine wp_region_noPanic ?_
                  refine wp_region_held_drew (S := fun W => Below wr.heap.size wr W) (by kernel_rfl) (by first | exact Below.refl _ _ | exact (Below.refl _ _).drew) (fun hHeld => ?_)
                  refine wpAnyH_take (i := 0) (v := ?_) rfl (by kernel_rfl) (by kernel_rfl) (by kernel_rfl) (fun _ _ _ h => h) (Or.inl ⟨by rfl, ?_⟩) (by assumption) ?_
                  rotate_left 1
                  · first | (intro w hSw; go_simp; done) | (intro w hSw; go_simp; with_reducible rfl)
                  try simp only [Act.put, List.getElem_toArray, List.getElem_cons_zero, List.getElem_cons_succ, List.setIfInBounds_toArray, List.set_cons_zero, List.set_cons_succ]
                  refine wpAnyH_take (i := 1) (v := ?_) rfl (by kernel_rfl) (by kernel_rfl) (by kernel_rfl) (fun _ _ _ h => h) (Or.inl ⟨by rfl, ?_⟩) (by assumption) ?_
                  rotate_left 1
                  · first | (intro w hSw; have g0 := Below.keeps hSw G0.out GL0.out; have g1 := Below.keeps hSw G1.out GL1.out; have p0 := Below.keeps hSw P0.out PL0.out; go_simp; done) | (intro w hSw; have g0 := Below.keeps hSw G0.out GL0.out; have g1 := Below.keeps hSw G1.out GL1.out; have p0 := Below.keeps hSw P0.out PL0.out; go_simp; with_reducible rfl)
                  try simp only [Act.put, List.getElem_toArray, List.getElem_cons_zero, List.getElem_cons_succ, List.setIfInBounds_toArray, List.set_cons_zero, List.set_cons_succ]
                  refine wpAnyH_take (i := 2) (v := ?_) rfl (by kernel_rfl) (by kernel_rfl) (by kernel_rfl) (fun _ _ _ h => h) (Or.inl ⟨by rfl, ?_⟩) (by assumption) ?_
                  rotate_left 1
                  · first | (intro w hSw; go_simp; done) | (intro w hSw; go_simp; with_reducible rfl)
                  try simp only [Act.put, List.getElem_toArray, List.getElem_cons_zero, List.getElem_cons_succ, List.setIfInBounds_toArray, List.set_cons_zero, List.set_cons_succ]
                  refine wpAnyH_take (i := 3) (v := ?_) rfl (by kernel_rfl) (by kernel_rfl) (by kernel_rfl) (fun _ _ _ h => h) (Or.inl ⟨by rfl, ?_⟩) (by assumption) ?_
                  rotate_left 1
                  · first | (intro w hSw; go_simp; done) | (intro w hSw; go_simp; with_reducible rfl)
                  try simp only [Act.put, List.getElem_toArray, List.getElem_cons_zero, List.getElem_cons_succ, List.setIfInBounds_toArray, List.set_cons_zero, List.set_cons_succ]
                  refine wpAnyH_take (i := 4) (v := ?_) rfl (by kernel_rfl) (by kernel_rfl) (by kernel_rfl) (fun _ _ _ h => h) (Or.inl ⟨by rfl, ?_⟩) (by assumption) ?_
                  rotate_left 1
                  · first | (intro w hSw; go_simp; done) | (intro w hSw; go_simp; with_reducible rfl)
                  try simp only [Act.put, List.getElem_toArray, List.getElem_cons_zero, List.getElem_cons_succ, List.setIfInBounds_toArray, List.set_cons_zero, List.set_cons_succ]
                  refine wpAnyH_take (i := 5) (v := ?_) rfl (by kernel_rfl) (by kernel_rfl) (by kernel_rfl) (fun _ _ _ h => h) (Or.inl ⟨by rfl, ?_⟩) (by assumption) ?_
                  rotate_left 1
                  · first | (intro w hSw; go_simp; done) | (intro w hSw; go_simp; with_reducible rfl)
                  try simp only [Act.put, List.getElem_toArray, List.getElem_cons_zero, List.getElem_cons_succ, List.setIfInBounds_toArray, List.set_cons_zero, List.set_cons_succ]
                  refine wpAnyH_take (i := 6) (v := ?_) rfl (by kernel_rfl) (by kernel_rfl) (by kernel_rfl) (fun _ _ _ h => h) (Or.inl ⟨by rfl, ?_⟩) (by assumption) ?_
                  rotate_left 1
                  · first | (intro w hSw; have g0 := Below.keeps hSw G0.out GL0.out; have g1 := Below.keeps hSw G1.out GL1.out; have p0 := Below.keeps hSw P0.out PL0.out; go_simp; done) | (intro w hSw; have g0 := Below.keeps hSw G0.out GL0.out; have g1 := Below.keeps hSw G1.out GL1.out; have p0 := Below.keeps hSw P0.out PL0.out; go_simp; with_reducible rfl)
                  try simp only [Act.put, List.getElem_toArray, List.getElem_cons_zero, List.getElem_cons_succ, List.setIfInBounds_toArray, List.set_cons_zero, List.set_cons_succ]
                  refine wpAnyH_take (i := 7) (v := ?_) rfl (by kernel_rfl) (by kernel_rfl) (by kernel_rfl) (fun _ _ _ h => h) (Or.inl ⟨by rfl, ?_⟩) (by assumption) ?_
                  rotate_left 1
                  · first | (intro w hSw; go_simp; done) | (intro w hSw; go_simp; with_reducible rfl)
                  try simp only [Act.put, List.getElem_toArray, List.getElem_cons_zero, List.getElem_cons_succ, List.setIfInBounds_toArray, List.set_cons_zero, List.set_cons_succ]
                  refine wpAnyH_take (i := 8) (v := ?_) rfl (by kernel_rfl) (by kernel_rfl) (by kernel_rfl) (fun _ _ _ h => h) (Or.inl ⟨by rfl, ?_⟩) (by assumption) ?_
                  rotate_left 1
                  · first | (intro w hSw; go_simp; done) | (intro w hSw; go_simp; with_reducible rfl)
                  try simp only [Act.put, List.getElem_toArray, List.getElem_cons_zero, List.getElem_cons_succ, List.setIfInBounds_toArray, List.set_cons_zero, List.set_cons_succ]
                  refine wpAnyH_take (i := 9) (v := ?_) rfl (by kernel_rfl) (by kernel_rfl) (by kernel_rfl) (fun _ _ _ h => h) (Or.inl ⟨by rfl, ?_⟩) (by assumption) ?_
                  rotate_left 1
                  · first | (intro w hSw; have g0 := Below.keeps hSw G0.out GL0.out; have g1 := Below.keeps hSw G1.out GL1.out; have p0 := Below.keeps hSw P0.out PL0.out; go_simp; done) | (intro w hSw; have g0 := Below.keeps hSw G0.out GL0.out; have g1 := Below.keeps hSw G1.out GL1.out; have p0 := Below.keeps hSw P0.out PL0.out; go_simp; with_reducible rfl)
                  try simp only [Act.put, List.getElem_toArray, List.getElem_cons_zero, List.getElem_cons_succ, List.setIfInBounds_toArray, List.set_cons_zero, List.set_cons_succ]
                  refine wpAnyH_take (i := 10) (v := ?_) rfl (by kernel_rfl) (by kernel_rfl) (by kernel_rfl) (fun _ _ _ h => h) (Or.inl ⟨by rfl, ?_⟩) (by assumption) ?_
                  rotate_left 1
                  · first | (intro w hSw; go_simp; done) | (intro w hSw; go_simp; with_reducible rfl)
                  try simp only [Act.put, List.getElem_toArray, List.getElem_cons_zero, List.getElem_cons_succ, List.setIfInBounds_toArray, List.set_cons_zero, List.set_cons_succ]
                  refine wpAnyH_take (i := 11) (v := ?_) rfl (by kernel_rfl) (by kernel_rfl) (by kernel_rfl) (fun _ _ _ h => h) (Or.inl ⟨by rfl, ?_⟩) (by assumption) ?_
                  rotate_left 1
                  · first | (intro w hSw; go_simp; done) | (intro w hSw; go_simp; with_reducible rfl)
                  try simp only [Act.put, List.getElem_toArray, List.getElem_cons_zero, List.getElem_cons_succ, List.setIfInBounds_toArray, List.set_cons_zero, List.set_cons_succ]
                  refine wpAnyH_take (i := 12) (v := ?_) rfl (by kernel_rfl) (by kernel_rfl) (by kernel_rfl) (fun _ _ _ h => h) (Or.inl ⟨by rfl, ?_⟩) (by assumption) ?_
                  rotate_left 1
                  · first | (intro w hSw; go_simp; done) | (intro w hSw; go_simp; with_reducible rfl)
                  try simp only [Act.put, List.getElem_toArray, List.getElem_cons_zero, List.getElem_cons_succ, List.setIfInBounds_toArray, List.set_cons_zero, List.set_cons_succ]
                  refine wpAnyH_take (i := 13) (v := ?_) rfl (by kernel_rfl) (by kernel_rfl) (by kernel_rfl) (fun _ _ _ h => h) (Or.inl ⟨by rfl, ?_⟩) (by assumption) ?_
                  rotate_left 1
                  · first | (intro w hSw; go_simp; done) | (intro w hSw; go_simp; with_reducible rfl)
                  try simp only [Act.put, List.getElem_toArray, List.getElem_cons_zero, List.getElem_cons_succ, List.setIfInBounds_toArray, List.set_cons_zero, List.set_cons_succ]
                  refine wpAnyH_take (i := 14) (v := ?_) rfl (by kernel_rfl) (by kernel_rfl) (by kernel_rfl) (fun _ _ _ h => h) (Or.inl ⟨by rfl, ?_⟩) (by assumption) ?_
                  rotate_left 1
                  · first | (intro w hSw; go_simp; done) | (intro w hSw; go_simp; with_reducible rfl)
                  try simp only [Act.put, List.getElem_toArray, List.getElem_cons_zero, List.getElem_cons_succ, List.setIfInBounds_toArray, List.set_cons_zero, List.set_cons_succ]
                  refine wpAnyH_take (i := 15) (v := ?_) rfl (by kernel_rfl) (by kernel_rfl) (by kernel_rfl) (fun _ _ _ h => h) (Or.inl ⟨by rfl, ?_⟩) (by assumption) ?_
                  rotate_left 1
                  · first | (intro w hSw; have g0 := Below.keeps hSw G0.out GL0.out; have g1 := Below.keeps hSw G1.out GL1.out; have p0 := Below.keeps hSw P0.out PL0.out; go_simp; done) | (intro w hSw; have g0 := Below.keeps hSw G0.out GL0.out; have g1 := Below.keeps hSw G1.out GL1.out; have p0 := Below.keeps hSw P0.out PL0.out; go_simp; with_reducible rfl)
                  try simp only [Act.put, List.getElem_toArray, List.getElem_cons_zero, List.getElem_cons_succ, List.setIfInBounds_toArray, List.set_cons_zero, List.set_cons_succ]
                  refine wpAnyH_take (i := 16) (v := ?_) rfl (by kernel_rfl) (by kernel_rfl) (by kernel_rfl) (fun _ _ _ h => h) (Or.inl ⟨by rfl, ?_⟩) (by assumption) ?_
                  rotate_left 1
                  · first | (intro w hSw; go_simp; done) | (intro w hSw; go_simp; with_reducible rfl)
                  try simp only [Act.put, List.getElem_toArray, List.getElem_cons_zero, List.getElem_cons_succ, List.setIfInBounds_toArray, List.set_cons_zero, List.set_cons_succ]
                  refine wpAnyH_take (i := 17) (v := ?_) rfl (by kernel_rfl) (by kernel_rfl) (by kernel_rfl) (fun _ _ _ h => h) (Or.inl ⟨by rfl, ?_⟩) (by assumption) ?_
                  rotate_left 1
                  · first | (intro w hSw; have g0 := Below.keeps hSw G0.out GL0.out; have g1 := Below.keeps hSw G1.out GL1.out; have p0 := Below.keeps hSw P0.out PL0.out; go_simp; done) | (intro w hSw; have g0 := Below.keeps hSw G0.out GL0.out; have g1 := Below.keeps hSw G1.out GL1.out; have p0 := Below.keeps hSw P0.out PL0.out; go_simp; with_reducible rfl)
                  try simp only [Act.put, List.getElem_toArray, List.getElem_cons_zero, List.getElem_cons_succ, List.setIfInBounds_toArray, List.set_cons_zero, List.set_cons_succ]
                  refine wpAnyH_take (i := 18) (v := ?_) rfl (by kernel_rfl) (by kernel_rfl) (by kernel_rfl) (fun _ _ _ h => h) (Or.inl ⟨by rfl, ?_⟩) (by assumption) ?_
                  rotate_left 1
                  · first | (intro w hSw; have g0 := Below.keeps hSw G0.out GL0.out; have g1 := Below.keeps hSw G1.out GL1.out; have p0 := Below.keeps hSw P0.out PL0.out; go_simp; done) | (intro w hSw; have g0 := Below.keeps hSw G0.out GL0.out; have g1 := Below.keeps hSw G1.out GL1.out; have p0 := Below.keeps hSw P0.out PL0.out; go_simp; with_reducible rfl)
                  try simp only [Act.put, List.getElem_toArray, List.getElem_cons_zero, List.getElem_cons_succ, List.setIfInBounds_toArray, List.set_cons_zero, List.set_cons_succ]
                  refine wpAnyH_take (i := 19) (v := ?_) rfl (by kernel_rfl) (by kernel_rfl) (by kernel_rfl) (fun _ _ _ h => h) (Or.inl ⟨by rfl, ?_⟩) (by assumption) ?_
                  rotate_left 1
                  · first | (intro w hSw; have g0 := Below.keeps hSw G0.out GL0.out; have g1 := Below.keeps hSw G1.out GL1.out; have p0 := Below.keeps hSw P0.out PL0.out; go_simp; done) | (intro w hSw; have g0 := Below.keeps hSw G0.out GL0.out; have g1 := Below.keeps hSw G1.out GL1.out; have p0 := Below.keeps hSw P0.out PL0.out; go_simp; with_reducible rfl)
                  try simp only [Act.put, List.getElem_toArray, List.getElem_cons_zero, List.getElem_cons_succ, List.setIfInBounds_toArray, List.set_cons_zero, List.set_cons_succ]
                  refine wpAnyH_take (i := 20) (v := ?_) rfl (by kernel_rfl) (by kernel_rfl) (by kernel_rfl) (fun _ _ _ h => h) (Or.inl ⟨by rfl, ?_⟩) (by assumption) ?_
                  rotate_left 1
                  · first | (intro w hSw; go_simp; done) | (intro w hSw; go_simp; with_reducible rfl)
                  try simp only [Act.put, List.getElem_toArray, List.getElem_cons_zero, List.getElem_cons_succ, List.setIfInBounds_toArray, List.set_cons_zero, List.set_cons_succ]
                  refine wpAnyH_take (i := 23) (v := ?_) rfl (by kernel_rfl) (by kernel_rfl) (by kernel_rfl) (fun _ _ _ h => h) (Or.inl ⟨by rfl, ?_⟩) (by assumption) ?_
                  rotate_left 1
                  · first | (intro w hSw; go_simp; done) | (intro w hSw; go_simp; with_reducible rfl)
                  try simp only [Act.put, List.getElem_toArray, List.getElem_cons_zero, List.getElem_cons_succ, List.setIfInBounds_toArray, List.set_cons_zero, List.set_cons_succ]
                  refine wpAnyH_take (i := 24) (v := ?_) rfl (by kernel_rfl) (by kernel_rfl) (by kernel_rfl) (fun _ _ _ h => h) (Or.inl ⟨by rfl, ?_⟩) (by assumption) ?_
                  rotate_left 1
                  · first | (intro w hSw; have g0 := Below.keeps hSw G0.out GL0.out; have g1 := Below.keeps hSw G1.out GL1.out; have p0 := Below.keeps hSw P0.out PL0.out; go_simp; done) | (intro w hSw; have g0 := Below.keeps hSw G0.out GL0.out; have g1 := Below.keeps hSw G1.out GL1.out; have p0 := Below.keeps hSw P0.out PL0.out; go_simp; with_reducible rfl)
                  try simp only [Act.put, List.getElem_toArray, List.getElem_cons_zero, List.getElem_cons_succ, List.setIfInBounds_toArray, List.set_cons_zero, List.set_cons_succ]
                  refine wpAnyH_take (i := 25) (v := ?_) rfl (by kernel_rfl) (by kernel_rfl) (by kernel_rfl) (fun _ _ _ h => h) (Or.inl ⟨by rfl, ?_⟩) (by assumption) ?_
                  rotate_left 1
                  · first | (intro w hSw; go_simp; done) | (intro w hSw; go_simp; with_reducible rfl)
                  try simp only [Act.put, List.getElem_toArray, List.getElem_cons_zero, List.getElem_cons_succ, List.setIfInBounds_toArray, List.set_cons_zero, List.set_cons_succ]
                  refine wpAnyH_ready (rs := [21]) (by kernel_rfl) (by simp) ?_
                  refine AllReadyH.cons rfl (fun K hK => ?_) AllReadyH.nil
                  go_simp
                  (go_at_call 35; refine (reach_calls _ _ _ _ _ _ ms ls r (Kd.C_below HCL.out hHeld) hLm.out HM8.out HRM.out).mono ?_; rintro e w6 ⟨v, rfl, hv, hb⟩; rw [← HRE.out] at hv; obtain ⟨A6, c6, rfl⟩ := Kd.R_slice hv; have hHeld2 := below_step hHeld hb; clear hb hv)
                  go_simp
                  refine hK.out _ _ hHeld2 (fun hHeld => ?_)
                  clear hK K
                  try simp only [Act.put, List.getElem_toArray, List.getElem_cons_zero, List.getElem_cons_succ, List.setIfInBounds_toArray, List.set_cons_zero, List.set_cons_succ]
                  refine wpAnyH_take (i := 22) (v := ?_) rfl (by kernel_rfl) (by kernel_rfl) (by kernel_rfl) (fun _ _ _ h => h) (Or.inl ⟨by rfl, ?_⟩) (by assumption) ?_
                  rotate_left 1
                  · first | (intro w hSw; go_simp; done) | (intro w hSw; go_simp; with_reducible rfl)
                  try simp only [Act.put, List.getElem_toArray, List.getElem_cons_zero, List.getElem_cons_succ, List.setIfInBounds_toArray, List.set_cons_zero, List.set_cons_succ]
                  refine wpAnyH_take (i := 26) (v := ?_) rfl (by kernel_rfl) (by kernel_rfl) (by kernel_rfl) (fun _ _ _ h => h) (Or.inl ⟨by rfl, ?_⟩) (by assumption) ?_
                  rotate_left 1
                  · first | (intro w hSw; go_simp; done) | (intro w hSw; go_simp; with_reducible rfl)
                  try simp only [Act.put, List.getElem_toArray, List.getElem_cons_zero, List.getElem_cons_succ, List.setIfInBounds_toArray, List.set_cons_zero, List.set_cons_succ]
                  refine wpAnyH_take (i := 27) (v := ?_) rfl (by kernel_rfl) (by kernel_rfl) (by kernel_rfl) (fun _ _ _ h => h) (Or.inl ⟨by rfl, ?_⟩) (by assumption) ?_
                  rotate_left 1
                  · first | (intro w hSw; go_simp; done) | (intro w hSw; go_simp; with_reducible rfl)
                  try simp only [Act.put, List.getElem_toArray, List.getElem_cons_zero, List.getElem_cons_succ, List.setIfInBounds_toArray, List.set_cons_zero, List.set_cons_succ]
                  refine wpAnyH_done (by kernel_rfl) ?_ _
                  refine NoPanic.normal ?_
                  have HBC := Aside0.mk (below_step HBC0.out hHeld)
                  have HEC1 := Aside0.mk ((hHeld.block _ (blk_lt HEC0.out)).trans HEC0.out)
                  go_wp2_with (go_at_call 31; refine (refN_calls _ 14).mono ?_; rintro e w2 ⟨rfl, hw2⟩; have HE2 := Aside0.mk (show w2.heap[w.heap.size + 1]? = some (.cells #[.bool false, .slice none 0 0, .int .i64 0] 30 (0, 0)) by rw [hw2, heap_old _ _ _ (blk_lt HEC1.out)]; exact HEC1.out); have HB2 := Aside0.mk (show Below w.heap.size w w2 by rw [hw2]; exact (HBC.out).alloc (HBC.out).size _); clear hw2; obtain ⟨⟨q0, q1, q2⟩, q3, q4, q5⟩ := E_cells (x := (0, 0)) HE2.out)
                  clear q0 q1 q2 q3 q4 q5
                  (try simp only [Exit.inBlock, Exit.then])
                  obtain ⟨⟨x0, x1, x2⟩, _⟩ := E_cells (x := (0, 0)) (E_put HE2.out (.bool true) (.slice none 0 0) (.int .i64 14))
                  exact bodyPost_ret (v := .agg #[.bool true, .slice none 0 0, .int .i64 14]) (by simp [results, Tryz.results5, go_sem, x0, x1, x2]) rfl ⟨_, _, _, _, _, rfl, ⟨fun h => (by cases h), fun T => absurd T HNO.out⟩, below_put HB2.out (Nat.le_succ _) _ _ _⟩
              · have f2b : ((ls.length : Int) != (ms.length : Int) - 1) = true := by simp; omega
                have HNO := Lib.hid (show ¬ IsTree ms ls from fun T => f2 T.len)
                clear f1 f2
                go_quiet (fail)
                clear g0 g1
                obtain ⟨wd, hwd⟩ : ∃ wd, wd = wr.drewN nq := ⟨_, rfl⟩
                rw [← hwd]
                have HBC := Aside0.mk (show Below w.heap.size w wd by rw [hwd]; exact pw_below_drewN HBC0.out _)
                have HEC1 := Aside0.mk (show wd.heap[w.heap.size + 1]? = some (.cells #[.bool false, .slice none 0 0, .int .i64 0] 30 (0, 0)) by rw [hwd]; exact HEC0.out)
                clear hwd
                go_wp2_with (go_at_call 31; refine (refN_calls _ 14).mono ?_; rintro e w2 ⟨rfl, hw2⟩; have HE2 := Aside0.mk (show w2.heap[w.heap.size + 1]? = some (.cells #[.bool false, .slice none 0 0, .int .i64 0] 30 (0, 0)) by rw [hw2, heap_old _ _ _ (blk_lt HEC1.out)]; exact HEC1.out); have HB2 := Aside0.mk (show Below w.heap.size w w2 by rw [hw2]; exact (HBC.out).alloc (HBC.out).size _); clear hw2; obtain ⟨⟨q0, q1, q2⟩, q3, q4, q5⟩ := E_cells (x := (0, 0)) HE2.out)
                clear q0 q1 q2 q3 q4 q5
                (try simp only [Exit.inBlock, Exit.then])
                obtain ⟨⟨x0, x1, x2⟩, _⟩ := E_cells (x := (0, 0)) (E_put HE2.out (.bool true) (.slice none 0 0) (.int .i64 14))
                exact bodyPost_ret (v := .agg #[.bool true, .slice none 0 0, .int .i64 14]) (by simp [results, Tryz.results5, go_sem, x0, x1, x2]) rfl ⟨_, _, _, _, _, rfl, ⟨fun h => (by cases h), fun T => absurd T HNO.out⟩, below_put HB2.out (Nat.le_succ _) _ _ _⟩
end Go.Proofs.YtadaoplmicghcaaGreatDoor
