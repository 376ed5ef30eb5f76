/- The reference of the policy chapter: twice, Check. -/
import Derived.Test.YthgfodfkjlpegaaDoorPoC
import Derived.Test.YthgfodfkjlpegaaDoorErP
import Derived.Test.YthgfodfkjlpegaaDoorHas
namespace Go.Proofs.YthgfodfkjlpegaaDoor
open Go.RowKit Go.Proofs.YthgfodfkjlpegaaDoorW.PrintWords Go.Proofs.YthgfodfkjlpegaaDoorW.PrintLast Go.Proofs.YthgfodfkjlpegaaDoorW.PrintMore
set_option linter.unusedVariables false
set_option linter.unusedSimpArgs false
set_option maxRecDepth 100000 in
theorem refAt_calls (w : World) (kind k n : Int) :
    Calls Tryd.prog 26 #[.int .i64 kind, .int .i64 k, .agg #[.bool true, .slice none 0 0, .int .i64 n]] w fun e w' => e = .returned (.agg #[.bool true, .slice (some ⟨w.heap.size + 1 + 1, 0, none⟩) 1 1, .int .i64 n]) ∧
      w' = ((w.alloc (.cells #[.bool true, .slice none 0 0, .int .i64 n] 34)).alloc (.cells #[.bool true, .slice (some ⟨w.heap.size + 1 + 1, 0, none⟩) 1 1, .int .i64 n] 34)).alloc (.cells #[.int .i64 kind, .int .i64 k] 73) := by
  go_enter Tryd.func26, Tryd.ntmps26
  go_wp2
  (try simp only [Exit.inBlock, Exit.then])
  exact bodyPost_ret (v := .agg #[.bool true, .slice (some ⟨w.heap.size + 1 + 1, 0, none⟩) 1 1, .int .i64 n]) (by simp [results, Tryd.results26, go_sem]) rfl ⟨rfl, rfl⟩
theorem refAt_E (w : World) (kind k n : Int) :
    Calls Tryd.prog 26 #[.int .i64 kind, .int .i64 k, .agg #[.bool true, .slice none 0 0, .int .i64 n]] w fun e w' => ∃ v, e = .returned v ∧ IsE w' (.at_ kind k n) v ∧ Below w.heap.size w w' := by
  refine (refAt_calls w kind k n).mono ?_
  rintro e w2 ⟨rfl, rfl⟩
  refine ⟨_, rfl, ⟨w.heap.size + 1 + 1, 1, rfl, ?_, ?_⟩, ?_⟩
  · simp [go_sem]
  · simp [go_sem]
  · repeat (first | exact Below.refl _ _ | refine below_alloc ?_ _)
/-- Does a subscription stand in a list? -/
def hasSub (n : Int) (l : List Ld) : Bool := decide (n ∈ l.map Ld.sub)
theorem hasSub_yes {n : Int} {l : List Ld} (h : n ∈ l.map Ld.sub) : hasSub n l = true := by unfold hasSub; exact decide_eq_true h
theorem hasSub_no {n : Int} {l : List Ld} (h : n ∉ l.map Ld.sub) : hasSub n l = false := by unfold hasSub; exact decide_eq_false h
set_option maxRecDepth 100000 in
theorem twice_calls (w : World) (B : Option Addr) (d : Nat) (l : List Ld) (n : Int) (hl : kLd.C w B l.length l) :
    Calls Tryd.prog 25 #[.slice B l.length d, .int .i64 n] w fun e w' => e = .returned (.bool (hasSub n l)) ∧ Below w.heap.size w w' := by
  have HL := Lib.hid hl
  have hm2 : (l.length : Int) ≤ 9223372036854775807 := by have : l.length ≤ 9223372036854775807 := hl.2.1; omega
  clear hl
  go_enter Tryd.func25, Tryd.ntmps25
  go_wp2
  go_loopw [9] (fun v9 wr => ∃ k : Nat, v9 = .int .i64 k ∧ k ≤ l.length ∧ Hid (n ∉ (l.take k).map Ld.sub) ∧ Aside0 (Below w.heap.size w wr)) (fun v _ => l.length - (intOf v).toNat)
  case atStart => exact ⟨0, rfl, Nat.zero_le _, by unfold Hid; simp, ⟨Below.refl _ _⟩⟩
  case round =>
    obtain ⟨k, rfl, hk, hno, HB⟩ := hrel
    by_cases hlt : k < l.length
    · obtain ⟨ad, rfl, hc0, hc1, hc2⟩ := Ld_cell (kLd.C_below HL.out HB.out) hlt
      obtain ⟨x, hx⟩ : ∃ x, x = ldAt l k := ⟨_, rfl⟩
      rw [← hx] at hc0 hc1 hc2
      have k0 : (0 : Int) ≤ k := by omega
      have k1 : (k : Int) < l.length := by omega
      have HLT := Lib.hid hlt
      have HX := Lib.hid hx
      obtain ⟨xs, xn, xw⟩ := x
      simp only [] at hc0 hc1 hc2
      clear hlt hx
      by_cases he : xs = n
      · have hb : (xs == n) = true := beq_iff_eq.2 he
        have HE := Lib.hid (show hasSub n l = true from hasSub_yes (List.mem_map.2 ⟨ldAt l k, ldAt_mem l k HLT.out, by rw [← HX.out]; exact he⟩))
        clear he
        go_wp2
        go_ret
        rw [HE.out]
        exact ⟨rfl, below_step HB.out (below_alloc (Below.refl _ _) _)⟩
      · have hb : (xs == n) = false := beq_eq_false_iff_ne.2 he
        have HP := Lib.hid (show n ∉ (l.take (k + 1)).map Ld.sub by
          rw [take_ld l k HLT.out, List.map_append, List.mem_append]
          rintro (h | h)
          · exact hno.out h
          · simp [← HX.out] at h
            exact he h.symm)
        clear he
        go_wp2
        go_roundw
        case rel => exact ⟨k + 1, by go_num, by have := HLT.out; omega, HP, ⟨below_step HB.out (below_alloc (Below.refl _ _) _)⟩⟩
        case measure => have := HLT.out; simp [intOf]; omega
    · have k1 : ¬ (k : Int) < l.length := by omega
      have HP := Lib.hid (show hasSub n l = false by have := hno.out; rw [List.take_of_length_le (by omega)] at this; exact hasSub_no this)
      clear hlt
      go_wp2
      go_ret
      rw [HP.out]
      exact ⟨rfl, HB.out⟩
-- CHECKREF
theorem heap_old (W : World) (o : Obj) (i : Nat) (h : i < W.heap.size) : (W.alloc o).heap[i]? = W.heap[i]? := Below.heap_alloc W o i h
theorem infoRL : (Tryd.prog.info? 51).map (fun i => (i.zero, i.size, i.bytes)) = some (some (.agg #[.int .i64 0, .int .i64 0, .int .i64 0]), 3, 24) := by kernel_rfl
/-- list[:k]. -/
theorem Ld_front {w : World} {A : Option Addr} {c k : Nat} {l : List Ld} (h : kLd.C w A l.length l) (h2 : k ≤ l.length) (hc : l.length ≤ c) :
    ∃ A', (∀ W : World, (Instr.slice 23 (.slice A l.length c) none (some (.int .i64 k)) none).run Tryd.prog W = .ok (.slice A' (l.take k).length c) W) ∧ kLd.C w A' (l.take k).length (l.take k) := by
  have hl : (l.take k).length = k := by rw [List.length_take]; omega
  have hC := Kd.C_mid (k := kLd) h (Nat.zero_le k) h2 hc
  rw [List.drop_zero] at hC
  refine ⟨if c = 0 then A else A.map (·.add (0 * kLd.sz)), fun W => ?_, hC⟩
  obtain ⟨i0, hi0, hz0, hz1, hz2⟩ := info_parts infoRL
  have ht := Tryd.underlying23
  have hel : Tryd.prog.elem 23 = 51 := by simp [Program.elem, ht]
  have hu : Tryd.prog.underlying 23 = some (.slice (Tryd.prog.elem 23)) := by rw [hel]; exact ht
  rw [run_slice_h (w := W) 23 A l.length c hu .i64 (k : Int) (by omega) (by omega), hel, hl]
  have e1 : kLd.sz = 3 := rfl
  simp [sizeOf, typeInfo, hi0, hz1, sliced, Result.andThen, e1]
set_option maxRecDepth 100000 in
set_option maxHeartbeats 1000000 in
theorem checkRef_calls (w : World) (A B : Option Addr) (c d : Nat) (nodes : List Int) (l : List Ld) (hr : (Kd.int .i64).C w A nodes.length nodes) (hl : kLd.C w B l.length l) (hcap : l.length ≤ d) :
    Calls Tryd.prog 11 #[.slice A nodes.length c, .slice B l.length d] w fun e w' => ∃ v, e = .returned v ∧ IsE w' (chk nodes l) v ∧ Below w.heap.size w w' := by
  have HR0 := Lib.hid hr
  have HL0 := Lib.hid hl
  have HCAP := Lib.hid hcap
  have hm : (nodes.length : Int) ≤ 9223372036854775807 := by have : nodes.length ≤ 9223372036854775807 := hr.2.1; omega
  have hm2 : (l.length : Int) ≤ 9223372036854775807 := by have : l.length ≤ 9223372036854775807 := hl.2.1; omega
  clear hr hl hcap
  go_enter Tryd.func11, Tryd.ntmps11
  go_upto_region 1 with (fail)
  obtain ⟨wz, hwz⟩ : ∃ wz, wz = w.alloc (.cells #[.bool false, .slice none 0 0, .int .i64 0] 34) := ⟨_, rfl⟩
  rw [← hwz]
  have HBE := Aside0.mk (show wz.heap[w.heap.size]? = some (.cells #[.bool false, .slice none 0 0, .int .i64 0] 34 (0, 0)) by rw [hwz]; exact heap_alloc_new _ _)
  have HBW := Aside0.mk (show Below w.heap.size w wz by rw [hwz]; exact below_alloc (Below.refl _ _) _)
  have HR := Lib.hid (Kd.C_below HR0.out HBW.out)
  have HL := Lib.hid (kLd.C_below HL0.out HBW.out)
  clear hwz
  go_wp2
  go_loop [12] (fun v => ∃ k : Nat, k ≤ nodes.length ∧ v = .int .i64 k ∧ Hid ((nodes.take k).Pairwise (· < ·))) (fun v => nodes.length - (intOf v).toNat)
  case atStart => exact ⟨0, Nat.zero_le _, rfl, by unfold Hid; simp⟩
  case round =>
    obtain ⟨k, hk, rfl, hno⟩ := hrel
    by_cases hlt : k < nodes.length
    · obtain ⟨ad, rfl, hcell⟩ := C_cell HR.out hlt
      have k0 : (0 : Int) ≤ k := by omega
      have k1 : (k : Int) < nodes.length := by omega
      have HLT := Lib.hid hlt
      by_cases h0 : (k : Int) > 0
      · have h0b : decide ((k : Int) > 0) = true := by simpa using h0
        obtain ⟨j, hj⟩ : ∃ j : Nat, k = j + 1 := ⟨k - 1, by omega⟩
        have j0 : (0 : Int) ≤ (k : Int) - 1 := by omega
        have j1 : (k : Int) - 1 < nodes.length := by omega
        obtain ⟨_, e, hcell2⟩ := C_cell HR.out (show j < nodes.length by omega)
        cases e
        have HJ := Lib.hid hj
        obtain ⟨x, hx⟩ : ∃ x, x = rd nodes k := ⟨_, rfl⟩
        obtain ⟨y, hy⟩ : ∃ y, y = rd nodes j := ⟨_, rfl⟩
        rw [← hx] at hcell
        rw [← hy, show j = k - 1 by omega] at hcell2
        by_cases hb : y ≥ x
        · have hbb : decide (y ≥ x) = true := by simpa using hb
          have HN := Lib.hid (chk_unsorted (l := l) (inc_not hlt hj (by rw [← hx, ← hy]; exact hb)))
          clear hb hlt hx hy hj h0
          go_wp2_with (go_at_call 20; refine (refN_calls _ 1).mono ?_; rintro e w2 ⟨rfl, hw2⟩; have HE2 := Aside0.mk (show w2.heap[w.heap.size]? = some (.cells #[.bool false, .slice none 0 0, .int .i64 0] 34 (0, 0)) by rw [hw2, heap_old _ _ _ (blk_lt HBE.out)]; exact HBE.out); have HBN := Aside0.mk (show Below w.heap.size w w2 by rw [hw2]; exact HBW.out.alloc HBW.out.size _); clear hw2; obtain ⟨⟨q0, q1, q2⟩, q3, q4, q5⟩ := E_cells (x := (0, 0)) HE2.out)
          clear q0 q1 q2 q3 q4 q5
          (try simp only [Exit.inBlock, Exit.then])
          obtain ⟨⟨x0, x1, x2⟩, _⟩ := E_cells (x := (0, 0)) (E_put HE2.out (.bool true) (.slice none 0 0) (.int .i64 1))
          exact bodyPost_ret (v := .agg #[.bool true, .slice none 0 0, .int .i64 1]) (by simp [results, Tryd.results11, go_sem, x0, x1, x2]) rfl ⟨_, rfl, by rw [HN.out]; exact rfl, below_put HBN.out (Nat.le_refl _) _ _ _⟩
        · have hbb : decide (y ≥ x) = false := by simpa using hb
          have HP := Lib.hid (inc_step hno.out hlt hj (by rw [← hx, ← hy]; omega))
          clear hb hlt hx hy hj h0
          go_wp2
          go_round
          case rel => exact ⟨k + 1, by have := HLT.out; omega, by go_num, HP⟩
          case measure => have := HLT.out; simp [intOf]; omega
      · obtain rfl : k = 0 := by omega
        have hc0 : wz.cell? ad = some (.int .i64 (rd nodes 0)) := by simpa [Addr.add] using hcell
        have HP := Lib.hid (show (nodes.take 1).Pairwise (· < ·) by have := take_rd nodes 0 hlt; simp only [List.take_zero, List.nil_append] at this; rw [this]; simp)
        have k2 : (0 : Int) < nodes.length := by omega
        clear h0 hlt hcell k0 k1
        go_wp2
        go_round
        case rel => exact ⟨1, by have := HLT.out; omega, by go_num, HP⟩
        case measure => have := HLT.out; simp [intOf]; omega
    · have k1 : ¬ (k : Int) < nodes.length := by omega
      have HS := Lib.hid (show nodes.Pairwise (· < ·) by have := hno.out; rw [List.take_of_length_le (by omega)] at this; exact this)
      clear hlt
      by_cases he : nodes = []
      · subst he
        have HN := Lib.hid (chk_empty (l := l))
        go_wp2_with (go_at_call 20; refine (refN_calls _ 1).mono ?_; rintro e w2 ⟨rfl, hw2⟩; have HE2 := Aside0.mk (show w2.heap[w.heap.size]? = some (.cells #[.bool false, .slice none 0 0, .int .i64 0] 34 (0, 0)) by rw [hw2, heap_old _ _ _ (blk_lt HBE.out)]; exact HBE.out); have HBN := Aside0.mk (show Below w.heap.size w w2 by rw [hw2]; exact HBW.out.alloc HBW.out.size _); clear hw2; obtain ⟨⟨q0, q1, q2⟩, q3, q4, q5⟩ := E_cells (x := (0, 0)) HE2.out)
        clear q0 q1 q2 q3 q4 q5
        (try simp only [Exit.inBlock, Exit.then])
        obtain ⟨⟨x0, x1, x2⟩, _⟩ := E_cells (x := (0, 0)) (E_put HE2.out (.bool true) (.slice none 0 0) (.int .i64 1))
        exact bodyPost_ret (v := .agg #[.bool true, .slice none 0 0, .int .i64 1]) (by simp [results, Tryd.results11, go_sem, x0, x1, x2]) rfl ⟨_, rfl, by rw [HN.out]; exact rfl, below_put HBN.out (Nat.le_refl _) _ _ _⟩
      · have he1 : ((nodes.length : Int) == 0) = false := by
          have := List.length_pos_iff.2 he
          exact beq_eq_false_iff_ne.2 (by omega)
        have HE := Lib.hid he
        clear he
        by_cases hg : (l.length : Int) > 512
        · have HN := Lib.hid (chk_long HS.out HE.out (l := l) (by omega))
          go_wp2_with (go_at_call 20; refine (refN_calls _ 2).mono ?_; rintro e w2 ⟨rfl, hw2⟩; have HE2 := Aside0.mk (show w2.heap[w.heap.size]? = some (.cells #[.bool false, .slice none 0 0, .int .i64 0] 34 (0, 0)) by rw [hw2, heap_old _ _ _ (blk_lt HBE.out)]; exact HBE.out); have HBN := Aside0.mk (show Below w.heap.size w w2 by rw [hw2]; exact HBW.out.alloc HBW.out.size _); clear hw2; obtain ⟨⟨q0, q1, q2⟩, q3, q4, q5⟩ := E_cells (x := (0, 0)) HE2.out)
          clear q0 q1 q2 q3 q4 q5
          (try simp only [Exit.inBlock, Exit.then])
          obtain ⟨⟨x0, x1, x2⟩, _⟩ := E_cells (x := (0, 0)) (E_put HE2.out (.bool true) (.slice none 0 0) (.int .i64 2))
          exact bodyPost_ret (v := .agg #[.bool true, .slice none 0 0, .int .i64 2]) (by simp [results, Tryd.results11, go_sem, x0, x1, x2]) rfl ⟨_, rfl, by rw [HN.out]; exact rfl, below_put HBN.out (Nat.le_refl _) _ _ _⟩
        · have HN := Lib.hid (chk_loads HS.out HE.out (l := l) (by omega))
          have HLEN := Lib.hid (show l.length ≤ 512 by omega)
          go_wp2
          go_loopw [42] (fun v42 wr => ∃ k : Nat, v42 = .int .i64 k ∧ k ≤ l.length ∧ Aside0 (Below wz.heap.size wz wr) ∧ Hid (ldErrs nodes l k = .ok)) (fun v _ => l.length - (intOf v).toNat)
          case atStart => exact ⟨0, rfl, Nat.zero_le _, ⟨Below.refl _ _⟩, rfl⟩
          case round =>
            obtain ⟨k, rfl, hk, HB, HER⟩ := hrel
            by_cases hlt : k < l.length
            · obtain ⟨ad, rfl, hc0, hc1, hc2⟩ := Ld_cell (kLd.C_below HL.out HB.out) hlt
              obtain ⟨x, hx⟩ : ∃ x, x = ldAt l k := ⟨_, rfl⟩
              rw [← hx] at hc0 hc1 hc2
              have k0 : (0 : Int) ≤ k := by omega
              have k1 : (k : Int) < l.length := by omega
              have HLT := Lib.hid hlt
              have HX := Lib.hid hx
              obtain ⟨xs, xn, xw⟩ := x
              simp only [] at hc0 hc1 hc2
              clear hlt hx
              go_upto_region 15 with (fail)
              obtain ⟨wx, hwx⟩ : ∃ wx, wx = wr.alloc (.cells #[.int .i64 xs, .int .i64 xn, .int .i64 xw] 51) := ⟨_, rfl⟩
              rw [← hwx]
              have HSX := Lib.hid (show wx.heap.size = wr.heap.size + 1 by rw [hwx]; exact Array.size_push _)
              obtain ⟨w0, hw0⟩ : ∃ w0, w0 = wx.alloc (.cells #[.bool false, .slice none 0 0, .int .i64 0] 34) := ⟨_, rfl⟩
              rw [← hw0]
              have HBX := Aside0.mk (show w0.heap[wr.heap.size]? = some (.cells #[.int .i64 xs, .int .i64 xn, .int .i64 xw] 51 (0, 0)) by rw [hw0, heap_old _ _ _ (by rw [HSX.out]; omega), hwx]; exact heap_alloc_new _ _)
              have HBZ := Aside0.mk (show w0.heap[wr.heap.size + 1]? = some (.cells #[.bool false, .slice none 0 0, .int .i64 0] 34 (0, 0)) by rw [hw0, ← HSX.out]; exact heap_alloc_new _ _)
              have HBz := Aside0.mk (show Below wz.heap.size wz w0 by rw [hw0, hwx]; exact below_step HB.out (below_alloc (below_alloc (Below.refl _ _) _) _))
              have HBW0 := Aside0.mk (below_step HBW.out HBz.out)
              have HBE0 := Aside0.mk ((HBz.out.block _ (blk_lt HBE.out)).trans HBE.out)
              have HGE := Lib.hid (show w.heap.size < wr.heap.size + 1 by have h1 := blk_lt HBE.out; have h2 := HB.out.size; omega)
              clear hw0 hwx hc0 hc1 hc2
              have b0 : w0.cell? ⟨wr.heap.size, 0, none⟩ = some (.int .i64 xs) := by unfold World.cell?; rw [HBX.out]; rfl
              have b1 : w0.cell? ⟨wr.heap.size, 1, none⟩ = some (.int .i64 xn) := by unfold World.cell?; rw [HBX.out]; rfl
              have b2 : w0.cell? ⟨wr.heap.size, 2, none⟩ = some (.int .i64 xw) := by unfold World.cell?; rw [HBX.out]; rfl
              by_cases hin : xn ∈ nodes
              · have HIN := Lib.hid (show decide (xn ∈ nodes) = true by simpa using hin)
                have HIN2 := Lib.hid hin
                clear hin
                by_cases e1 : xw < 0
                · have e1b : decide (xw < 0) = true := by simpa using e1
                  have HERR := Lib.hid (ldErrs_end HER.out HLT.out (e := .at_ 2 k 1) (by unfold ldErr; rw [← HX.out, if_neg (by simpa using HIN2.out), if_pos (Or.inl e1)]) (by simp))
                  clear e1
                  go_upto_region 21 with (first
                    | (go_at_call 24; refine (has_calls _ _ _ nodes _ (Kd.C_below HR.out HBz.out)).mono ?_; rintro e w3 ⟨rfl, rfl⟩; rw [HIN.out])
                    | (go_at_call 20; refine (refN_calls _ 1).mono ?_; rintro e w2 ⟨rfl, hw2⟩; have HE2 := Aside0.mk (show w2.heap[w.heap.size]? = some (.cells #[.bool false, .slice none 0 0, .int .i64 0] 34 (0, 0)) by rw [hw2, heap_old _ _ _ (blk_lt HBE0.out)]; exact HBE0.out); have HZ2 := Aside0.mk (show w2.heap[wr.heap.size + 1]? = some (.cells #[.bool false, .slice none 0 0, .int .i64 0] 34 (0, 0)) by rw [hw2, heap_old _ _ _ (blk_lt HBZ.out)]; exact HBZ.out); have HBN := Aside0.mk (show Below w.heap.size w w2 by rw [hw2]; exact HBW0.out.alloc HBW0.out.size _); clear hw2; obtain ⟨⟨q0, q1, q2⟩, q3, q4, q5⟩ := E_cells (x := (0, 0)) HZ2.out))
                  obtain ⟨w3, hw3⟩ : ∃ w3, w3 = ((w2.setCell ⟨wr.heap.size + 1, 0, none⟩ (.bool true)).setCell ⟨wr.heap.size + 1, 1, none⟩ (.slice none 0 0)).setCell ⟨wr.heap.size + 1, 2, none⟩ (.int .i64 1) := ⟨_, rfl⟩
                  rw [← hw3]
                  have HZ3 := Aside0.mk (show w3.heap[wr.heap.size + 1]? = some (.cells #[.bool true, .slice none 0 0, .int .i64 1] 34 (0, 0)) by rw [hw3]; exact E_put HZ2.out _ _ _)
                  have HE3 := Aside0.mk (show w3.heap[w.heap.size]? = some (.cells #[.bool false, .slice none 0 0, .int .i64 0] 34 (0, 0)) by rw [hw3, Below.heap_setCell _ _ _ _ (Nat.ne_of_lt HGE.out), Below.heap_setCell _ _ _ _ (Nat.ne_of_lt HGE.out), Below.heap_setCell _ _ _ _ (Nat.ne_of_lt HGE.out)]; exact HE2.out)
                  have HB3 := Aside0.mk (show Below w.heap.size w w3 by rw [hw3]; exact below_put HBN.out (Nat.le_of_lt HGE.out) _ _ _)
                  clear hw3 q0 q1 q2 q3 q4 q5
                  obtain ⟨⟨z0, z1, z2⟩, -⟩ := E_cells (x := (0, 0)) HZ3.out
                  go_wp2_with (go_at_call 26; refine (refAt_E _ 2 k 1).mono ?_; rintro e w4 ⟨v, rfl, hv, hb⟩; have HV := Aside0.mk hv; obtain ⟨AA, an, ac, acd, rfl⟩ := hv.open_bad rfl; have HB4 := Aside0.mk (below_step HB3.out hb); have HE4 := Aside0.mk ((hb.block _ (blk_lt HE3.out)).trans HE3.out); clear hv hb; obtain ⟨⟨q0, q1, q2⟩, q3, q4, q5⟩ := E_cells (x := (0, 0)) HE4.out)
                  clear q0 q1 q2 q3 q4 q5
                  (try simp only [Exit.inBlock, Exit.then])
                  obtain ⟨⟨x0, x1, x2⟩, _⟩ := E_cells (x := (0, 0)) (E_put HE4.out (.bool true) (.slice AA an ac) (.int .i64 acd))
                  exact bodyPost_ret (v := .agg #[.bool true, .slice AA an ac, .int .i64 acd]) (by simp [results, Tryd.results11, go_sem, x0, x1, x2]) rfl ⟨_, rfl, by rw [HN.out, HERR.out]; exact IsE.put HV.out HE4.out _ _ _, below_put HB4.out (Nat.le_refl _) _ _ _⟩
                · have e1b : decide (xw < 0) = false := by simpa using e1
                  by_cases e2 : xw > 1000000
                  · have e2b : decide (xw > 1000000) = true := by simpa using e2
                    have HERR := Lib.hid (ldErrs_end HER.out HLT.out (e := .at_ 2 k 1) (by unfold ldErr; rw [← HX.out, if_neg (by simpa using HIN2.out), if_pos (Or.inr e2)]) (by simp))
                    clear e1 e2
                    go_upto_region 21 with (first
                      | (go_at_call 24; refine (has_calls _ _ _ nodes _ (Kd.C_below HR.out HBz.out)).mono ?_; rintro e w3 ⟨rfl, rfl⟩; rw [HIN.out])
                      | (go_at_call 20; refine (refN_calls _ 1).mono ?_; rintro e w2 ⟨rfl, hw2⟩; have HE2 := Aside0.mk (show w2.heap[w.heap.size]? = some (.cells #[.bool false, .slice none 0 0, .int .i64 0] 34 (0, 0)) by rw [hw2, heap_old _ _ _ (blk_lt HBE0.out)]; exact HBE0.out); have HZ2 := Aside0.mk (show w2.heap[wr.heap.size + 1]? = some (.cells #[.bool false, .slice none 0 0, .int .i64 0] 34 (0, 0)) by rw [hw2, heap_old _ _ _ (blk_lt HBZ.out)]; exact HBZ.out); have HBN := Aside0.mk (show Below w.heap.size w w2 by rw [hw2]; exact HBW0.out.alloc HBW0.out.size _); clear hw2; obtain ⟨⟨q0, q1, q2⟩, q3, q4, q5⟩ := E_cells (x := (0, 0)) HZ2.out))
                    obtain ⟨w3, hw3⟩ : ∃ w3, w3 = ((w2.setCell ⟨wr.heap.size + 1, 0, none⟩ (.bool true)).setCell ⟨wr.heap.size + 1, 1, none⟩ (.slice none 0 0)).setCell ⟨wr.heap.size + 1, 2, none⟩ (.int .i64 1) := ⟨_, rfl⟩
                    rw [← hw3]
                    have HZ3 := Aside0.mk (show w3.heap[wr.heap.size + 1]? = some (.cells #[.bool true, .slice none 0 0, .int .i64 1] 34 (0, 0)) by rw [hw3]; exact E_put HZ2.out _ _ _)
                    have HE3 := Aside0.mk (show w3.heap[w.heap.size]? = some (.cells #[.bool false, .slice none 0 0, .int .i64 0] 34 (0, 0)) by rw [hw3, Below.heap_setCell _ _ _ _ (Nat.ne_of_lt HGE.out), Below.heap_setCell _ _ _ _ (Nat.ne_of_lt HGE.out), Below.heap_setCell _ _ _ _ (Nat.ne_of_lt HGE.out)]; exact HE2.out)
                    have HB3 := Aside0.mk (show Below w.heap.size w w3 by rw [hw3]; exact below_put HBN.out (Nat.le_of_lt HGE.out) _ _ _)
                    clear hw3 q0 q1 q2 q3 q4 q5
                    obtain ⟨⟨z0, z1, z2⟩, -⟩ := E_cells (x := (0, 0)) HZ3.out
                    go_wp2_with (go_at_call 26; refine (refAt_E _ 2 k 1).mono ?_; rintro e w4 ⟨v, rfl, hv, hb⟩; have HV := Aside0.mk hv; obtain ⟨AA, an, ac, acd, rfl⟩ := hv.open_bad rfl; have HB4 := Aside0.mk (below_step HB3.out hb); have HE4 := Aside0.mk ((hb.block _ (blk_lt HE3.out)).trans HE3.out); clear hv hb; obtain ⟨⟨q0, q1, q2⟩, q3, q4, q5⟩ := E_cells (x := (0, 0)) HE4.out)
                    clear q0 q1 q2 q3 q4 q5
                    (try simp only [Exit.inBlock, Exit.then])
                    obtain ⟨⟨x0, x1, x2⟩, _⟩ := E_cells (x := (0, 0)) (E_put HE4.out (.bool true) (.slice AA an ac) (.int .i64 acd))
                    exact bodyPost_ret (v := .agg #[.bool true, .slice AA an ac, .int .i64 acd]) (by simp [results, Tryd.results11, go_sem, x0, x1, x2]) rfl ⟨_, rfl, by rw [HN.out, HERR.out]; exact IsE.put HV.out HE4.out _ _ _, below_put HB4.out (Nat.le_refl _) _ _ _⟩
                  · have e2b : decide (xw > 1000000) = false := by simpa using e2
                    have HWW := Lib.hid (show ¬ (xw < 0 ∨ 1000000 < xw) by omega)
                    clear e1 e2
                    go_upto_region 19 with (go_at_call 24; refine (has_calls _ _ _ nodes _ (Kd.C_below HR.out HBz.out)).mono ?_; rintro e w3 ⟨rfl, rfl⟩; rw [HIN.out])
                    obtain ⟨A', hcut, hCT⟩ := Ld_front (kLd.C_below HL.out HBz.out) (Nat.le_of_lt HLT.out) HCAP.out
                    obtain ⟨lt, hlt2⟩ : ∃ lt, lt = l.take k := ⟨_, rfl⟩
                    rw [← hlt2] at hcut hCT
                    have HCT := Lib.hid hCT
                    have HLT2 := Lib.hid hlt2
                    clear hCT hlt2 b0 b1 b2 e1b e2b
                    by_cases e3 : xs ∈ (l.take k).map Ld.sub
                    · have HH := Lib.hid (show hasSub xs lt = true by rw [HLT2.out]; exact hasSub_yes e3)
                      have HERR := Lib.hid (ldErrs_end HER.out HLT.out (e := .at_ 2 k 9) (by unfold ldErr; rw [← HX.out, if_neg (by simpa using HIN2.out), if_neg HWW.out, if_pos e3]) (by simp))
                      clear e3
                      refine wp_region_noPanic ?_
                      refine wp_region_held_drew (S := fun W => W.heap[wr.heap.size]? = some (.cells #[.int .i64 xs, .int .i64 xn, .int .i64 xw] 51 (0, 0))) (by kernel_rfl) HBX.out (fun hHeld => ?_)
                      obtain ⟨wd, hwd⟩ : ∃ wd, wd = w0.drew := ⟨_, rfl⟩
                      have HBD := Aside0.mk (show Below w0.heap.size w0 wd by rw [hwd]; exact (Below.refl _ _).drew)
                      rw [← hwd] at hHeld ⊢
                      clear hwd
                      refine wpAnyH_take (i := 0) (v := ?_) rfl (by kernel_rfl) (by kernel_rfl) (by kernel_rfl) (fun _ _ _ h => h) (Or.inl ⟨by rfl, ?_⟩) (by assumption) ?_
                      rotate_left 1
                      · first | (intro w hSw; go_simp; done) | (intro w hSw; go_simp; with_reducible rfl)
                      try simp only [Act.put, List.getElem_toArray, List.getElem_cons_zero, List.getElem_cons_succ, List.setIfInBounds_toArray, List.set_cons_zero, List.set_cons_succ]
                      refine wpAnyH_take (i := 1) (v := ?_) rfl (by kernel_rfl) (by kernel_rfl) (by kernel_rfl) (fun _ _ _ h => h) (Or.inl ⟨by rfl, ?_⟩) (by assumption) ?_
                      rotate_left 1
                      · first | (intro w hSw; go_simp; done) | (intro w hSw; go_simp; with_reducible rfl)
                      try simp only [Act.put, List.getElem_toArray, List.getElem_cons_zero, List.getElem_cons_succ, List.setIfInBounds_toArray, List.set_cons_zero, List.set_cons_succ]
                      refine wpAnyH_take (i := 2) (v := ?_) rfl (by kernel_rfl) (by kernel_rfl) (by kernel_rfl) (fun _ _ _ h => h) (Or.inl ⟨by rfl, ?_⟩) (by assumption) ?_
                      rotate_left 1
                      · first | (intro w hSw; go_simp; done) | (intro w hSw; go_simp; with_reducible rfl)
                      try simp only [Act.put, List.getElem_toArray, List.getElem_cons_zero, List.getElem_cons_succ, List.setIfInBounds_toArray, List.set_cons_zero, List.set_cons_succ]
                      refine wpAnyH_take (i := 3) (v := ?_) rfl (by kernel_rfl) (by kernel_rfl) (by kernel_rfl) (fun _ _ _ h => h) (Or.inl ⟨by rfl, ?_⟩) (by assumption) ?_
                      rotate_left 1
                      · first | (intro w hSw; go_simp; done) | (intro w hSw; go_simp; with_reducible rfl)
                      try simp only [Act.put, List.getElem_toArray, List.getElem_cons_zero, List.getElem_cons_succ, List.setIfInBounds_toArray, List.set_cons_zero, List.set_cons_succ]
                      refine wpAnyH_take (i := 4) (v := ?_) rfl (by kernel_rfl) (by kernel_rfl) (by kernel_rfl) (fun _ _ _ h => h) (Or.inl ⟨by rfl, ?_⟩) (by assumption) ?_
                      rotate_left 1
                      · first | (intro w hSw; have b1 : w.cell? ⟨wr.heap.size, 0, none⟩ = some (.int .i64 xs) := (by unfold World.cell?; rw [hSw]; rfl); go_simp; done) | (intro w hSw; have b1 : w.cell? ⟨wr.heap.size, 0, none⟩ = some (.int .i64 xs) := (by unfold World.cell?; rw [hSw]; rfl); go_simp; with_reducible rfl)
                      try simp only [Act.put, List.getElem_toArray, List.getElem_cons_zero, List.getElem_cons_succ, List.setIfInBounds_toArray, List.set_cons_zero, List.set_cons_succ]
                      refine wpAnyH_ready (rs := [5]) (by kernel_rfl) (by simp) ?_
                      refine AllReadyH.cons rfl (fun K hK => ?_) AllReadyH.nil
                      go_simp
                      refine (twice_calls _ A' d lt xs (kLd.C_below HCT.out HBD.out)).mono ?_; rintro e w5 ⟨rfl, hb⟩; rw [HH.out]; have HB5 := Aside0.mk (below_step HBD.out hb); have HX5 := Lib.hid ((hb.block _ (blk_lt hHeld)).trans hHeld); clear hb
                      go_simp
                      refine hK.out _ _ HX5.out (fun hHeld => ?_)
                      clear hK K
                      try simp only [Act.put, List.getElem_toArray, List.getElem_cons_zero, List.getElem_cons_succ, List.setIfInBounds_toArray, List.set_cons_zero, List.set_cons_succ]
                      refine wpAnyH_take (i := 6) (v := ?_) rfl (by kernel_rfl) (by kernel_rfl) (by kernel_rfl) (fun _ _ _ h => h) (Or.inl ⟨by rfl, ?_⟩) (by assumption) ?_
                      rotate_left 1
                      · first | (intro w hSw; go_simp; done) | (intro w hSw; go_simp; with_reducible rfl)
                      try simp only [Act.put, List.getElem_toArray, List.getElem_cons_zero, List.getElem_cons_succ, List.setIfInBounds_toArray, List.set_cons_zero, List.set_cons_succ]
                      refine wpAnyH_done (by kernel_rfl) ?_ _
                      refine NoPanic.normal ?_
                      have HBz5 := Aside0.mk (below_step HBz.out HB5.out)
                      have HBE5 := Aside0.mk ((HB5.out.block _ (blk_lt HBE0.out)).trans HBE0.out)
                      have HBZ5 := Aside0.mk ((HB5.out.block _ (blk_lt HBZ.out)).trans HBZ.out)
                      have HBW5 := Aside0.mk (below_step HBW.out HBz5.out)
                      clear hcut
                      go_upto_region 21 with (first
                        | (go_at_call 20; refine (refN_calls _ 9).mono ?_; rintro e w2 ⟨rfl, hw2⟩; have HE2 := Aside0.mk (show w2.heap[w.heap.size]? = some (.cells #[.bool false, .slice none 0 0, .int .i64 0] 34 (0, 0)) by rw [hw2, heap_old _ _ _ (blk_lt HBE5.out)]; exact HBE5.out); have HZ2 := Aside0.mk (show w2.heap[wr.heap.size + 1]? = some (.cells #[.bool false, .slice none 0 0, .int .i64 0] 34 (0, 0)) by rw [hw2, heap_old _ _ _ (blk_lt HBZ5.out)]; exact HBZ5.out); have HBN := Aside0.mk (show Below w.heap.size w w2 by rw [hw2]; exact HBW5.out.alloc HBW5.out.size _); clear hw2; obtain ⟨⟨q0, q1, q2⟩, q3, q4, q5⟩ := E_cells (x := (0, 0)) HZ2.out))
                      obtain ⟨w3, hw3⟩ : ∃ w3, w3 = ((w2.setCell ⟨wr.heap.size + 1, 0, none⟩ (.bool true)).setCell ⟨wr.heap.size + 1, 1, none⟩ (.slice none 0 0)).setCell ⟨wr.heap.size + 1, 2, none⟩ (.int .i64 9) := ⟨_, rfl⟩
                      rw [← hw3]
                      have HZ3 := Aside0.mk (show w3.heap[wr.heap.size + 1]? = some (.cells #[.bool true, .slice none 0 0, .int .i64 9] 34 (0, 0)) by rw [hw3]; exact E_put HZ2.out _ _ _)
                      have HE3 := Aside0.mk (show w3.heap[w.heap.size]? = some (.cells #[.bool false, .slice none 0 0, .int .i64 0] 34 (0, 0)) by rw [hw3, Below.heap_setCell _ _ _ _ (Nat.ne_of_lt HGE.out), Below.heap_setCell _ _ _ _ (Nat.ne_of_lt HGE.out), Below.heap_setCell _ _ _ _ (Nat.ne_of_lt HGE.out)]; exact HE2.out)
                      have HB3 := Aside0.mk (show Below w.heap.size w w3 by rw [hw3]; exact below_put HBN.out (Nat.le_of_lt HGE.out) _ _ _)
                      clear hw3 q0 q1 q2 q3 q4 q5
                      obtain ⟨⟨z0, z1, z2⟩, -⟩ := E_cells (x := (0, 0)) HZ3.out
                      go_wp2_with (go_at_call 26; refine (refAt_E _ 2 k 9).mono ?_; rintro e w4 ⟨v, rfl, hv, hb⟩; have HV := Aside0.mk hv; obtain ⟨AA, an, ac, acd, rfl⟩ := hv.open_bad rfl; have HB4 := Aside0.mk (below_step HB3.out hb); have HE4 := Aside0.mk ((hb.block _ (blk_lt HE3.out)).trans HE3.out); clear hv hb; obtain ⟨⟨q0, q1, q2⟩, q3, q4, q5⟩ := E_cells (x := (0, 0)) HE4.out)
                      clear q0 q1 q2 q3 q4 q5
                      (try simp only [Exit.inBlock, Exit.then])
                      obtain ⟨⟨x0, x1, x2⟩, _⟩ := E_cells (x := (0, 0)) (E_put HE4.out (.bool true) (.slice AA an ac) (.int .i64 acd))
                      exact bodyPost_ret (v := .agg #[.bool true, .slice AA an ac, .int .i64 acd]) (by simp [results, Tryd.results11, go_sem, x0, x1, x2]) rfl ⟨_, rfl, by rw [HN.out, HERR.out]; exact IsE.put HV.out HE4.out _ _ _, below_put HB4.out (Nat.le_refl _) _ _ _⟩
                    · have HH := Lib.hid (show hasSub xs lt = false by rw [HLT2.out]; exact hasSub_no e3)
                      have HST := Lib.hid (show ldErrs nodes l (k + 1) = .ok by rw [ldErrs_step HER.out]; unfold ldErr; rw [← HX.out, if_neg (by simpa using HIN2.out), if_neg HWW.out, if_neg e3])
                      clear e3
                      refine wp_region_noPanic ?_
                      refine wp_region_held_drew (S := fun W => W.heap[wr.heap.size]? = some (.cells #[.int .i64 xs, .int .i64 xn, .int .i64 xw] 51 (0, 0))) (by kernel_rfl) HBX.out (fun hHeld => ?_)
                      obtain ⟨wd, hwd⟩ : ∃ wd, wd = w0.drew := ⟨_, rfl⟩
                      have HBD := Aside0.mk (show Below w0.heap.size w0 wd by rw [hwd]; exact (Below.refl _ _).drew)
                      rw [← hwd] at hHeld ⊢
                      clear hwd
                      refine wpAnyH_take (i := 0) (v := ?_) rfl (by kernel_rfl) (by kernel_rfl) (by kernel_rfl) (fun _ _ _ h => h) (Or.inl ⟨by rfl, ?_⟩) (by assumption) ?_
                      rotate_left 1
                      · first | (intro w hSw; go_simp; done) | (intro w hSw; go_simp; with_reducible rfl)
                      try simp only [Act.put, List.getElem_toArray, List.getElem_cons_zero, List.getElem_cons_succ, List.setIfInBounds_toArray, List.set_cons_zero, List.set_cons_succ]
                      refine wpAnyH_take (i := 1) (v := ?_) rfl (by kernel_rfl) (by kernel_rfl) (by kernel_rfl) (fun _ _ _ h => h) (Or.inl ⟨by rfl, ?_⟩) (by assumption) ?_
                      rotate_left 1
                      · first | (intro w hSw; go_simp; done) | (intro w hSw; go_simp; with_reducible rfl)
                      try simp only [Act.put, List.getElem_toArray, List.getElem_cons_zero, List.getElem_cons_succ, List.setIfInBounds_toArray, List.set_cons_zero, List.set_cons_succ]
                      refine wpAnyH_take (i := 2) (v := ?_) rfl (by kernel_rfl) (by kernel_rfl) (by kernel_rfl) (fun _ _ _ h => h) (Or.inl ⟨by rfl, ?_⟩) (by assumption) ?_
                      rotate_left 1
                      · first | (intro w hSw; go_simp; done) | (intro w hSw; go_simp; with_reducible rfl)
                      try simp only [Act.put, List.getElem_toArray, List.getElem_cons_zero, List.getElem_cons_succ, List.setIfInBounds_toArray, List.set_cons_zero, List.set_cons_succ]
                      refine wpAnyH_take (i := 3) (v := ?_) rfl (by kernel_rfl) (by kernel_rfl) (by kernel_rfl) (fun _ _ _ h => h) (Or.inl ⟨by rfl, ?_⟩) (by assumption) ?_
                      rotate_left 1
                      · first | (intro w hSw; go_simp; done) | (intro w hSw; go_simp; with_reducible rfl)
                      try simp only [Act.put, List.getElem_toArray, List.getElem_cons_zero, List.getElem_cons_succ, List.setIfInBounds_toArray, List.set_cons_zero, List.set_cons_succ]
                      refine wpAnyH_take (i := 4) (v := ?_) rfl (by kernel_rfl) (by kernel_rfl) (by kernel_rfl) (fun _ _ _ h => h) (Or.inl ⟨by rfl, ?_⟩) (by assumption) ?_
                      rotate_left 1
                      · first | (intro w hSw; have b1 : w.cell? ⟨wr.heap.size, 0, none⟩ = some (.int .i64 xs) := (by unfold World.cell?; rw [hSw]; rfl); go_simp; done) | (intro w hSw; have b1 : w.cell? ⟨wr.heap.size, 0, none⟩ = some (.int .i64 xs) := (by unfold World.cell?; rw [hSw]; rfl); go_simp; with_reducible rfl)
                      try simp only [Act.put, List.getElem_toArray, List.getElem_cons_zero, List.getElem_cons_succ, List.setIfInBounds_toArray, List.set_cons_zero, List.set_cons_succ]
                      refine wpAnyH_ready (rs := [5]) (by kernel_rfl) (by simp) ?_
                      refine AllReadyH.cons rfl (fun K hK => ?_) AllReadyH.nil
                      go_simp
                      refine (twice_calls _ A' d lt xs (kLd.C_below HCT.out HBD.out)).mono ?_; rintro e w5 ⟨rfl, hb⟩; rw [HH.out]; have HB5 := Aside0.mk (below_step HBD.out hb); have HX5 := Lib.hid ((hb.block _ (blk_lt hHeld)).trans hHeld); clear hb
                      go_simp
                      refine hK.out _ _ HX5.out (fun hHeld => ?_)
                      clear hK K
                      try simp only [Act.put, List.getElem_toArray, List.getElem_cons_zero, List.getElem_cons_succ, List.setIfInBounds_toArray, List.set_cons_zero, List.set_cons_succ]
                      refine wpAnyH_take (i := 6) (v := ?_) rfl (by kernel_rfl) (by kernel_rfl) (by kernel_rfl) (fun _ _ _ h => h) (Or.inl ⟨by rfl, ?_⟩) (by assumption) ?_
                      rotate_left 1
                      · first | (intro w hSw; go_simp; done) | (intro w hSw; go_simp; with_reducible rfl)
                      try simp only [Act.put, List.getElem_toArray, List.getElem_cons_zero, List.getElem_cons_succ, List.setIfInBounds_toArray, List.set_cons_zero, List.set_cons_succ]
                      refine wpAnyH_done (by kernel_rfl) ?_ _
                      refine NoPanic.normal ?_
                      have HBz5 := Aside0.mk (below_step HBz.out HB5.out)
                      have HBE5 := Aside0.mk ((HB5.out.block _ (blk_lt HBE0.out)).trans HBE0.out)
                      have HBZ5 := Aside0.mk ((HB5.out.block _ (blk_lt HBZ.out)).trans HBZ.out)
                      have HBW5 := Aside0.mk (below_step HBW.out HBz5.out)
                      clear hcut
                      obtain ⟨⟨z0, z1, z2⟩, -⟩ := E_cells (x := (0, 0)) HBZ5.out
                      go_wp2
                      go_roundw
                      case rel => exact ⟨k + 1, by go_num, by have := HLT.out; omega, HBz5, HST⟩
                      case measure => have := HLT.out; simp [intOf]; omega
              · have HIN := Lib.hid (show decide (xn ∈ nodes) = false by simpa using hin)
                have HERR := Lib.hid (ldErrs_end HER.out HLT.out (e := .at_ 2 k 12) (by unfold ldErr; rw [← HX.out, if_pos hin]) (by simp))
                clear hin
                go_upto_region 21 with (first
                  | (go_at_call 24; refine (has_calls _ _ _ nodes _ (Kd.C_below HR.out HBz.out)).mono ?_; rintro e w3 ⟨rfl, rfl⟩; rw [HIN.out])
                  | (go_at_call 20; refine (refN_calls _ 12).mono ?_; rintro e w2 ⟨rfl, hw2⟩; have HE2 := Aside0.mk (show w2.heap[w.heap.size]? = some (.cells #[.bool false, .slice none 0 0, .int .i64 0] 34 (0, 0)) by rw [hw2, heap_old _ _ _ (blk_lt HBE0.out)]; exact HBE0.out); have HZ2 := Aside0.mk (show w2.heap[wr.heap.size + 1]? = some (.cells #[.bool false, .slice none 0 0, .int .i64 0] 34 (0, 0)) by rw [hw2, heap_old _ _ _ (blk_lt HBZ.out)]; exact HBZ.out); have HBN := Aside0.mk (show Below w.heap.size w w2 by rw [hw2]; exact HBW0.out.alloc HBW0.out.size _); clear hw2; obtain ⟨⟨q0, q1, q2⟩, q3, q4, q5⟩ := E_cells (x := (0, 0)) HZ2.out))
                obtain ⟨w3, hw3⟩ : ∃ w3, w3 = ((w2.setCell ⟨wr.heap.size + 1, 0, none⟩ (.bool true)).setCell ⟨wr.heap.size + 1, 1, none⟩ (.slice none 0 0)).setCell ⟨wr.heap.size + 1, 2, none⟩ (.int .i64 12) := ⟨_, rfl⟩
                rw [← hw3]
                have HZ3 := Aside0.mk (show w3.heap[wr.heap.size + 1]? = some (.cells #[.bool true, .slice none 0 0, .int .i64 12] 34 (0, 0)) by rw [hw3]; exact E_put HZ2.out _ _ _)
                have HE3 := Aside0.mk (show w3.heap[w.heap.size]? = some (.cells #[.bool false, .slice none 0 0, .int .i64 0] 34 (0, 0)) by rw [hw3, Below.heap_setCell _ _ _ _ (Nat.ne_of_lt HGE.out), Below.heap_setCell _ _ _ _ (Nat.ne_of_lt HGE.out), Below.heap_setCell _ _ _ _ (Nat.ne_of_lt HGE.out)]; exact HE2.out)
                have HB3 := Aside0.mk (show Below w.heap.size w w3 by rw [hw3]; exact below_put HBN.out (Nat.le_of_lt HGE.out) _ _ _)
                clear hw3 q0 q1 q2 q3 q4 q5
                obtain ⟨⟨z0, z1, z2⟩, -⟩ := E_cells (x := (0, 0)) HZ3.out
                go_wp2_with (go_at_call 26; refine (refAt_E _ 2 k 12).mono ?_; rintro e w4 ⟨v, rfl, hv, hb⟩; have HV := Aside0.mk hv; obtain ⟨AA, an, ac, acd, rfl⟩ := hv.open_bad rfl; have HB4 := Aside0.mk (below_step HB3.out hb); have HE4 := Aside0.mk ((hb.block _ (blk_lt HE3.out)).trans HE3.out); clear hv hb; obtain ⟨⟨q0, q1, q2⟩, q3, q4, q5⟩ := E_cells (x := (0, 0)) HE4.out)
                clear q0 q1 q2 q3 q4 q5
                (try simp only [Exit.inBlock, Exit.then])
                obtain ⟨⟨x0, x1, x2⟩, _⟩ := E_cells (x := (0, 0)) (E_put HE4.out (.bool true) (.slice AA an ac) (.int .i64 acd))
                exact bodyPost_ret (v := .agg #[.bool true, .slice AA an ac, .int .i64 acd]) (by simp [results, Tryd.results11, go_sem, x0, x1, x2]) rfl ⟨_, rfl, by rw [HN.out, HERR.out]; exact IsE.put HV.out HE4.out _ _ _, below_put HB4.out (Nat.le_refl _) _ _ _⟩
            · have k1 : ¬ (k : Int) < l.length := by omega
              have hh : k = l.length := by omega
              have HH := Lib.hid hh
              have HE9 := Aside0.mk ((HB.out.block _ (blk_lt HBE.out)).trans HBE.out)
              obtain ⟨⟨q0, q1, q2⟩, q3, q4, q5⟩ := E_cells (x := (0, 0)) HE9.out
              clear hlt hh
              go_wp2
              clear q0 q1 q2 q3 q4 q5
              (try simp only [Exit.inBlock, Exit.then])
              obtain ⟨⟨x0, x1, x2⟩, _⟩ := E_cells (x := (0, 0)) (E_put HE9.out (.bool false) (.slice none 0 0) (.int .i64 0))
              exact bodyPost_ret (v := .agg #[.bool false, .slice none 0 0, .int .i64 0]) (by simp [results, Tryd.results11, go_sem, x0, x1, x2]) rfl ⟨_, rfl, by rw [HN.out, ← HH.out, HER.out]; exact rfl, below_put (below_step HBW.out HB.out) (Nat.le_refl _) _ _ _⟩
end Go.Proofs.YthgfodfkjlpegaaDoor
