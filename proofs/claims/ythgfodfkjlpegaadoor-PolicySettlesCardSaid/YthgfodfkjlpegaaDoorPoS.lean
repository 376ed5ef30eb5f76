/- sums, slices.Max, slices.Min. -/
import Derived.Test.YthgfodfkjlpegaaDoorPoW
namespace Go.Proofs.YthgfodfkjlpegaaDoor
open Go.RowKit Go.Proofs.YthgfodfkjlpegaaDoorW.PrintWords Go.Proofs.YthgfodfkjlpegaaDoorW.PrintLast Go.Proofs.YthgfodfkjlpegaaDoorW.PrintMore
set_option linter.unusedVariables false
set_option linter.unusedSimpArgs false
/-- The weight of the loads at a node. -/
def wsum (n : Int) : List Ld → Int
  | [] => 0
  | x :: l => (if x.node = n then x.weight else 0) + wsum n l
theorem wsum_app (n : Int) (l m : List Ld) : wsum n (l ++ m) = wsum n l + wsum n m := by
  induction l with
  | nil => simp [wsum]
  | cons x l ih => simp [wsum, ih]; omega
def sumsOf (nodes : List Int) (l : List Ld) : List Int := nodes.map fun n => wsum n l
theorem sumsOf_len (nodes : List Int) (l : List Ld) : (sumsOf nodes l).length = nodes.length := by simp [sumsOf]
theorem sumsOf_rd (nodes : List Int) (l : List Ld) {j : Nat} (hj : j < nodes.length) : rd (sumsOf nodes l) j = wsum (rd nodes j) l := by
  rw [rd_get _ _ (by rw [sumsOf_len]; exact hj), rd_get _ _ hj]
  simp [sumsOf]
structure LFine (nodes : List Int) (l : List Ld) : Prop where
  at_ : ∀ x ∈ l, x.node ∈ nodes
  w0 : ∀ x ∈ l, 0 ≤ x.weight
  w1 : ∀ x ∈ l, x.weight ≤ 1000000
  len : l.length ≤ 512
theorem wsum_bound {l : List Ld} (n : Int) (h0 : ∀ x ∈ l, 0 ≤ x.weight) (h1 : ∀ x ∈ l, x.weight ≤ 1000000) : 0 ≤ wsum n l ∧ wsum n l ≤ 1000000 * l.length := by
  induction l with
  | nil => simp [wsum]
  | cons x l ih =>
    have a := ih (fun y hy => h0 y (List.mem_cons_of_mem _ hy)) (fun y hy => h1 y (List.mem_cons_of_mem _ hy))
    have b := h0 x List.mem_cons_self
    have c := h1 x List.mem_cons_self
    simp only [wsum, List.length_cons]
    split <;> omega
theorem idx_nodup {xs : List Int} (hn : xs.Nodup) {i : Nat} (hi : i < xs.length) : xs.idxOf xs[i] = i := by
  have h1 := List.idxOf_lt_length_of_mem (List.getElem_mem hi)
  have h2 : xs[xs.idxOf xs[i]] = xs[i] := List.getElem_idxOf h1
  exact (List.getElem_inj hn).1 h2
theorem sums_step {nodes : List Int} (hn : nodes.Nodup) {l : List Ld} {k : Nat} (hk : k < l.length) (hin : (ldAt l k).node ∈ nodes) :
    (sumsOf nodes (l.take k)).set (nodes.idxOf (ldAt l k).node) (wsum (ldAt l k).node (l.take k) + (ldAt l k).weight) = sumsOf nodes (l.take (k + 1)) := by
  apply List.ext_getElem
  · simp [sumsOf]
  · intro i h1 h2
    have hi : i < nodes.length := by simpa [sumsOf] using h2
    have e : wsum nodes[i] (l.take (k + 1)) = wsum nodes[i] (l.take k) + (if (ldAt l k).node = nodes[i] then (ldAt l k).weight else 0) := by
      rw [take_ld l k hk, wsum_app]
      simp [wsum]
    by_cases hc : nodes.idxOf (ldAt l k).node = i
    · subst hc
      have hg : nodes[nodes.idxOf (ldAt l k).node] = (ldAt l k).node := List.getElem_idxOf (List.idxOf_lt_length_of_mem hin)
      rw [List.getElem_set_self]
      simp only [sumsOf, List.getElem_map]
      rw [e, hg, if_pos rfl]
    · rw [List.getElem_set_ne hc]
      simp only [sumsOf, List.getElem_map]
      rw [e, if_neg (fun hx => hc (by
        rw [hx]
        exact idx_nodup hn hi)), Int.add_zero]
set_option maxRecDepth 100000 in
set_option maxHeartbeats 1000000 in
theorem sums_calls (w : World) (A B : Option Addr) (c d : Nat) (nodes : List Int) (l : List Ld) (hr : (Kd.int .i64).C w A nodes.length nodes) (hl : kLd.C w B l.length l) (hn : nodes.Nodup) (hN : nodes.length ≤ 1000) (hF : LFine nodes l) :
    Calls Tryd.prog 23 #[.slice A nodes.length c, .slice B l.length d] w fun e w' => ∃ S, S = sumsOf nodes l ∧ e = .returned (.slice (some ⟨w.heap.size, 0, none⟩) S.length S.length) ∧ (Kd.int .i64).R 3 w' w.heap.size (fun _ => True) (.slice (some ⟨w.heap.size, 0, none⟩) S.length S.length) S ∧ Below w.heap.size w w' := by
  have HR := Lib.hid hr
  have HL := Lib.hid hl
  have HN := Lib.hid hn
  have HF := Lib.hid hF
  have n1 : (nodes.length : Int) ≤ 1000 := by omega
  have l1 : (l.length : Int) ≤ 512 := by have := hF.len; omega
  have hmk := print_make (P := Tryd.prog) 22 3 .i64 8 Tryd.underlying22 info3 (by omega) nodes.length (by omega)
  have HM := Lib.hid (show nodes.length ≤ 1000 from hN)
  clear hr hl hn hF hN
  go_enter Tryd.func23, Tryd.ntmps23
  go_wp2
  go_loopw [13] (fun v13 wr => ∃ k : Nat, v13 = .int .i64 k ∧ k ≤ l.length ∧ Aside0 ((Kd.int .i64).R 3 wr w.heap.size (fun _ => True) (.slice (some ⟨w.heap.size, 0, none⟩) nodes.length nodes.length) (sumsOf nodes (l.take k))) ∧ Aside0 (Below w.heap.size w wr)) (fun v _ => l.length - (intOf v).toNat)
  case atStart =>
    refine ⟨0, rfl, Nat.zero_le _, ⟨?_⟩, ⟨below_alloc (Below.refl _ _) _⟩⟩
    have e : sumsOf nodes (l.take 0) = List.replicate nodes.length 0 := by
      simp only [List.take_zero, sumsOf, wsum]
      exact List.map_const' ..
    rw [e]
    have ho := own_made w w.heap.size 3 .i64 nodes.length (Nat.le_refl _) (by have := HM.out; omega)
    refine Kd.R_of_own (enc := Value.int .i64) ?_ (fun _ _ => trivial)
    rw [List.length_replicate]
    exact ho
  case round =>
    obtain ⟨k, rfl, hk, HS, HB⟩ := hrel
    by_cases hlt : k < l.length
    · obtain ⟨ad, rfl, hc0, hc1, hc2⟩ := Ld_cell (kLd.C_below HL.out HB.out) hlt
      obtain ⟨x, hx⟩ : ∃ x, x = ldAt l k := ⟨_, rfl⟩
      rw [← hx] at hc0 hc1 hc2
      have k0 : (0 : Int) ≤ k := by omega
      have k1 : (k : Int) < l.length := by omega
      have HLT := Lib.hid hlt
      have HX := Lib.hid hx
      have hin : x.node ∈ nodes := by rw [hx]; exact HF.out.at_ _ (ldAt_mem l k hlt)
      have HIN := Lib.hid hin
      obtain ⟨xs, xn, xw⟩ := x
      simp only [] at hc0 hc1 hc2 hin
      obtain ⟨i, hi⟩ : ∃ i, i = nodes.idxOf xn := ⟨_, rfl⟩
      have HI := Lib.hid hi
      have HII := Lib.hid (show idx nodes xn = (i : Int) by unfold idx; rw [if_pos hin, hi])
      have hil : i < nodes.length := by rw [hi]; exact List.idxOf_lt_length_of_mem hin
      have i0 : (0 : Int) ≤ i := by omega
      have i1 : (i : Int) < nodes.length := by omega
      have HIL := Lib.hid hil
      have hb := wsum_bound (l := l.take k) xn (fun y hy => HF.out.w0 y (List.mem_of_mem_take hy)) (fun y hy => HF.out.w1 y (List.mem_of_mem_take hy))
      have hx0 := HF.out.w0 _ (ldAt_mem l k hlt)
      have hx1 := HF.out.w1 _ (ldAt_mem l k hlt)
      rw [← hx] at hx0 hx1
      simp only [] at hx0 hx1
      obtain ⟨s, hs⟩ : ∃ s, s = wsum xn (l.take k) := ⟨_, rfl⟩
      rw [← hs] at hb
      have hlk : ((l.take k).length : Int) ≤ 512 := by have := List.length_take_le k l; omega
      have hs0 : 0 ≤ s := hb.1
      have hs1 : s ≤ 512000000 := by have := hb.2; omega
      have HSS := Lib.hid hs
      clear hlt hx hin hi hil hb hs hlk
      have HWS := Lib.hid (show w.heap.size < wr.heap.size by have := Kd.R_lt HS.out w.heap.size (by simp [Value.ownBlock]); exact this)
      go_upto_region 5 with (fail)
      obtain ⟨w0, hw0⟩ : ∃ w0, w0 = wr.alloc (.cells #[.int .i64 xs, .int .i64 xn, .int .i64 xw] 55) := ⟨_, rfl⟩
      rw [← hw0]
      have HBX := Aside0.mk (show w0.heap[wr.heap.size]? = some (.cells #[.int .i64 xs, .int .i64 xn, .int .i64 xw] 55 (0, 0)) by rw [hw0]; exact heap_alloc_new _ _)
      have HB0 := Aside0.mk (show Below wr.heap.size wr w0 by rw [hw0]; exact below_alloc (Below.refl _ _) _)
      have HS0 := Aside0.mk (Kd.R_below HS.out HB0.out)
      clear hw0 hc0 hc1 hc2
      have b1 : w0.cell? ⟨wr.heap.size, 1, none⟩ = some (.int .i64 xn) := by unfold World.cell?; rw [HBX.out]; rfl
      have b2 : w0.cell? ⟨wr.heap.size, 2, none⟩ = some (.int .i64 xw) := by unfold World.cell?; rw [HBX.out]; rfl
      obtain ⟨g1, g2⟩ := Kd.R_celln (enc := Value.int .i64) 0 HS0.out (i : Int) (by omega) (by omega)
      have e3 : rdOf 0 (sumsOf nodes (l.take k)) (i : Int) = s := by
        have := sumsOf_rd nodes (l.take k) HIL.out
        rw [HSS.out]
        have e4 : rd nodes i = xn := by
          rw [HI.out, rd_get _ _ (List.idxOf_lt_length_of_mem HIN.out)]
          exact List.getElem_idxOf (List.idxOf_lt_length_of_mem HIN.out)
        rw [← e4, ← this]
        rfl
      rw [e3] at g1
      simp only [Int.toNat_natCast] at g1 g2
      have HC0 := Lib.hid (Kd.C_below HR.out (below_step HB.out HB0.out))
      clear e3
      refine wp_region_noPanic ?_
      refine wp_region_held_drew (S := fun W => W.heap[wr.heap.size]? = some (.cells #[.int .i64 xs, .int .i64 xn, .int .i64 xw] 55 (0, 0))) (by kernel_rfl) HBX.out (fun hHeld => ?_)
      have H0 := Aside0.mk (Kd.R_below HS0.out (Below.refl _ _).drew)
      have HB1 := Aside0.mk (below_step HB.out (below_step HB0.out (Below.refl _ _).drew))
      have HC1 := Lib.hid (Kd.C_below HC0.out (Below.refl _ _).drew)
      have g1d : w0.drew.cell? ⟨w.heap.size, i, none⟩ = some (.int .i64 s) := g1
      have g2d : w0.drew.frozen? ⟨w.heap.size, i, none⟩ = false := g2
      obtain ⟨wd, hwd⟩ : ∃ wd, wd = w0.drew := ⟨_, rfl⟩
      rw [← hwd] at H0 HB1 HC1 g1d g2d hHeld ⊢
      clear hwd g1 g2 HC0
      have HC0 := HC1
      clear HC1
      refine wpAnyH_take (i := 0) (v := ?_) rfl (by kernel_rfl) (by kernel_rfl) (by kernel_rfl) (fun _ _ _ h => h) (Or.inl ⟨by rfl, ?_⟩) (by assumption) ?_
      rotate_left 1
      · first | (intro w hSw; go_simp; done) | (intro w hSw; go_simp; with_reducible rfl)
      try simp only [Act.put, List.getElem_toArray, List.getElem_cons_zero, List.getElem_cons_succ, List.setIfInBounds_toArray, List.set_cons_zero, List.set_cons_succ]
      refine wpAnyH_take (i := 1) (v := ?_) rfl (by kernel_rfl) (by kernel_rfl) (by kernel_rfl) (fun _ _ _ h => h) (Or.inl ⟨by rfl, ?_⟩) (by assumption) ?_
      rotate_left 1
      · first | (intro w hSw; go_simp; done) | (intro w hSw; go_simp; with_reducible rfl)
      try simp only [Act.put, List.getElem_toArray, List.getElem_cons_zero, List.getElem_cons_succ, List.setIfInBounds_toArray, List.set_cons_zero, List.set_cons_succ]
      refine wpAnyH_take (i := 2) (v := ?_) rfl (by kernel_rfl) (by kernel_rfl) (by kernel_rfl) (fun _ _ _ h => h) (Or.inl ⟨by rfl, ?_⟩) (by assumption) ?_
      rotate_left 1
      · first | (intro w hSw; go_simp; done) | (intro w hSw; go_simp; with_reducible rfl)
      try simp only [Act.put, List.getElem_toArray, List.getElem_cons_zero, List.getElem_cons_succ, List.setIfInBounds_toArray, List.set_cons_zero, List.set_cons_succ]
      refine wpAnyH_take (i := 3) (v := ?_) rfl (by kernel_rfl) (by kernel_rfl) (by kernel_rfl) (fun _ _ _ h => h) (Or.inl ⟨by rfl, ?_⟩) (by assumption) ?_
      rotate_left 1
      · first | (intro w hSw; have b1 : w.cell? ⟨wr.heap.size, 1, none⟩ = some (.int .i64 xn) := (by unfold World.cell?; rw [hSw]; rfl); go_simp; done) | (intro w hSw; have b1 : w.cell? ⟨wr.heap.size, 1, none⟩ = some (.int .i64 xn) := (by unfold World.cell?; rw [hSw]; rfl); go_simp; with_reducible rfl)
      try simp only [Act.put, List.getElem_toArray, List.getElem_cons_zero, List.getElem_cons_succ, List.setIfInBounds_toArray, List.set_cons_zero, List.set_cons_succ]
      refine wpAnyH_take (i := 7) (v := ?_) rfl (by kernel_rfl) (by kernel_rfl) (by kernel_rfl) (fun _ _ _ h => h) (Or.inl ⟨by rfl, ?_⟩) (by assumption) ?_
      rotate_left 1
      · first | (intro w hSw; go_simp; done) | (intro w hSw; go_simp; with_reducible rfl)
      try simp only [Act.put, List.getElem_toArray, List.getElem_cons_zero, List.getElem_cons_succ, List.setIfInBounds_toArray, List.set_cons_zero, List.set_cons_succ]
      refine wpAnyH_take (i := 8) (v := ?_) rfl (by kernel_rfl) (by kernel_rfl) (by kernel_rfl) (fun _ _ _ h => h) (Or.inl ⟨by rfl, ?_⟩) (by assumption) ?_
      rotate_left 1
      · first | (intro w hSw; have b2 : w.cell? ⟨wr.heap.size, 2, none⟩ = some (.int .i64 xw) := (by unfold World.cell?; rw [hSw]; rfl); go_simp; done) | (intro w hSw; have b2 : w.cell? ⟨wr.heap.size, 2, none⟩ = some (.int .i64 xw) := (by unfold World.cell?; rw [hSw]; rfl); go_simp; with_reducible rfl)
      try simp only [Act.put, List.getElem_toArray, List.getElem_cons_zero, List.getElem_cons_succ, List.setIfInBounds_toArray, List.set_cons_zero, List.set_cons_succ]
      refine wpAnyH_ready (rs := [4]) (by kernel_rfl) (by simp) ?_
      refine AllReadyH.cons rfl (fun K hK => ?_) AllReadyH.nil
      go_simp
      refine (index_calls _ _ _ nodes _ HC0.out).mono ?_; rintro e w1 ⟨rfl, rfl⟩; rw [HII.out]
      go_simp
      refine hK.out _ _ hHeld (fun hHeld => ?_)
      clear hK K
      try simp only [Act.put, List.getElem_toArray, List.getElem_cons_zero, List.getElem_cons_succ, List.setIfInBounds_toArray, List.set_cons_zero, List.set_cons_succ]
      refine wpAnyH_take (i := 5) (v := ?_) rfl (by kernel_rfl) (by kernel_rfl) (by kernel_rfl) (fun _ _ _ h => h) (Or.inl ⟨by rfl, ?_⟩) (by assumption) ?_
      rotate_left 1
      · first | (intro w hSw; go_simp; done) | (intro w hSw; go_simp; with_reducible rfl)
      try simp only [Act.put, List.getElem_toArray, List.getElem_cons_zero, List.getElem_cons_succ, List.setIfInBounds_toArray, List.set_cons_zero, List.set_cons_succ]
      refine wpAnyH_ready (rs := [6]) (by kernel_rfl) (by simp) ?_
      refine AllReadyH.cons rfl (fun K hK => ?_) AllReadyH.nil
      go_simp
      skip
      go_simp
      refine hK.out _ _ hHeld (fun hHeld => ?_)
      clear hK K
      try simp only [Act.put, List.getElem_toArray, List.getElem_cons_zero, List.getElem_cons_succ, List.setIfInBounds_toArray, List.set_cons_zero, List.set_cons_succ]
      refine wpAnyH_take (i := 9) (v := ?_) rfl (by kernel_rfl) (by kernel_rfl) (by kernel_rfl) (fun _ _ _ h => h) (Or.inl ⟨by rfl, ?_⟩) (by assumption) ?_
      rotate_left 1
      · first | (intro w hSw; go_simp; done) | (intro w hSw; go_simp; with_reducible rfl)
      try simp only [Act.put, List.getElem_toArray, List.getElem_cons_zero, List.getElem_cons_succ, List.setIfInBounds_toArray, List.set_cons_zero, List.set_cons_succ]
      refine wpAnyH_take (i := 10) (v := ?_) rfl (by kernel_rfl) (by kernel_rfl) (by kernel_rfl) (fun _ _ _ h => h) (Or.inl ⟨by rfl, ?_⟩) (by assumption) ?_
      rotate_left 1
      · first | (intro w hSw; go_simp; done) | (intro w hSw; go_simp; with_reducible rfl)
      try simp only [Act.put, List.getElem_toArray, List.getElem_cons_zero, List.getElem_cons_succ, List.setIfInBounds_toArray, List.set_cons_zero, List.set_cons_succ]
      refine wpAnyH_ready (rs := [11]) (by kernel_rfl) (by simp) ?_
      refine AllReadyH.cons rfl (fun K hK => ?_) AllReadyH.nil
      go_simp
      skip
      go_simp
      refine hK.out _ _ ((Below.heap_setCell _ _ _ _ (show wr.heap.size ≠ w.heap.size by have := HWS.out; omega)).trans hHeld) (fun hHeld => ?_)
      clear hK K
      try simp only [Act.put, List.getElem_toArray, List.getElem_cons_zero, List.getElem_cons_succ, List.setIfInBounds_toArray, List.set_cons_zero, List.set_cons_succ]
      refine wpAnyH_done (by kernel_rfl) ?_ _
      refine NoPanic.normal ?_
      go_wp2
      go_roundw
      case rel =>
        have hput := Kd.R_putn (enc := Value.int .i64) H0.out (i : Int) (s + xw)
        rw [Int.toNat_natCast] at hput
        have hst := sums_step HN.out HLT.out (by rw [← HX.out]; exact HIN.out)
        rw [← HX.out] at hst
        simp only [] at hst
        rw [← HI.out, ← HSS.out] at hst
        rw [hst] at hput
        exact ⟨k + 1, by go_num, by have := HLT.out; omega, ⟨hput⟩, ⟨below_set HB1.out (Nat.le_refl _)⟩⟩
      case measure => have := HLT.out; simp [intOf]; omega
    · have k1 : ¬ (k : Int) < l.length := by omega
      have hh : l.take k = l := List.take_of_length_le (by omega)
      have HS2 := HS.out
      rw [hh] at HS2
      have HS3 := Aside0.mk HS2
      clear hlt hh HS2
      go_wp2
      go_ret
      exact ⟨by rw [sumsOf_len]; rfl, by rw [sumsOf_len]; exact HS3.out, HB.out⟩
end Go.Proofs.YthgfodfkjlpegaaDoor
