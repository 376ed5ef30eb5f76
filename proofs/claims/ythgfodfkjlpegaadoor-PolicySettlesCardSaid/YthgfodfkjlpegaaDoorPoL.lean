/- The laws' own functions: list, squares, awake. -/
import Derived.Test.YthgfodfkjlpegaaDoorPoY
import Derived.Test.YthgfodfkjlpegaaDoorInts
import Derived.Test.YthgfodfkjlpegaaDoorPoR
namespace Go.Proofs.YthgfodfkjlpegaaDoor
open Go.RowKit Go.Proofs.YthgfodfkjlpegaaDoorW.PrintWords Go.Proofs.YthgfodfkjlpegaaDoorW.PrintLast Go.Proofs.YthgfodfkjlpegaaDoorW.PrintMore
set_option linter.unusedVariables false
set_option linter.unusedSimpArgs false
set_option maxRecDepth 100000 in
theorem list_calls (w : World) (B : Option Addr) (d : Nat) (l : List Ld) (hl : kLd.C w B l.length l) (hlen : l.length ≤ 1000) :
    Calls Tryd.prog 7 #[.slice B l.length d] w fun e w' => ∃ v, e = .returned v ∧ kLd.R 55 w' w.heap.size (fun _ => True) v l ∧ Below w.heap.size w w' := by
  have HL := Lib.hid hl
  have HLEN := Lib.hid hlen
  have hm2 : (l.length : Int) ≤ 1000 := by omega
  clear hl hlen
  go_enter Tryd.func7, Tryd.ntmps7
  go_wp2
  go_loopw [3, 8] (fun v3 v8 wr => ∃ k : Nat, v8 = .int .i64 k ∧ k ≤ l.length ∧ Aside0 (kLd.R 55 wr w.heap.size (fun _ => True) v3 (l.take k)) ∧ Aside0 (Below w.heap.size w wr)) (fun _ v _ => l.length - (intOf v).toNat)
  case atStart => exact ⟨0, rfl, Nat.zero_le _, ⟨by rw [List.take_zero]; exact Kd.R_nil _ _ _ _ _⟩, ⟨Below.refl _ _⟩⟩
  case round =>
    obtain ⟨k, rfl, hk, HK, HB⟩ := hrel
    by_cases hlt : k < l.length
    · obtain ⟨ad, rfl, hc0, hc1, hc2⟩ := Ld_cell (kLd.C_below HL.out HB.out) hlt
      obtain ⟨x, hx⟩ : ∃ x, x = ldAt l k := ⟨_, rfl⟩
      rw [← hx] at hc0 hc1 hc2
      have k0 : (0 : Int) ≤ k := by omega
      have k1 : (k : Int) < l.length := by omega
      have HLT := Lib.hid hlt
      have HX := Lib.hid hx
      have HTL := Lib.hid (show (l.take k).length ≤ 1000 by have := List.length_take_le k l; omega)
      obtain ⟨xs, xn, xw⟩ := x
      simp only [] at hc0 hc1 hc2
      clear hlt hx
      go_wp2_with (at_builtin; refine Kd.R_append kLd (w0 := w) (W := wr.alloc (.cells #[.int .i64 xs, .int .i64 xn, .int .i64 xw] 51)) w.heap.size rfl _ _ 29 55 (.agg #[.int .i64 0, .int .i64 0, .int .i64 0]) 24 rfl Tryd.underlying29 infoL rfl (by decide) (by omega) _ (l.take k) ⟨xs, xn, xw⟩ [.int .i64 xs, .int .i64 xn, .int .i64 xw] (fun _ => True) (fun _ => False) rfl (by rw [show ∀ o, (wr.alloc o).heap.size = wr.heap.size + 1 from fun o => Array.size_push _]; rfl) (kLd_mkM _ _ _ ⟨xs, xn, xw⟩) (fun _ hk => hk.elim) (fun _ _ => trivial) (Kd.R_alloc HK.out _) (below_alloc HB.out _) (by have := HB.out.size; simp; omega) (by have := HTL.out; omega) ?_; intro v1 w1 ho hb hg hat; have HO := Aside0.mk ho; have HB1 := Aside0.mk hb; clear ho hb hg hat)
      go_roundw
      case rel => exact ⟨k + 1, by go_num, by have := HLT.out; omega, ⟨by rw [take_ld l k HLT.out, ← HX.out]; exact HO.out⟩, HB1⟩
      case measure => have := HLT.out; simp [intOf]; omega
    · have k1 : ¬ (k : Int) < l.length := by omega
      have HH := Lib.hid (show l.take k = l from List.take_of_length_le (by omega))
      clear hlt
      go_wp2
      go_ret
      exact ⟨_, rfl, by rw [← HH.out]; exact HK.out, HB.out⟩
def exL : List Ld := [⟨1, 0, 5⟩, ⟨2, 0, 3⟩, ⟨3, 1, 1⟩]
theorem exL_C (w : World) (t : TypeId) : kLd.C (w.alloc (.cells #[.int .i64 1, .int .i64 0, .int .i64 5, .int .i64 2, .int .i64 0, .int .i64 3, .int .i64 3, .int .i64 1, .int .i64 1] t)) (some ⟨w.heap.size, 0, none⟩) 3 exL := by
  have hrep : Reps (kLd.M (w.alloc (.cells #[.int .i64 1, .int .i64 0, .int .i64 5, .int .i64 2, .int .i64 0, .int .i64 3, .int .i64 3, .int .i64 1, .int .i64 1] t)) w.heap.size (fun k => True ∧ some k ≠ some w.heap.size)) 3 exL [.int .i64 1, .int .i64 0, .int .i64 5, .int .i64 2, .int .i64 0, .int .i64 3, .int .i64 3, .int .i64 1, .int .i64 1] :=
    (((Reps.none _ 3).snoc (kLd_mkM _ _ _ ⟨1, 0, 5⟩) rfl).snoc (kLd_mkM _ _ _ ⟨2, 0, 3⟩) rfl).snoc (kLd_mkM _ _ _ ⟨3, 1, 1⟩) rfl
  have hown := World.ownsRow_lit (base := w.heap.size) (e := t) (size := 3) w #[.int .i64 1, .int .i64 0, .int .i64 5, .int .i64 2, .int .i64 0, .int .i64 3, .int .i64 3, .int .i64 1, .int .i64 1] 3 (Nat.le_refl _) (by decide) (by decide)
  have hR : kLd.R t (w.alloc (.cells #[.int .i64 1, .int .i64 0, .int .i64 5, .int .i64 2, .int .i64 0, .int .i64 3, .int .i64 3, .int .i64 1, .int .i64 1] t)) w.heap.size (fun _ => True) (.slice (some ⟨w.heap.size, 0, none⟩) 3 3) exL := ⟨fun _ _ => trivial, _, hown, hrep⟩
  exact (Kd.R_reads' hR).2.2
theorem ex_choose : chooseOf [0, 1] exL = (2, 1, .ok) := by kernel_rfl
theorem ex_chk : chk [0, 1] exL = .ok := by kernel_rfl
theorem ex_sums : sumsOf [0, 1] exL = [8, 1] := by kernel_rfl
theorem ex_wf : ∀ x ∈ exL, (Lit.int .i64 x.sub).wf = true := by decide
set_option maxRecDepth 100000 in
theorem awake_calls (w : World) :
    Calls Tryd.prog 5 #[] w fun e w' => e = .returned (.bool true) ∧ Below w.heap.size w w' := by
  go_enter Tryd.func5, Tryd.ntmps5
  go_wp2_with (first
    | (go_at_call 7; refine (list_calls _ _ _ exL (exL_C _ _) (by decide)).mono ?_; rintro e w1 ⟨v, rfl, hR, hb⟩; obtain ⟨A1, c1, rfl⟩ := Kd.R_slice hR; have HL1 := Lib.hid (Kd.R_reads' hR).2.2; have HB1 := Aside0.mk (below_first hb); clear hR hb)
    | (go_at_call 6; refine (choose_calls _ _ _ _ _ [0, 1] exL (lit_at _ _ [0, 1] (by simp) (by simp) rfl rfl) (kLd.C_below HL1.out (below_alloc (Below.refl _ _) _)) ex_wf (by decide)).mono ?_; rintro e w2 ⟨v, rfl, hv, hb⟩; rw [ex_choose] at hv ⊢; obtain rfl := hv; have HC2 := Aside0.mk (below_first hb); have HB2 := Aside0.mk (below_step HB1.out (below_first hb)); clear hb)
    | (go_at_call 10; refine (sums2_calls _ _ _ _ _ [0, 1] exL (lit_at _ _ [0, 1] (by simp) (by simp) rfl rfl) (kLd.C_below (kLd.C_below HL1.out HC2.out) (below_alloc (Below.refl _ _) _)) ex_wf (by decide)).mono ?_; rintro e w3 ⟨u, v, rfl, hv, hR, -, hb⟩; rw [ex_chk] at hv; obtain rfl := hv; have hR2 := hR ex_chk; rw [ex_sums] at hR2; obtain ⟨A3, c3, rfl⟩ := Kd.R_slice hR2; have HL3 := Lib.hid (Kd.R_reads' hR2).2.2; have HB3 := Aside0.mk (below_step HB2.out (below_first hb)); clear hb hR hR2)
    | (go_at_call 12; refine (ints_calls _ _ _ [8, 1] _ _ [8, 1] (Kd.C_below HL3.out (below_alloc (Below.refl _ _) _)) (lit_at _ _ [8, 1] (by simp) (by simp) rfl rfl)).mono ?_; rintro e w4 ⟨rfl, hb⟩; rw [show decide (([8, 1] : List Int) = [8, 1]) = true by decide]; have HB4 := Aside0.mk (below_step HB3.out (below_first hb.below)); clear hb))
  go_ret
  exact ⟨rfl, HB4.out⟩
end Go.Proofs.YthgfodfkjlpegaaDoor
