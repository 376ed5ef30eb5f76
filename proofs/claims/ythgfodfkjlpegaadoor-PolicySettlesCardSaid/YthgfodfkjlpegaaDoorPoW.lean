/- Loads: how lists of them lie in memory; slices.Index, Max, Min; cmp. -/
import Derived.Test.YthgfodfkjlpegaaDoorContains
import Derived.Deep.DeepCutAuto
import Derived.StillTailTactics
import Derived.Deep.RegionHeld3
namespace Go.Proofs.YthgfodfkjlpegaaDoor
open Go.RowKit Go.Proofs.YthgfodfkjlpegaaDoorW.PrintWords Go.Proofs.YthgfodfkjlpegaaDoorW.PrintLast Go.Proofs.YthgfodfkjlpegaaDoorW.PrintMore
set_option linter.unusedVariables false
set_option linter.unusedSimpArgs false
structure Ld where
  sub : Int
  node : Int
  weight : Int
def zLd : Ld := ⟨0, 0, 0⟩
def kLd : Kd Ld := Kd.iso (Kd.pair (Kd.int .i64) (Kd.pair (Kd.int .i64) (Kd.int .i64))) (fun x : Ld => (x.sub, x.node, x.weight))
def ldAt (l : List Ld) (k : Nat) : Ld := l.getD k zLd
theorem kLd_open {w : World} {x : Ld} {cs : List Value} (h : kLd.K w x cs) : cs = [.int .i64 x.sub, .int .i64 x.node, .int .i64 x.weight] := by
  obtain ⟨_, _, rfl, rfl, ⟨_, _, rfl, rfl, rfl⟩⟩ := h
  exact rfl
theorem kLd_mk (w : World) (x : Ld) : kLd.K w x [.int .i64 x.sub, .int .i64 x.node, .int .i64 x.weight] := ⟨[.int .i64 x.sub], [.int .i64 x.node, .int .i64 x.weight], rfl, rfl, ⟨[.int .i64 x.node], [.int .i64 x.weight], rfl, rfl, rfl⟩⟩
theorem kLd_mkM (w : World) (base : Nat) (ok : Nat → Prop) (x : Ld) : kLd.M w base ok x [.int .i64 x.sub, .int .i64 x.node, .int .i64 x.weight] := ⟨[.int .i64 x.sub], [.int .i64 x.node, .int .i64 x.weight], rfl, rfl, ⟨[.int .i64 x.node], [.int .i64 x.weight], rfl, rfl, rfl⟩⟩
theorem infoL : (Tryd.prog.info? 55).map (fun i => (i.zero, i.size, i.bytes)) = some (some (.agg #[.int .i64 0, .int .i64 0, .int .i64 0]), 3, 24) := by kernel_rfl
theorem add_next (ad : Addr) (m j : Nat) (hj : 0 < j) : ad.add (m + j) = ⟨(ad.add m).block, (ad.add m).off + j, none⟩ := by
  unfold Addr.add
  by_cases hm : m = 0
  · simp [hm, show j ≠ 0 by omega]
  · simp [hm, show m + j ≠ 0 by omega]; omega
/-- The three cells of a load. -/
theorem Ld_cell {w : World} {A : Option Addr} {l : List Ld} (h : kLd.C w A l.length l) {k : Nat} (hk : k < l.length) :
    ∃ ad, A = some ad ∧ w.cell? (ad.add (k * 3)) = some (.int .i64 (ldAt l k).sub) ∧ w.cell? ⟨(ad.add (k * 3)).block, (ad.add (k * 3)).off + 1, none⟩ = some (.int .i64 (ldAt l k).node) ∧ w.cell? ⟨(ad.add (k * 3)).block, (ad.add (k * 3)).off + 2, none⟩ = some (.int .i64 (ldAt l k).weight) := by
  obtain ⟨ad, c, e, _, hK, hc0⟩ := Kd.C_get h zLd (k : Int) (by omega) (by omega)
  have hc : ∀ j u, c[j]? = some u → w.cell? (ad.add (k * 3 + j)) = some u := fun j u hj => by have := hc0 j u hj; rw [Int.toNat_natCast] at this; exact this
  obtain rfl := kLd_open hK
  have e2 : (l.getD ((k : Int).toNat) zLd) = ldAt l k := by rw [Int.toNat_natCast]; rfl
  rw [e2] at hc
  exact ⟨ad, e, hc 0 _ rfl, by rw [← add_next _ _ 1 (by omega)]; exact hc 1 _ rfl, by rw [← add_next _ _ 2 (by omega)]; exact hc 2 _ rfl⟩
theorem ldAt_get (l : List Ld) (k : Nat) (h : k < l.length) : ldAt l k = l[k] := by
  simp [ldAt, List.getD_eq_getElem?_getD, List.getElem?_eq_getElem h]
theorem ldAt_mem (l : List Ld) (k : Nat) (h : k < l.length) : ldAt l k ∈ l := by rw [ldAt_get l k h]; exact List.getElem_mem h
theorem take_ld (l : List Ld) (k : Nat) (h : k < l.length) : l.take (k + 1) = l.take k ++ [ldAt l k] := by
  rw [List.take_succ_eq_append_getElem h, ldAt_get l k h]
set_option maxRecDepth 100000 in
theorem isNaN_calls (w : World) (x : Int) : Calls Tryd.prog 38 #[.int .i64 x] w fun e w' => e = .returned (.bool false) ∧ w = w' := by
  have hb : (x != x) = false := by simp
  go_enter Tryd.func38, Tryd.ntmps38
  go_wp2
  go_ret
  exact ⟨rfl, rfl⟩
def cmpI (x y : Int) : Int := if x < y then -1 else if y < x then 1 else 0
set_option maxRecDepth 100000 in
theorem compare_calls (w : World) (x y : Int) : Calls Tryd.prog 35 #[.int .i64 x, .int .i64 y] w fun e w' => e = .returned (.int .i64 (cmpI x y)) ∧ w = w' := by
  unfold cmpI
  by_cases h1 : x < y
  · rw [if_pos h1]
    go_enter Tryd.func35, Tryd.ntmps35
    go_wp2_with (go_at_call 38; refine (isNaN_calls _ _).mono ?_; rintro e w1 ⟨rfl, rfl⟩)
    go_ret
    exact ⟨rfl, rfl⟩
  · rw [if_neg h1]
    by_cases h2 : y < x
    · rw [if_pos h2]
      go_enter Tryd.func35, Tryd.ntmps35
      go_wp2_with (go_at_call 38; refine (isNaN_calls _ _).mono ?_; rintro e w1 ⟨rfl, rfl⟩)
      go_ret
      exact ⟨rfl, rfl⟩
    · rw [if_neg h2]
      go_enter Tryd.func35, Tryd.ntmps35
      go_wp2_with (go_at_call 38; refine (isNaN_calls _ _).mono ?_; rintro e w1 ⟨rfl, rfl⟩)
      go_ret
      exact ⟨rfl, rfl⟩
set_option maxRecDepth 100000 in
/-- cmp.Or of two. -/
theorem or_calls (w : World) (A : Option Addr) (c : Nat) (x y : Int) (hr : (Kd.int .i64).C w A 2 [x, y]) :
    Calls Tryd.prog 34 #[.slice A 2 c] w fun e w' => e = .returned (.int .i64 (if x = 0 then y else x)) ∧ w = w' := by
  obtain ⟨ad, rfl, h0⟩ := C_cell (xs := [x, y]) hr (k := 0) (by simp)
  obtain ⟨_, e, h1⟩ := C_cell (xs := [x, y]) hr (k := 1) (by simp)
  cases e
  have h0' : w.cell? ad = some (.int .i64 x) := by simpa [rd, Addr.add] using h0
  have h1' : w.cell? ⟨ad.block, ad.off + 1, none⟩ = some (.int .i64 y) := by simpa [rd, Addr.add] using h1
  clear hr h0 h1
  by_cases hx : x = 0
  · rw [if_pos hx]
    have hb : (x != 0) = false := by simp [hx]
    by_cases hy : y = 0
    · have hb2 : (y != 0) = false := by simp [hy]
      have HY := Lib.hid hy
      clear hx hy
      go_enter Tryd.func34, Tryd.ntmps34
      go_wp2
      refine wp_loop_rounds 3 ?_
      rw [rounds_succ]
      go_wp2
      rw [rounds_succ]
      go_wp2
      rw [rounds_succ]
      go_wp2
      go_ret
      rw [HY.out]
      exact ⟨rfl, rfl⟩
    · have hb2 : (y != 0) = true := by simpa using hy
      clear hx hy
      go_enter Tryd.func34, Tryd.ntmps34
      go_wp2
      refine wp_loop_rounds 2 ?_
      rw [rounds_succ]
      go_wp2
      rw [rounds_succ]
      go_wp2
      go_ret
      exact ⟨rfl, rfl⟩
  · rw [if_neg hx]
    have hb : (x != 0) = true := by simpa using hx
    clear hx
    go_enter Tryd.func34, Tryd.ntmps34
    go_wp2
    refine wp_loop_rounds 1 ?_
    rw [rounds_succ]
    go_wp2
    go_ret
    exact ⟨rfl, rfl⟩
end Go.Proofs.YthgfodfkjlpegaaDoor
