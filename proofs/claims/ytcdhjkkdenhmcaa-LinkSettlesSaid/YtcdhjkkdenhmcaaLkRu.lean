/- link: a list of steps that came in, opened; LinkRuns. -/
import Derived.Test.YtcdhjkkdenhmcaaLkPy
import Derived.Test.YtcdhjkkdenhmcaaLkA
import Derived.Deep.Slices
import Derived.Deep.Fields
import Derived.ChangeSame
namespace Go.Proofs.Ytcdhjkkdenhmcaa
open Go.RowKit Go.Proofs.YtcdhjkkdenhmcaaW.PrintWords Go.Proofs.YtcdhjkkdenhmcaaW.PrintLast Go.Proofs.YtcdhjkkdenhmcaaW.PrintMore
set_option linter.unusedVariables false
set_option linter.unusedSimpArgs false
section
open Go.ChangeShapes Go.WideShapes Go.Deep
variable {H : Type} {enc : TypeId × Value → H} {P : Program} {w : World} {base : Nat} {spare : Nat → Bool} {held : Bool}
theorem open_slice_fields {t e : TypeId} {fs : Array Field} {fuel : Nat} {cs : List Value} {x : DataW H × List MemPlace} (ht : P.underlying t = some (.slice e)) (he : P.underlying e = some (.struct fs))
    (hone : oneCellFields P fs = true) (hC : P.cellsOf e = fs.size) (h : DataW.trod enc P w base spare held fuel t cs = some x) :
    (cs = [.slice none 0 0] ∧ x = (.nil, [])) ∨
    ∃ (a : Addr) (len cap m : Nat) (D : Nat → DataW H) (Pl : Nat → List MemPlace), cs = [.slice (some a) len cap] ∧ base ≤ a.block ∧ len ≤ cap ∧ cap ≤ maxLen ∧ m = (if spare a.block then cap else len) ∧
      x = (.slice ((List.range len).map D) ((List.range (m - len)).map fun j => D (len + j)), MemPlace.row a (m * fs.size) ++ (List.range m).flatMap Pl) ∧
      ∀ i, i < m → ∃ (ys : List (DataW H × List MemPlace)) (n : Nat), D i = .agg (ys.map (·.1)) ∧ Pl i = ys.flatMap (·.2) ∧ ys.length = fs.size ∧
        ∀ (j : Nat) (f : Field), fs[j]? = some f → ∃ (v : Value) (y : DataW H × List MemPlace), w.cell? (a.add (i * fs.size + j)) = some v ∧ ys[j]? = some y ∧ DataW.trod enc P w base spare held n f.type [v] = some y := by
  rcases open_slice ht h with h0 | ⟨a, len, cap, m, n, D, Pl, hcs, hb, hl, hm, hmm, hx, hi⟩
  · exact .inl h0
  · refine .inr ⟨a, len, cap, m, D, Pl, hcs, hb, hl, hm, hmm, by rw [hC] at hx; exact hx, fun i him => ?_⟩
    obtain ⟨cs', hc, ht'⟩ := hi i him
    rw [hC] at hc
    obtain ⟨ys, n', hn', hy, hlen, hyl, hf⟩ := DataW.trod_struct he ht'
    obtain ⟨_, hcl, hat⟩ := World.cells?_some hc
    simp only [Prod.mk.injEq] at hy
    refine ⟨ys, n', hy.1, hy.2, hyl, fun j f hj => ?_⟩
    obtain ⟨ho, hk⟩ := hone_of hone j f hj
    have hjl : j < fs.size := (Array.getElem?_eq_some_iff.1 hj).1
    have hcell := hat j hjl
    have hv : cs'[j]? = some (cs'[j]'(by omega)) := List.getElem?_eq_getElem (by omega)
    have h1 := hf j f hj
    rw [ho, hk] at h1
    have hone' : (cs'.drop j).take 1 = [cs'[j]'(by omega)] := by
      rw [List.drop_eq_getElem_cons (by omega)]
      rfl
    rw [hone'] at h1
    have hys : ys[j]? = some (ys[j]'(by omega)) := List.getElem?_eq_getElem (by omega)
    refine ⟨_, _, ?_, hys, h1.trans hys⟩
    rw [← Go.Deep.add_add, hcell, hv]
end
theorem heapB : Kd.Heap kB := Kd.heap_scalar
theorem heapOp : Kd.Heap kOp := Kd.heap_pair Kd.heap_scalar (Kd.heap_pair Kd.heap_scalar (Kd.heap_pair Kd.heap_scalar (Kd.heap_pair Kd.heap_scalar (Kd.heap_slice _ heapB))))
section
open Go.ChangeShapes Go.WideShapes Go.Deep
instance : Inhabited OpM := ⟨(0, 0, 0, 0, [])⟩
set_option maxRecDepth 100000 in
theorem open_ops {H : Type} {enc : TypeId × Value → H} {W : World} {fuel : Nat} {a : Option Addr} {len cap : Nat} {x : DataW H × List MemPlace}
    (h : DataW.trod enc Try.prog W 0 (fun _ => true) true fuel 39 [.slice a len cap] = some x) : ∃ l : List OpM, l.length = len ∧ l.length ≤ cap ∧ kOp.C W a l.length l := by
  rcases open_slice_fields Try.underlying39 Try.underlying59 (by kernel_rfl) (by kernel_rfl) h with ⟨hcs, _⟩ | ⟨ad, l, c, m, D, Pl, hcs, _, hl, hm, hmm, _, hall⟩
  · simp at hcs
    obtain ⟨rfl, rfl, rfl⟩ := hcs
    exact ⟨[], rfl, Nat.zero_le _, ⟨rfl, Nat.zero_le _, fun h => absurd h (Nat.lt_irrefl 0)⟩⟩
  · simp at hcs
    obtain ⟨rfl, rfl, rfl⟩ := hcs
    simp only [if_true] at hmm
    have each : ∀ i, i < len → ∃ o : OpM, ∃ cs, kOp.K W o cs ∧ cs.length = 5 ∧ ∀ j u, cs[j]? = some u → W.cell? (ad.add (i * 5 + j)) = some u := by
      intro i hi
      obtain ⟨ys, n, _, _, _, hf⟩ := hall i (by omega)
      obtain ⟨v0, y0, c0, _, t0⟩ := hf 0 _ rfl
      obtain ⟨v1, y1, c1, _, t1⟩ := hf 1 _ rfl
      obtain ⟨v2, y2, c2, _, t2⟩ := hf 2 _ rfl
      obtain ⟨v3, y3, c3, _, t3⟩ := hf 3 _ rfl
      obtain ⟨v4, y4, c4, _, t4⟩ := hf 4 _ rfl
      obtain ⟨x0, e0, _, _⟩ := DataW.trod_int Try.underlying3 t0
      obtain ⟨x1, e1, _, _⟩ := DataW.trod_int Try.underlying3 t1
      obtain ⟨x2, e2, _, _⟩ := DataW.trod_int Try.underlying3 t2
      obtain ⟨x3, e3, _, _⟩ := DataW.trod_int Try.underlying3 t3
      simp only [List.cons.injEq, and_true] at e0 e1 e2 e3
      subst e0 e1 e2 e3
      obtain ⟨B, p, d, e4, hd, hC⟩ : ∃ (B : Option Addr) (p : List UInt8) (d : Nat), v4 = .slice B p.length d ∧ p.length ≤ d ∧ kB.C W B p.length p := by
        rcases open_ints Try.underlying29 Try.underlying5 (by kernel_rfl) t4 with ⟨hcs, _⟩ | ⟨y, l', c', zs, hcs, _, hl', hm', hz, _, hcell, hwz⟩
        · simp only [List.cons.injEq, and_true] at hcs
          exact ⟨none, [], 0, hcs, Nat.le_refl _, ⟨rfl, Nat.zero_le _, fun h => absurd h (Nat.lt_irrefl 0)⟩⟩
        · simp only [List.cons.injEq, and_true] at hcs
          obtain ⟨p, e, g1, g2, g3⟩ := B_row (w := W) (a := some y) (len := l') (cap := c') (zs := zs) (.inr ⟨y, rfl, hl', hm', by simpa using hz, hcell, hwz⟩)
          subst e
          exact ⟨some y, p, c', hcs, g2, g1⟩
      subst e4
      refine ⟨(x0, x1, x2, x3, p), [.int .i64 x0, .int .i64 x1, .int .i64 x2, .int .i64 x3, .slice B p.length d], ⟨[.int .i64 x0], _, rfl, rfl, [.int .i64 x1], _, rfl, rfl, [.int .i64 x2], _, rfl, rfl, [.int .i64 x3], _, rfl, rfl, B, d, rfl, hd, hC⟩, rfl, fun j u hu => ?_⟩
      match j, hu with
      | 0, hu => cases hu; exact c0
      | 1, hu => cases hu; exact c1
      | 2, hu => cases hu; exact c2
      | 3, hu => cases hu; exact c3
      | 4, hu => cases hu; exact c4
      | j + 5, hu => simp at hu
    obtain ⟨f, hf⟩ := choose_lt each
    have hmx : maxLen = 9223372036854775807 := rfl
    have hll : ((List.range len).map f).length = len := by simp
    refine ⟨(List.range len).map f, hll, by omega, ?_⟩
    rw [hll]
    refine ⟨hll, by omega, fun hn => ⟨ad, rfl, fun j p hj => ?_⟩⟩
    rw [List.getElem?_map] at hj
    have hjl : j < len := by
      rcases Nat.lt_or_ge j len with h' | h'
      · exact h'
      · rw [List.getElem?_eq_none (by simpa using h')] at hj
        cases hj
    rw [List.getElem?_range hjl] at hj
    simp only [Option.map_some, Option.some.injEq] at hj
    subst hj
    obtain ⟨cs, hk, hl5, hc⟩ := hf j hjl
    exact ⟨cs, hl5, hk, fun i u hu => hc i u hu⟩
end
set_option maxRecDepth 100000 in
set_option maxHeartbeats 2000000 in
theorem runs_walk (w : World) (A : Option Addr) (c : Nat) (ops : List OpM) (wi : Int) (hx : kOp.C w A ops.length ops) :
    Calls Try.prog 4 #[.int .i64 wi, .slice A ops.length c] w fun e w' => e = .returned (.bool true) ∧ Below w.heap.size w w' := by
  have HX := Aside0.mk (Kd.C_F heapOp hx)
  clear hx
  go_enter Try.func4, Try.ntmps4
  go_upto_region 3 with (go_at_call 6; refine (awake_calls w).mono ?_; rintro e w1 ⟨rfl, hb⟩; have HB1 := Aside0.mk hb; clear hb)
  have HFW := Lib.hid (few_calls w1 wi A c ops (Kd.F_mono (Kd.F_step HX.out (fun k hk _ => HB1.out.block k hk)) (fun k hk => Nat.lt_of_lt_of_le hk HB1.out.size)))
  go_upto_if 13 with (go_at_call 14; refine HFW.out.mono ?_; rintro e w2 ⟨b, rfl, hbt, hb⟩; have HBT := Lib.hid hbt; have HB2 := Aside0.mk (HB1.out.trans (hb.mono HB1.out.size)); clear hbt hb)
  cases b with
  | false =>
    go_wp2
    go_ret
    exact ⟨rfl, HB2.out⟩
  | true =>
    obtain ⟨W, hW⟩ : ∃ W : Nat, wi = (W : Int) := ⟨wi.toNat, by have := (HBT.out rfl).2.2.1; omega⟩
    subst hW
    go_wp2_with (go_at_call 15; refine (play_calls w2 W A c ops (Kd.F_mono (Kd.F_step HX.out (fun k hk _ => HB2.out.block k hk)) (fun k hk => Nat.lt_of_lt_of_le hk HB2.out.size)) (by have := (HBT.out rfl).2.2.1; omega) (by have := (HBT.out rfl).2.2.2; omega) (HBT.out rfl).2.1 (HBT.out rfl).1).mono ?_; rintro e w3 ⟨lo, x, y, Ka, Kb, F, pa, pb, Au, Ao, Ai, Av, Aq, Aj, cu, co, ci, cv, cq, cj, rfl, _, _, hb⟩; have HB3 := Aside0.mk (HB2.out.trans (hb.mono HB2.out.size)); clear hb)
    go_ret
    exact ⟨rfl, below_alloc (below_alloc HB3.out _) _⟩
end Go.Proofs.Ytcdhjkkdenhmcaa
