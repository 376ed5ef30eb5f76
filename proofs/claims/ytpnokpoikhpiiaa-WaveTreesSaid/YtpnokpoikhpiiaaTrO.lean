/- A graph and a list of numbers that came in, opened. -/
import Derived.Test.YtpnokpoikhpiiaaTrG
import Derived.Deep.Slices
import Derived.Deep.Fields
import Derived.ChangeSame
namespace Go.Proofs.Ytpnokpoikhpiiaa
open Go.RowKit Go.Proofs.YtpnokpoikhpiiaaW.PrintWords Go.Proofs.YtpnokpoikhpiiaaW.PrintLast Go.Proofs.YtpnokpoikhpiiaaW.PrintMore
set_option linter.unusedVariables false
set_option linter.unusedSimpArgs false
section
open Go.ChangeShapes Go.WideShapes Go.Deep
variable {H : Type} {enc : TypeId × Value → H} {P : Program} {w : World} {base : Nat} {spare : Nat → Bool} {held : Bool}
theorem open_slice_fields {t e : TypeId} {fs : Array Field} {fuel : Nat} {cs : List Value} {x : DataW H × List MemPlace} (ht : P.underlying t = some (.slice e)) (he : P.underlying e = some (.struct fs))
    (hone : oneCellFields P fs = true) (hC : P.cellsOf e = fs.size) (h : DataW.trod enc P w base spare held fuel t cs = some x) :
    (cs = [.slice none 0 0] ∧ x = (.nil, [])) ∨
    ∃ (a : Addr) (len cap m : Nat) (D : Nat → DataW H) (Pl : Nat → List MemPlace), cs = [.slice (some a) len cap] ∧ base ≤ a.block ∧ len ≤ cap ∧ cap ≤ maxLen ∧ m = (if spare a.block then cap else len) ∧
      x = (.slice ((List.range len).map D) ((List.range (m - len)).map fun j => D (len + j)), MemPlace.row a (m * fs.size) ++ (List.range m).flatMap Pl) ∧
      ∀ i, i < m → ∃ (ys : List (DataW H × List MemPlace)) (n : Nat), D i = .agg (ys.map (·.1)) ∧ Pl i = ys.flatMap (·.2) ∧ ys.length = fs.size ∧
        ∀ (j : Nat) (f : Field), fs[j]? = some f → ∃ (v : Value) (y : DataW H × List MemPlace), w.cell? (a.add (i * fs.size + j)) = some v ∧ ys[j]? = some y ∧ DataW.trod enc P w base spare held n f.type [v] = some y := by
  rcases open_slice ht h with h0 | ⟨a, len, cap, m, n, D, Pl, hcs, hb, hl, hm, hmm, hx, hi⟩
  · exact .inl h0
  · refine .inr ⟨a, len, cap, m, D, Pl, hcs, hb, hl, hm, hmm, by rw [hC] at hx; exact hx, fun i him => ?_⟩
    obtain ⟨cs', hc, ht'⟩ := hi i him
    rw [hC] at hc
    obtain ⟨ys, n', hn', hy, hlen, hyl, hf⟩ := DataW.trod_struct he ht'
    obtain ⟨_, hcl, hat⟩ := World.cells?_some hc
    simp only [Prod.mk.injEq] at hy
    refine ⟨ys, n', hy.1, hy.2, hyl, fun j f hj => ?_⟩
    obtain ⟨ho, hk⟩ := hone_of hone j f hj
    have hjl : j < fs.size := (Array.getElem?_eq_some_iff.1 hj).1
    have hcell := hat j hjl
    have hv : cs'[j]? = some (cs'[j]'(by omega)) := List.getElem?_eq_getElem (by omega)
    have h1 := hf j f hj
    rw [ho, hk] at h1
    have hone' : (cs'.drop j).take 1 = [cs'[j]'(by omega)] := by
      rw [List.drop_eq_getElem_cons (by omega)]
      rfl
    rw [hone'] at h1
    have hys : ys[j]? = some (ys[j]'(by omega)) := List.getElem?_eq_getElem (by omega)
    refine ⟨_, _, ?_, hys, h1.trans hys⟩
    rw [← Go.Deep.add_add, hcell, hv]
end
section
open Go.ChangeShapes Go.WideShapes Go.Deep
set_option maxRecDepth 100000 in
theorem open_lks {H : Type} {enc : TypeId × Value → H} {W : World} {fuel : Nat} {cs : List Value} {x : DataW H × List MemPlace}
    (h : DataW.trod enc Try.prog W 0 (fun _ => true) true fuel 23 cs = some x) : ∃ (a : Option Addr) (cap : Nat) (l : List (Int × Int)), cs = [.slice a l.length cap] ∧ kLk.C W a l.length l := by
  rcases open_slice_fields Try.underlying23 Try.underlying53 (by kernel_rfl) (by kernel_rfl) h with ⟨hcs, _⟩ | ⟨ad, len, c, m, D, Pl, hcs, _, hl, hm, hmm, _, hall⟩
  · exact ⟨none, 0, [], hcs, rfl, Nat.zero_le _, fun h => absurd h (Nat.lt_irrefl 0)⟩
  · simp only [if_true] at hmm
    have each : ∀ i, i < len → ∃ o : Int × Int, W.cell? (ad.add (i * 2 + 0)) = some (.int .i64 o.1) ∧ W.cell? (ad.add (i * 2 + 1)) = some (.int .i64 o.2) := by
      intro i hi
      obtain ⟨ys, n, _, _, _, hf⟩ := hall i (by omega)
      obtain ⟨v0, y0, c0, _, t0⟩ := hf 0 _ rfl
      obtain ⟨v1, y1, c1, _, t1⟩ := hf 1 _ rfl
      obtain ⟨x0, e0, _, _⟩ := DataW.trod_int Try.underlying3 t0
      obtain ⟨x1, e1, _, _⟩ := DataW.trod_int Try.underlying3 t1
      simp only [List.cons.injEq, and_true] at e0 e1
      subst e0 e1
      exact ⟨⟨x0, x1⟩, c0, c1⟩
    obtain ⟨f, hf⟩ := choose_lt each
    have hmx : maxLen = 9223372036854775807 := rfl
    have hll : ((List.range len).map f).length = len := by simp
    refine ⟨some ad, c, (List.range len).map f, by rw [hll]; exact hcs, ?_⟩
    rw [hll]
    refine ⟨hll, by omega, fun hn => ⟨ad, rfl, fun j p hj => ?_⟩⟩
    rw [List.getElem?_map] at hj
    have hjl : j < len := by
      rcases Nat.lt_or_ge j len with h' | h'
      · exact h'
      · rw [List.getElem?_eq_none (by simpa using h')] at hj
        cases hj
    rw [List.getElem?_range hjl] at hj
    simp only [Option.map_some, Option.some.injEq] at hj
    subst hj
    obtain ⟨b0, b1⟩ := hf j hjl
    refine ⟨_, rfl, kLk_mk _ _, fun i u hu => ?_⟩
    match i, hu with
    | 0, hu => cases hu; exact b0
    | 1, hu => cases hu; exact b1
    | i + 2, hu => simp at hu
set_option maxRecDepth 100000 in
theorem open_nums {H : Type} {enc : TypeId × Value → H} {W : World} {fuel : Nat} {cs : List Value} {x : DataW H × List MemPlace}
    (h : DataW.trod enc Try.prog W 0 (fun _ => true) true fuel 22 cs = some x) : ∃ (a : Option Addr) (cap : Nat) (l : List Int), cs = [.slice a l.length cap] ∧ (Kd.int .i64).C W a l.length l := by
  rcases open_ints Try.underlying22 Try.underlying3 (by kernel_rfl) h with ⟨hcs, _⟩ | ⟨y, l', c', zs, hcs, _, hl', hm', hz, _, hcell, hwz⟩
  · exact ⟨none, 0, [], hcs, rfl, Nat.zero_le _, fun h => absurd h (Nat.lt_irrefl 0)⟩
  · obtain ⟨l, e, g1, g2, g3, g4⟩ := ReadsInt.ofRowC (k := .i64) (w := W) (a := some y) (len := l') (cap := c') (zs := zs) (.inr ⟨y, rfl, hl', hm', by simpa using hz, hcell, hwz⟩)
    subst e
    exact ⟨some y, c', l, hcs, Kd.C_of_reads (enc := Value.int .i64) (d := 0) g1⟩
theorem open_graph {H : Type} {enc : TypeId × Value → H} {W : World} {fuel : Nat} {cs : Array Value} {x : DataW H × List MemPlace}
    (h : DataW.trod enc Try.prog W 0 (fun _ => true) true fuel 25 cs.toList = some x) : ∃ (A : Option Addr) (c : Nat) (ms : List Int) (B : Option Addr) (d : Nat) (ls : List (Int × Int)), cs = #[.slice A ms.length c, .slice B ls.length d] ∧ (Kd.int .i64).C W A ms.length ms ∧ kLk.C W B ls.length ls := by
  obtain ⟨y0, y1, n, _, hl, t0, t1⟩ := trod_struct2 Try.underlying25 h
  have hc : Try.prog.cellsOf 25 = 2 := by kernel_rfl
  rw [hc] at hl
  obtain ⟨cl⟩ := cs
  simp only at hl
  match cl, hl with
  | [p, q], _ =>
    have k0 : Try.prog.cellsOf 22 = 1 := by kernel_rfl
    have k1 : Try.prog.cellsOf 23 = 1 := by kernel_rfl
    obtain ⟨A, c, ms, e0, h0⟩ := open_nums (cs := [p]) (by simpa [k0] using t0)
    obtain ⟨B, d, ls, e1, h1⟩ := open_lks (cs := [q]) (by simpa [k1] using t1)
    injection e0 with e0 _
    injection e1 with e1 _
    subst e0 e1
    exact ⟨A, c, ms, B, d, ls, rfl, h0, h1⟩
end
end Go.Proofs.Ytpnokpoikhpiiaa
