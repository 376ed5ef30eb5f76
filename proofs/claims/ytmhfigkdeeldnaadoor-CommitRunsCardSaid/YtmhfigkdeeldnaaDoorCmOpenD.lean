/- A script of calls that came in: a list of structs of three numbers and a list of numbers, opened. -/
import Derived.Test.YtmhfigkdeeldnaaDoorCmBegin
import Derived.Deep.Slices
import Derived.Deep.Fields
import Derived.ChangeSame
namespace Go.Proofs.YtmhfigkdeeldnaaDoor
open Go.RowKit Go.Proofs.YtmhfigkdeeldnaaDoorW.PrintWords Go.Proofs.YtmhfigkdeeldnaaDoorW.PrintLast Go.Proofs.YtmhfigkdeeldnaaDoorW.PrintMore
set_option linter.unusedVariables false
set_option linter.unusedSimpArgs false
structure Op where
  kind : Int
  change : Int
  node : Int
  nodes : List Int
def OpAt (w : World) (ad : Addr) (o : Op) : Prop :=
  w.cell? ad = some (.int .i64 o.kind) ∧ w.cell? ⟨ad.block, ad.off + 1, none⟩ = some (.int .i64 o.change) ∧ w.cell? ⟨ad.block, ad.off + 2, none⟩ = some (.int .i64 o.node) ∧
    ∃ A c, w.cell? ⟨ad.block, ad.off + 3, none⟩ = some (.slice A o.nodes.length c) ∧ (Kd.int .i64).C w A o.nodes.length o.nodes
def OpsC (w : World) (A : Option Addr) (ops : List Op) : Prop := ∀ k o, ops[k]? = some o → ∃ ad, A = some ad ∧ OpAt w (ad.add (k * 4)) o
theorem OpAt.below {w w1 : World} {ad : Addr} {o : Op} (h : OpAt w ad o) (hb : Below w.heap.size w w1) : OpAt w1 ad o := by
  obtain ⟨h1, h2, h3, A, c, h4, h5⟩ := h
  have key : ∀ a v, w.cell? a = some v → w1.cell? a = some v := fun a v h => by rw [hb.cell (World.block_lt_of_cell? w a h)]; exact h
  exact ⟨key _ _ h1, key _ _ h2, key _ _ h3, A, c, key _ _ h4, Kd.C_below h5 hb⟩
theorem OpsC.below {w w1 : World} {A : Option Addr} {ops : List Op} (h : OpsC w A ops) (hb : Below w.heap.size w w1) : OpsC w1 A ops := fun k o hk => by
  obtain ⟨ad, e, h1⟩ := h k o hk
  exact ⟨ad, e, h1.below hb⟩

section
open Go.ChangeShapes Go.WideShapes Go.Deep
variable {H : Type} {enc : TypeId × Value → H} {P : Program} {w : World} {base : Nat} {spare : Nat → Bool} {held : Bool}
theorem open_slice_fields {t e : TypeId} {fs : Array Field} {fuel : Nat} {cs : List Value} {x : DataW H × List MemPlace} (ht : P.underlying t = some (.slice e)) (he : P.underlying e = some (.struct fs))
    (hone : oneCellFields P fs = true) (hC : P.cellsOf e = fs.size) (h : DataW.trod enc P w base spare held fuel t cs = some x) :
    (cs = [.slice none 0 0] ∧ x = (.nil, [])) ∨
    ∃ (a : Addr) (len cap m : Nat) (D : Nat → DataW H) (Pl : Nat → List MemPlace), cs = [.slice (some a) len cap] ∧ base ≤ a.block ∧ len ≤ cap ∧ cap ≤ maxLen ∧ m = (if spare a.block then cap else len) ∧
      x = (.slice ((List.range len).map D) ((List.range (m - len)).map fun j => D (len + j)), MemPlace.row a (m * fs.size) ++ (List.range m).flatMap Pl) ∧
      ∀ i, i < m → ∃ (ys : List (DataW H × List MemPlace)) (n : Nat), D i = .agg (ys.map (·.1)) ∧ Pl i = ys.flatMap (·.2) ∧ ys.length = fs.size ∧
        ∀ (j : Nat) (f : Field), fs[j]? = some f → ∃ (v : Value) (y : DataW H × List MemPlace), w.cell? (a.add (i * fs.size + j)) = some v ∧ ys[j]? = some y ∧ DataW.trod enc P w base spare held n f.type [v] = some y := by
  rcases open_slice ht h with h0 | ⟨a, len, cap, m, n, D, Pl, hcs, hb, hl, hm, hmm, hx, hi⟩
  · exact .inl h0
  · refine .inr ⟨a, len, cap, m, D, Pl, hcs, hb, hl, hm, hmm, by rw [hC] at hx; exact hx, fun i him => ?_⟩
    obtain ⟨cs', hc, ht'⟩ := hi i him
    rw [hC] at hc
    obtain ⟨ys, n', hn', hy, hlen, hyl, hf⟩ := DataW.trod_struct he ht'
    obtain ⟨_, hcl, hat⟩ := World.cells?_some hc
    simp only [Prod.mk.injEq] at hy
    refine ⟨ys, n', hy.1, hy.2, hyl, fun j f hj => ?_⟩
    obtain ⟨ho, hk⟩ := hone_of hone j f hj
    have hjl : j < fs.size := (Array.getElem?_eq_some_iff.1 hj).1
    have hcell := hat j hjl
    have hv : cs'[j]? = some (cs'[j]'(by omega)) := List.getElem?_eq_getElem (by omega)
    have h1 := hf j f hj
    rw [ho, hk] at h1
    have hone' : (cs'.drop j).take 1 = [cs'[j]'(by omega)] := by
      rw [List.drop_eq_getElem_cons (by omega)]
      rfl
    rw [hone'] at h1
    have hys : ys[j]? = some (ys[j]'(by omega)) := List.getElem?_eq_getElem (by omega)
    refine ⟨_, _, ?_, hys, h1.trans hys⟩
    rw [← Go.Deep.add_add, hcell, hv]
end
section
open Go.ChangeShapes Go.WideShapes Go.Deep
theorem add_next (ad : Addr) (m j : Nat) (hj : 0 < j) : ad.add (m + j) = ⟨(ad.add m).block, (ad.add m).off + j, none⟩ := by
  unfold Addr.add
  by_cases hm : m = 0
  · simp [hm, show j ≠ 0 by omega]
  · simp [hm, show m + j ≠ 0 by omega]; omega
instance : Inhabited Op := ⟨⟨0, 0, 0, []⟩⟩
set_option maxRecDepth 100000 in
theorem open_ops {H : Type} {enc : TypeId × Value → H} {W : World} {fuel : Nat} {a : Option Addr} {len cap : Nat} {x : DataW H × List MemPlace}
    (h : DataW.trod enc Tryd.prog W 0 (fun _ => true) true fuel 22 [.slice a len cap] = some x) : ∃ ops : List Op, ops.length = len ∧ (len : Int) ≤ 9223372036854775807 ∧ OpsC W a ops := by
  rcases open_slice_fields Tryd.underlying22 Tryd.underlying30 (by kernel_rfl) (by kernel_rfl) h with ⟨hcs, _⟩ | ⟨ad, l, c, m, D, Pl, hcs, _, hl, hm, hmm, _, hall⟩
  · simp at hcs
    obtain ⟨rfl, rfl, rfl⟩ := hcs
    exact ⟨[], rfl, by decide, fun k o hk => by simp at hk⟩
  · simp at hcs
    obtain ⟨rfl, rfl, rfl⟩ := hcs
    simp only [if_true] at hmm
    have each : ∀ i, i < len → ∃ o : Op, OpAt W (ad.add (i * 4)) o := by
      intro i hi
      obtain ⟨ys, n, _, _, _, hf⟩ := hall i (by omega)
      obtain ⟨v0, y0, c0, _, t0⟩ := hf 0 _ rfl
      obtain ⟨v1, y1, c1, _, t1⟩ := hf 1 _ rfl
      obtain ⟨v2, y2, c2, _, t2⟩ := hf 2 _ rfl
      obtain ⟨v3, y3, c3, _, t3⟩ := hf 3 _ rfl
      obtain ⟨x0, e0, _, _⟩ := DataW.trod_int Tryd.underlying3 t0
      obtain ⟨x1, e1, _, _⟩ := DataW.trod_int Tryd.underlying3 t1
      obtain ⟨x2, e2, _, _⟩ := DataW.trod_int Tryd.underlying3 t2
      simp only [List.cons.injEq, and_true] at e0 e1 e2
      subst e0 e1 e2
      have b1 : W.cell? ⟨(ad.add (i * 4)).block, (ad.add (i * 4)).off + 1, none⟩ = some (.int .i64 x1) := by rw [← add_next ad (i * 4) 1 (by omega)]; exact c1
      have b2 : W.cell? ⟨(ad.add (i * 4)).block, (ad.add (i * 4)).off + 2, none⟩ = some (.int .i64 x2) := by rw [← add_next ad (i * 4) 2 (by omega)]; exact c2
      have b3 : W.cell? ⟨(ad.add (i * 4)).block, (ad.add (i * 4)).off + 3, none⟩ = some v3 := by rw [← add_next ad (i * 4) 3 (by omega)]; exact c3
      rcases open_ints Tryd.underlying26 Tryd.underlying3 (by kernel_rfl) t3 with ⟨hcs, _⟩ | ⟨y, l', c', zs, hcs, _, hl', hm', hz, _, hcell, hwz⟩
      · simp only [List.cons.injEq, and_true] at hcs
        subst hcs
        exact ⟨⟨x0, x1, x2, []⟩, c0, b1, b2, none, 0, b3, rfl, Nat.zero_le _, fun h => absurd h (Nat.lt_irrefl 0)⟩
      · simp only [List.cons.injEq, and_true] at hcs
        subst hcs
        obtain ⟨l, e, g1, g2, g3, g4⟩ := ReadsInt.ofRowC (k := .i64) (w := W) (a := some y) (len := l') (cap := c') (zs := zs) (.inr ⟨y, rfl, hl', hm', by simpa using hz, hcell, hwz⟩)
        subst e
        exact ⟨⟨x0, x1, x2, l⟩, c0, b1, b2, some y, c', b3, Kd.C_of_reads (enc := Value.int .i64) (d := 0) g1⟩
    obtain ⟨f, hf⟩ := choose_lt each
    have hmx : maxLen = 9223372036854775807 := rfl
    refine ⟨(List.range len).map f, by simp, by omega, fun k o hk => ?_⟩
    rw [List.getElem?_map] at hk
    have hkl : k < len := by
      rcases Nat.lt_or_ge k len with h' | h'
      · exact h'
      · rw [List.getElem?_eq_none (by simpa using h')] at hk
        cases hk
    rw [List.getElem?_range hkl] at hk
    simp only [Option.map_some, Option.some.injEq] at hk
    subst hk
    exact ⟨ad, rfl, hf k hkl⟩
end
end Go.Proofs.YtmhfigkdeeldnaaDoor
