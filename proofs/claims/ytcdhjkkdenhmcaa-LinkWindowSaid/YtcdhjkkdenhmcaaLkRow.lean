/- link: a list of lists of bytes that came in. -/
import Derived.Test.YtcdhjkkdenhmcaaLkBs
namespace Go.Proofs.Ytcdhjkkdenhmcaa
open Go.RowKit Go.Proofs.YtcdhjkkdenhmcaaW.PrintWords Go.Proofs.YtcdhjkkdenhmcaaW.PrintLast Go.Proofs.YtcdhjkkdenhmcaaW.PrintMore
set_option linter.unusedVariables false
set_option linter.unusedSimpArgs false

/-- The bytes that numbers are. -/
def toB (zs : List Int) : List UInt8 := zs.map fun z => UInt8.ofNat z.toNat
theorem toB_C {w : World} {A : Option Addr} {L C : Nat} {zs : List Int} (h1 : L ≤ C) (h2 : C ≤ maxLen) (h3 : zs.length = C) (h4 : ∀ n ∈ zs, (Lit.int .u8 n).wf = true) (h5 : A = none → C = 0)
    (h6 : ∀ a', A = some a' → ∀ c, c < C → w.cell? (a'.add c) = some (.int .u8 (zs.getD c 0))) : L = (toB (zs.take L)).length ∧ kB.C w A (toB (zs.take L)).length (toB (zs.take L)) := by
  have hl : (toB (zs.take L)).length = L := by
    unfold toB
    rw [List.length_map, List.length_take]
    omega
  refine ⟨hl.symm, ?_⟩
  rw [hl]
  have hmx : maxLen = 9223372036854775807 := rfl
  refine Kd.C_of_reads (enc := encB) (d := 0) ⟨hl, by omega, fun hn => ?_⟩
  cases A with
  | none => have := h5 rfl; omega
  | some ad =>
    refine ⟨ad, rfl, fun j hj => ?_⟩
    rw [h6 ad rfl j (by omega)]
    have hz : j < zs.length := by omega
    have hw := h4 (zs[j]) (List.getElem_mem hz)
    have hb : 0 ≤ zs[j] ∧ zs[j] ≤ 255 := by simpa [Lit.wf, IntKind.min, IntKind.max, IntKind.signed, IntKind.bits] using hw
    unfold toB encB
    rw [List.getD_eq_getElem?_getD, List.getElem?_eq_getElem hz, List.getD_eq_getElem?_getD, List.getElem?_map, List.getElem?_take, if_pos hj, List.getElem?_eq_getElem hz]
    simp only [Option.map_some, Option.getD_some]
    congr 2
    rw [UInt8.toNat_ofNat']
    omega
theorem rows_C {w : World} {a : Addr} {len cap : Nat} {A : Nat → Option Addr} {L C : Nat → Nat} {Z : Nat → List Int} (hl : len ≤ cap) (hm : cap ≤ maxLen)
    (h : ∀ r, r < cap → w.cell? (a.add r) = some (.slice (A r) (L r) (C r)) ∧ L r ≤ C r ∧ C r ≤ maxLen ∧ (Z r).length = C r ∧ (∀ n ∈ Z r, (Lit.int .u8 n).wf = true) ∧ (A r = none → C r = 0) ∧
        ∀ a', A r = some a' → ∀ c, c < C r → w.cell? (a'.add c) = some (.int .u8 ((Z r).getD c 0))) :
    ∃ l : List (List UInt8), l.length = len ∧ kBs.C w (some a) l.length l := by
  have hmx : maxLen = 9223372036854775807 := rfl
  refine ⟨(List.range len).map fun r => toB ((Z r).take (L r)), by simp, ?_⟩
  refine ⟨rfl, by simp; omega, fun hn => ⟨a, rfl, fun j p hj => ?_⟩⟩
  rw [List.getElem?_map] at hj
  have hjl : j < len := by
    rcases Nat.lt_or_ge j len with h' | h'
    · exact h'
    · rw [List.getElem?_eq_none (by simpa using h')] at hj
      cases hj
  rw [List.getElem?_range hjl] at hj
  simp only [Option.map_some, Option.some.injEq] at hj
  subst hj
  obtain ⟨c1, c2, c3, c4, c5, c6, c7⟩ := h j (by omega)
  obtain ⟨e, hC⟩ := toB_C c2 c3 c4 c5 c6 c7
  refine ⟨[.slice (A j) (toB ((Z j).take (L j))).length (C j)], rfl, ⟨A j, C j, rfl, by omega, hC⟩, fun i u hu => ?_⟩
  have e1 : kBs.sz = 1 := rfl
  rcases i with _ | i
  · simp at hu
    subst hu
    rw [e1, Nat.mul_one, Nat.add_zero, c1, ← e]
  · simp at hu
end Go.Proofs.Ytcdhjkkdenhmcaa
