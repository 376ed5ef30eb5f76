/- Lists of lists of bytes: an element, a cut. -/
import Derived.Test.YtcdhjkkdenhmcaaLkTake2
namespace Go.Proofs.Ytcdhjkkdenhmcaa
open Go.RowKit Go.Proofs.YtcdhjkkdenhmcaaW.PrintWords Go.Proofs.YtcdhjkkdenhmcaaW.PrintLast Go.Proofs.YtcdhjkkdenhmcaaW.PrintMore
set_option linter.unusedVariables false
set_option linter.unusedSimpArgs false
def kBs : Kd (List UInt8) := Kd.slice 5 kB
theorem info6 : (Try.prog.info? 29).map (fun i => (i.zero, i.size, i.bytes)) = some (some (.slice none 0 0), 1, 24) := by kernel_rfl
def gl (l : List (List UInt8)) (k : Nat) : List UInt8 := l.getD k []
theorem gl_get (l : List (List UInt8)) (k : Nat) (h : k < l.length) : gl l k = l[k] := by
  simp [gl, List.getD_eq_getElem?_getD, List.getElem?_eq_getElem h]
theorem L_cell {w : World} {A : Option Addr} {l : List (List UInt8)} (h : kBs.C w A l.length l) {k : Nat} (hk : k < l.length) :
    ∃ ad A0 c0, A = some ad ∧ w.cell? (ad.add k) = some (.slice A0 (gl l k).length c0) ∧ (gl l k).length ≤ c0 ∧ kB.C w A0 (gl l k).length (gl l k) := by
  obtain ⟨ad, c, e, _, hK, hc⟩ := Kd.C_get h ([] : List UInt8) (k : Int) (by omega) (by omega)
  obtain ⟨A0, c0, rfl, l0, g0⟩ := hK
  refine ⟨ad, A0, c0, e, ?_, l0, g0⟩
  have hq := hc 0 _ rfl
  have e1 : kBs.sz = 1 := rfl
  rw [e1, Nat.mul_one, Nat.add_zero, Int.toNat_natCast] at hq
  exact hq
theorem L_head {w : World} {A : Option Addr} {c hi : Nat} {l : List (List UInt8)} (h : kBs.C w A l.length l) (h2 : hi ≤ l.length) (hc : l.length ≤ c) (y : Int) (hy : y = (hi : Int)) :
    ∃ A', (∀ W : World, (Instr.slice 22 (.slice A l.length c) none (some (.int .i64 y)) none).run Try.prog W = .ok (.slice A' ((l.take hi).drop 0).length c) W) ∧ kBs.C w A' ((l.take hi).drop 0).length ((l.take hi).drop 0) ∧ ((l.take hi).drop 0).length ≤ c := by
  subst hy
  have hl : ((l.take hi).drop 0).length = hi := by rw [List.length_drop, List.length_take]; omega
  have hC := Kd.C_mid (k := kBs) h (Nat.zero_le hi) h2 hc
  refine ⟨if c = 0 then A else A.map (·.add (0 * kBs.sz)), fun W => ?_, hC, by omega⟩
  obtain ⟨i0, hi0, hz0, hz1, hz2⟩ := info_parts info6
  have ht := Try.underlying22
  have hel : Try.prog.elem 22 = 29 := by simp [Program.elem, ht]
  have hu : Try.prog.underlying 22 = some (.slice (Try.prog.elem 22)) := by rw [hel]; exact ht
  rw [run_slice_h (w := W) 22 A l.length c hu .i64 (hi : Int) (by omega) (by omega), hel, hl]
  have e1 : kBs.sz = 1 := rfl
  simp [sizeOf, typeInfo, hi0, hz1, sliced, Result.andThen, e1]

end Go.Proofs.Ytcdhjkkdenhmcaa
