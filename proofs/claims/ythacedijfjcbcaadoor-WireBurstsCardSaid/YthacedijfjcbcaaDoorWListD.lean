/- wire: lists of lists of bytes: Lists, a cut, an element. -/
import Derived.Test.YthacedijfjcbcaaDoorWAwakeD
namespace Go.Proofs.YthacedijfjcbcaaDoor
open Go.RowKit Go.Proofs.YthacedijfjcbcaaDoorW.PrintWords Go.Proofs.YthacedijfjcbcaaDoorW.PrintLast Go.Proofs.YthacedijfjcbcaaDoorW.PrintMore
set_option linter.unusedVariables false
set_option linter.unusedSimpArgs false

def gl (l : List (List UInt8)) (k : Nat) : List UInt8 := l.getD k []
theorem gl_get (l : List (List UInt8)) (k : Nat) (h : k < l.length) : gl l k = l[k] := by
  simp [gl, List.getD_eq_getElem?_getD, List.getElem?_eq_getElem h]
theorem L_cell {w : World} {A : Option Addr} {l : List (List UInt8)} (h : kBs.C w A l.length l) {k : Nat} (hk : k < l.length) :
    ∃ ad A0 c0, A = some ad ∧ w.cell? (ad.add k) = some (.slice A0 (gl l k).length c0) ∧ (gl l k).length ≤ c0 ∧ kB.C w A0 (gl l k).length (gl l k) := by
  obtain ⟨ad, c, e, _, hK, hc⟩ := Kd.C_get h ([] : List UInt8) (k : Int) (by omega) (by omega)
  obtain ⟨A0, c0, rfl, l0, g0⟩ := hK
  refine ⟨ad, A0, c0, e, ?_, l0, g0⟩
  have hq := hc 0 _ rfl
  have e1 : kBs.sz = 1 := rfl
  rw [e1, Nat.mul_one, Nat.add_zero, Int.toNat_natCast] at hq
  exact hq
theorem L_head {w : World} {A : Option Addr} {c hi : Nat} {l : List (List UInt8)} (h : kBs.C w A l.length l) (h2 : hi ≤ l.length) (hc : l.length ≤ c) (y : Int) (hy : y = (hi : Int)) :
    ∃ A', (∀ W : World, (Instr.slice 51 (.slice A l.length c) none (some (.int .i64 y)) none).run Tryd.prog W = .ok (.slice A' ((l.take hi).drop 0).length c) W) ∧ kBs.C w A' ((l.take hi).drop 0).length ((l.take hi).drop 0) ∧ ((l.take hi).drop 0).length ≤ c := by
  subst hy
  have hl : ((l.take hi).drop 0).length = hi := by rw [List.length_drop, List.length_take]; omega
  have hC := Kd.C_mid (k := kBs) h (Nat.zero_le hi) h2 hc
  refine ⟨if c = 0 then A else A.map (·.add (0 * kBs.sz)), fun W => ?_, hC, by omega⟩
  obtain ⟨i0, hi0, hz0, hz1, hz2⟩ := info_parts info6
  have ht := Tryd.underlying51
  have hel : Tryd.prog.elem 51 = 23 := by simp [Program.elem, ht]
  have hu : Tryd.prog.underlying 51 = some (.slice (Tryd.prog.elem 51)) := by rw [hel]; exact ht
  rw [run_slice_h (w := W) 51 A l.length c hu .i64 (hi : Int) (by omega) (by omega), hel, hl]
  have e1 : kBs.sz = 1 := rfl
  simp [sizeOf, typeInfo, hi0, hz1, sliced, Result.andThen, e1]

set_option maxRecDepth 100000 in
set_option maxHeartbeats 1000000 in
theorem lists_same (w : World) (A : Option Addr) (c : Nat) (B : Option Addr) (d : Nat) (l : List (List UInt8)) (hx : kBs.C w A l.length l) (hy : kBs.C w B l.length l) :
    Calls Tryd.prog 25 #[.slice A l.length c, .slice B l.length d] w fun e w' => e = .returned (.bool true) ∧ ∃ m, w' = w.drewN m := by
  have HX := Lib.hid hx
  have HY := Lib.hid hy
  have hm : (l.length : Int) ≤ 9223372036854775807 := by have := hx.2.1; omega
  clear hx hy
  go_enter Tryd.func25, Tryd.ntmps25
  go_wp2
  go_loopw [13] (fun v wr => ∃ k : Nat, v = .int .i64 k ∧ k ≤ l.length ∧ Aside0 (∃ m, wr = w.drewN m)) (fun v _ => l.length - (intOf v).toNat)
  case atStart => exact ⟨0, rfl, Nat.zero_le _, ⟨0, rfl⟩⟩
  case round =>
    obtain ⟨k, rfl, hk, HW⟩ := hrel
    by_cases hlt : k < l.length
    · obtain ⟨ad, A0, c0, rfl, h1, _, h2⟩ := L_cell (show kBs.C wr A l.length l by obtain ⟨m, e⟩ := HW.out; rw [e]; exact Kd.C_drewN HX.out _) hlt
      obtain ⟨bd, B0, d0, rfl, h3, _, h4⟩ := L_cell (show kBs.C wr B l.length l by obtain ⟨m, e⟩ := HW.out; rw [e]; exact Kd.C_drewN HY.out _) hlt
      have k0 : (0 : Int) ≤ k := by omega
      have k1 : (k : Int) < l.length := by omega
      obtain ⟨q, hq⟩ : ∃ q, q = gl l k := ⟨_, rfl⟩
      rw [← hq] at h1 h2 h3 h4
      have H2 := Aside0.mk h2
      have H4 := Aside0.mk h4
      clear hlt h2 h4 hq
      go_wp2
      go_quiet ((go_at_call 18; exact Calls.quiet_of_same ((bytes_same _ _ _ _ _ q (Kd.C_drewN H2.out _) (Kd.C_drewN H4.out _)).mono fun _ _ ⟨h, k⟩ => ⟨h, k.symm⟩)))
      go_wp2
      go_roundw
      case rel => exact ⟨k + 1, by go_num, by omega, ⟨by obtain ⟨m, e⟩ := HW.out; rw [e]; exact ⟨_, World.drewN_drewN _ _ _⟩⟩⟩
      case measure => simp [intOf]; omega
    · have k1 : ¬ (k : Int) < l.length := by omega
      clear hlt
      go_wp2
      go_ret
      exact ⟨rfl, HW.out⟩
end Go.Proofs.YthacedijfjcbcaaDoor
