/- wire: the document's own functions (door seat): Bytes, Twin, Join. -/
import Derived.Test.YthacedijfjcbcaaDoorWScan
namespace Go.Proofs.YthacedijfjcbcaaDoor
open Go.RowKit Go.Proofs.YthacedijfjcbcaaDoorW.PrintWords Go.Proofs.YthacedijfjcbcaaDoorW.PrintLast Go.Proofs.YthacedijfjcbcaaDoorW.PrintMore
set_option linter.unusedVariables false
set_option linter.unusedSimpArgs false

def strB (xs : List UInt8) : ByteArray := strOfNums (xs.map fun b => (b.toNat : Int))
theorem conv_str {w : World} {A : Option Addr} {n c : Nat} {xs : List UInt8} (h : kB.C w A n xs) : (convert 23 9 (.slice A n c)).run Tryd.prog w = .ok (.string (strB xs)) w := by
  refine string_of_reads Tryd.underlying23 Tryd.underlying5 Tryd.underlying9 ?_
  have h1 := Kd.reads_of_C (enc := encB) (d := 0) h
  refine ⟨by rw [List.length_map]; exact h1.1, h1.2.1, fun hn => ?_⟩
  obtain ⟨ad, e, hc⟩ := h1.2.2 hn
  refine ⟨ad, e, fun j hj => ?_⟩
  rw [hc j hj]
  have hl : j < xs.length := by rw [h1.1]; exact hj
  simp [encB, List.getD_eq_getElem?_getD, List.getElem?_eq_getElem hl]
set_option maxRecDepth 100000 in
theorem bytes_same (w : World) (A : Option Addr) (c : Nat) (B : Option Addr) (d : Nat) (xs : List UInt8) (hx : kB.C w A xs.length xs) (hy : kB.C w B xs.length xs) :
    Calls Tryd.prog 18 #[.slice A xs.length c, .slice B xs.length d] w fun e w' => e = .returned (.bool true) ∧ w = w' := by
  have e1 := conv_str (c := c) hx
  have e2 := conv_str (c := d) hy
  clear hx hy
  go_enter Tryd.func18, Tryd.ntmps18
  go_wp2
  go_ret
  exact ⟨rfl, rfl⟩
set_option maxRecDepth 100000 in
theorem twin_calls (w : World) (A : Option Addr) (c : Nat) (xs : List UInt8) (hr : kB.C w A xs.length xs) (hl : xs.length ≤ 1099511627776) :
    Calls Tryd.prog 16 #[.slice A xs.length c] w (NewBytes w xs) := by
  have HR := Lib.hid hr
  have HL := Lib.hid hl
  clear hl hr
  go_enter Tryd.func16, Tryd.ntmps16
  go_wp2_with (at_builtin; refine app_bytes w.heap.size rfl _ _ rfl (.slice (some ⟨w.heap.size, 0, none⟩) 0 0) [] xs A xs.length c rfl rfl (B_empty w _ (Nat.le_refl _)) (Kd.C_alloc HR.out _) (by simp) (by have := HL.out; simp; omega) ?_; intro v1 w1 ho hb; have HO := Aside0.mk ho; have HB := Aside0.mk hb; clear ho hb)
  go_ret
  exact ⟨_, rfl, by simpa using HO.out, (below_alloc (Below.refl _ _) _).trans HB.out⟩
set_option maxRecDepth 100000 in
theorem join_calls (w : World) (A : Option Addr) (c : Nat) (xs : List UInt8) (B : Option Addr) (d : Nat) (ys : List UInt8) (hx : kB.C w A xs.length xs) (hy : kB.C w B ys.length ys) (hl : xs.length + ys.length ≤ 140737488355328) :
    Calls Tryd.prog 46 #[.slice A xs.length c, .slice B ys.length d] w (NewBytes w (xs ++ ys)) := by
  have HX := Lib.hid hx
  have HY := Lib.hid hy
  have HL := Lib.hid hl
  have h1 : (xs.length : Int) + (ys.length : Int) ≤ 140737488355328 := by omega
  clear hx hy hl
  go_enter Tryd.func46, Tryd.ntmps46
  go_wp2_with (first
    | (at_make; refine make_bytes rfl _ rfl (xs.length + ys.length) _ (by simp) rfl HL.out ?_; intro w1 hr hb; have HR1 := Aside0.mk hr; have HB1 := Aside0.mk hb; have HS1 := Aside0.mk hb.size; clear hr hb)
    | (at_builtin; refine app_bytes w.heap.size rfl _ _ rfl _ xs ys B ys.length d rfl rfl HR2.out (Kd.C_below HY.out (HB1.out.trans HB2.out)) (Nat.le_trans HS1.out HB2.out.size) HL.out ?_; intro v3 w3 hr hb; have HR3 := Aside0.mk hr; have HB3 := Aside0.mk hb; clear hr hb)
    | (at_builtin; refine app_bytes w.heap.size rfl _ _ rfl _ [] xs A xs.length c rfl rfl HR1.out (Kd.C_below HX.out HB1.out) HS1.out (by have := HL.out; simp; omega) ?_; intro v2 w2 hr hb; have HR2 := Aside0.mk hr; have HB2 := Aside0.mk hb; clear hr hb))
  go_ret
  exact ⟨_, rfl, by simpa using HR3.out, (HB1.out.trans HB2.out).trans HB3.out⟩
end Go.Proofs.YthacedijfjcbcaaDoor
