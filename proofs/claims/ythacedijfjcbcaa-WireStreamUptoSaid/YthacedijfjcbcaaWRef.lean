/- wire: the document's own functions: Bytes, Twin, Join, Uint, Int, Str, Lists. -/
import Derived.Test.YthacedijfjcbcaaWScan
namespace Go.Proofs.Ythacedijfjcbcaa
open Go.RowKit Go.Proofs.YthacedijfjcbcaaW.PrintWords Go.Proofs.YthacedijfjcbcaaW.PrintLast Go.Proofs.YthacedijfjcbcaaW.PrintMore
set_option linter.unusedVariables false
set_option linter.unusedSimpArgs false

def strB (xs : List UInt8) : ByteArray := strOfNums (xs.map fun b => (b.toNat : Int))
theorem conv_str {w : World} {A : Option Addr} {n c : Nat} {xs : List UInt8} (h : kB.C w A n xs) : (convert 22 9 (.slice A n c)).run Try.prog w = .ok (.string (strB xs)) w := by
  refine string_of_reads Try.underlying22 Try.underlying5 Try.underlying9 ?_
  have h1 := Kd.reads_of_C (enc := encB) (d := 0) h
  refine ⟨by rw [List.length_map]; exact h1.1, h1.2.1, fun hn => ?_⟩
  obtain ⟨ad, e, hc⟩ := h1.2.2 hn
  refine ⟨ad, e, fun j hj => ?_⟩
  rw [hc j hj]
  have hl : j < xs.length := by rw [h1.1]; exact hj
  simp [encB, List.getD_eq_getElem?_getD, List.getElem?_eq_getElem hl]
set_option maxRecDepth 100000 in
theorem bytes_same (w : World) (A : Option Addr) (c : Nat) (B : Option Addr) (d : Nat) (xs : List UInt8) (hx : kB.C w A xs.length xs) (hy : kB.C w B xs.length xs) :
    Calls Try.prog 10 #[.slice A xs.length c, .slice B xs.length d] w fun e w' => e = .returned (.bool true) ∧ w = w' := by
  have e1 := conv_str (c := c) hx
  have e2 := conv_str (c := d) hy
  clear hx hy
  go_enter Try.func10, Try.ntmps10
  go_wp2
  go_ret
  exact ⟨rfl, rfl⟩
set_option maxRecDepth 100000 in
theorem twin_calls (w : World) (A : Option Addr) (c : Nat) (xs : List UInt8) (hr : kB.C w A xs.length xs) (hl : xs.length ≤ 1099511627776) :
    Calls Try.prog 12 #[.slice A xs.length c] w (NewBytes w xs) := by
  have HR := Lib.hid hr
  have HL := Lib.hid hl
  clear hl hr
  go_enter Try.func12, Try.ntmps12
  go_wp2_with (at_builtin; refine app_bytes w.heap.size rfl _ _ rfl (.slice (some ⟨w.heap.size, 0, none⟩) 0 0) [] xs A xs.length c rfl rfl (B_empty w _ (Nat.le_refl _)) (Kd.C_alloc HR.out _) (by simp) (by have := HL.out; simp; omega) ?_; intro v1 w1 ho hb; have HO := Aside0.mk ho; have HB := Aside0.mk hb; clear ho hb)
  go_ret
  exact ⟨_, rfl, by simpa using HO.out, (below_alloc (Below.refl _ _) _).trans HB.out⟩
set_option maxRecDepth 100000 in
theorem join_calls (w : World) (A : Option Addr) (c : Nat) (xs : List UInt8) (B : Option Addr) (d : Nat) (ys : List UInt8) (hx : kB.C w A xs.length xs) (hy : kB.C w B ys.length ys) (hl : xs.length + ys.length ≤ 140737488355328) :
    Calls Try.prog 13 #[.slice A xs.length c, .slice B ys.length d] w (NewBytes w (xs ++ ys)) := by
  have HX := Lib.hid hx
  have HY := Lib.hid hy
  have HL := Lib.hid hl
  have h1 : (xs.length : Int) + (ys.length : Int) ≤ 140737488355328 := by omega
  clear hx hy hl
  go_enter Try.func13, Try.ntmps13
  go_wp2_with (first
    | (at_make; refine make_bytes rfl _ rfl (xs.length + ys.length) _ (by simp) rfl HL.out ?_; intro w1 hr hb; have HR1 := Aside0.mk hr; have HB1 := Aside0.mk hb; have HS1 := Aside0.mk hb.size; clear hr hb)
    | (at_builtin; refine app_bytes w.heap.size rfl _ _ rfl _ xs ys B ys.length d rfl rfl HR2.out (Kd.C_below HY.out (HB1.out.trans HB2.out)) (Nat.le_trans HS1.out HB2.out.size) HL.out ?_; intro v3 w3 hr hb; have HR3 := Aside0.mk hr; have HB3 := Aside0.mk hb; clear hr hb)
    | (at_builtin; refine app_bytes w.heap.size rfl _ _ rfl _ [] xs A xs.length c rfl rfl HR1.out (Kd.C_below HX.out HB1.out) HS1.out (by have := HL.out; simp; omega) ?_; intro v2 w2 hr hb; have HR2 := Aside0.mk hr; have HB2 := Aside0.mk hb; clear hr hb))
  go_ret
  exact ⟨_, rfl, by simpa using HR3.out, (HB1.out.trans HB2.out).trans HB3.out⟩

set_option maxRecDepth 100000 in
theorem refUint_calls (w : World) (x : Nat) (hx : x < 18446744073709551616) :
    Calls Try.prog 14 #[.int .u64 (x : Int)] w (NewBytes w (uintsF x)) := by
  have HX := Lib.hid hx
  clear hx
  go_enter Try.func14, Try.ntmps14
  go_wp2
  go_loopw [0, 3] (fun v0 v3 wr => ∃ (y : Nat) (l : List UInt8), v0 = .int .u64 y ∧ Hid (y < 18446744073709551616 ∧ l ++ uintsF y = uintsF x ∧ l.length ≤ 10 ∧ y < 2 ^ (7 * (10 - l.length))) ∧ Aside0 (kB.R 5 wr w.heap.size (fun _ => True) v3 l) ∧ Aside0 (Below w.heap.size w wr)) (fun v _ _ => (intOf v).toNat)
  case atStart => exact ⟨x, [], rfl, ⟨HX.out, rfl, by simp, by have := HX.out; simp; omega⟩, ⟨Kd.R_nil _ _ _ _ _⟩, ⟨Below.refl _ _⟩⟩
  case round =>
    obtain ⟨y, l, rfl, hy, HR, HB⟩ := hrel
    by_cases hs : y < 128
    · have y1 : ¬ (128 : Int) ≤ y := by omega
      have HS := Lib.hid hs
      clear hs
      go_wp2_with (at_builtin; refine app_byte w.heap.size rfl _ _ rfl u3 l (UInt8.ofNat y) _ ?hu rfl rfl HR.out (HB.out.size) (by have := hy.out.2.2.1; omega) ?_; (case hu => exact encB_ofNat (by have := HS.out; omega)); intro v3 w3 hr hb; have HR3 := Aside0.mk hr; have HB3 := Aside0.mk hb; clear hr hb)
      go_ret
      refine ⟨_, rfl, ?_, HB.out.trans HB3.out⟩
      have := HR3.out
      rw [← hy.out.2.1, uintsF_small HS.out]
      exact this
    · have y1 : (128 : Int) ≤ y := by omega
      have HS := Lib.hid hs
      have e8 : Value.int .u8 ((y : Int) % 128 + 128) = encB (UInt8.ofNat (y % 128 + 128)) := by
        rw [← encB_ofNat (by omega)]
        congr 1
      have E8 := Lib.hid e8
      clear hs e8
      go_wp2_with (at_builtin; refine app_byte w.heap.size rfl _ _ rfl u3 l (UInt8.ofNat (y % 128 + 128)) _ ?hu rfl rfl HR.out (HB.out.size) (by have := hy.out.2.2.1; omega) ?_; (case hu => exact E8.out); intro v3 w3 hr hb; have HR3 := Aside0.mk hr; have HB3 := Aside0.mk hb; clear hr hb)
      go_roundw
      case rel =>
        obtain ⟨h1, h2, h3, h4⟩ := hy.out
        have hs := HS.out
        have hl : l.length < 10 := by
          rcases Nat.lt_or_ge l.length 10 with h | h
          · exact h
          · exfalso
            have : 7 * (10 - l.length) = 0 := by omega
            rw [this] at h4
            omega
        refine ⟨y / 128, l ++ [UInt8.ofNat (y % 128 + 128)], ?_, ⟨by omega, ?_, by simp; omega, ?_⟩, HR3, ⟨HB.out.trans HB3.out⟩⟩
        · first | rfl | (congr 1; rw [IntKind.wrap_u64]; omega)
        · rw [← h2, uintsF_big hs]; simp
        · have e : 7 * (10 - l.length) = 7 * (10 - (l ++ [UInt8.ofNat (y % 128 + 128)]).length) + 7 := by simp; omega
          rw [e, Nat.pow_add] at h4
          exact Nat.div_lt_of_lt_mul (by rw [Nat.mul_comm]; exact h4)
      case measure => have := HS.out; simp [intOf, IntKind.wrap_u64]; omega

set_option maxRecDepth 100000 in
theorem refInt_calls (w : World) (x : Int) (h0 : -9223372036854775808 ≤ x) (h1 : x ≤ 9223372036854775807) :
    Calls Try.prog 16 #[.int .i64 x] w (NewBytes w (uintsF (zig x))) := by
  have HZL := Lib.hid (zig_lt x h0 h1)
  by_cases h : 0 ≤ x
  · have HZ := Lib.hid (show 2 * x = ((zig x : Nat) : Int) by unfold zig; rw [if_pos h]; omega)
    go_enter Try.func16, Try.ntmps16
    go_wp2_with (go_at_call 14; rw [HZ.out]; refine (refUint_calls _ (zig x) HZL.out).mono ?_; intro e w1 h1; obtain ⟨v1, rfl, hr, hb⟩ := h1; have HR1 := Aside0.mk hr; have HB1 := Aside0.mk hb; clear hr hb)
    go_ret
    exact ⟨_, rfl, HR1.out, HB1.out⟩
  · have HZ := Lib.hid (show 2 * -(x + 1) + 1 = ((zig x : Nat) : Int) by unfold zig; rw [if_neg h]; omega)
    go_enter Try.func16, Try.ntmps16
    go_wp2_with (go_at_call 14; rw [HZ.out]; refine (refUint_calls _ (zig x) HZL.out).mono ?_; intro e w1 h1; obtain ⟨v1, rfl, hr, hb⟩ := h1; have HR1 := Aside0.mk hr; have HB1 := Aside0.mk hb; clear hr hb)
    go_ret
    exact ⟨_, rfl, HR1.out, HB1.out⟩
set_option maxRecDepth 100000 in
theorem refStr_calls (w : World) (A : Option Addr) (c : Nat) (xs : List UInt8) (hx : kB.C w A xs.length xs) (hl : xs.length ≤ 1099511627776) :
    Calls Try.prog 18 #[.slice A xs.length c] w (NewBytes w (uintsF xs.length ++ xs)) := by
  have HX := Lib.hid hx
  have HL := Lib.hid hl
  have hU := Lib.hid (uintsF_len xs.length (by omega))
  have h1 : (xs.length : Int) ≤ 1099511627776 := by omega
  clear hx hl
  go_enter Try.func18, Try.ntmps18
  go_wp2_with (first
    | (go_at_call 14; refine (refUint_calls _ xs.length (by have := HL.out; omega)).mono ?_; intro e w1 h1; obtain ⟨A1, c1, rfl, _, _, hC, hb⟩ := h1.open_; have HC1 := Aside0.mk hC; have HB1 := Aside0.mk hb; clear h1 hC hb)
    | (go_at_call 13; refine (join_calls _ _ _ (uintsF xs.length) _ _ xs HC1.out (Kd.C_below HX.out HB1.out) (by have := HL.out; have := hU.out; omega)).mono ?_; intro e w2 h2; obtain ⟨v2, rfl, hr, hb⟩ := h2; have HR2 := Aside0.mk hr; have HB2 := Aside0.mk hb; clear hr hb))
  go_ret
  exact ⟨_, rfl, Kd.R_lower HR2.out HB1.out.size, below_then HB1.out HB1.out.size HB2.out⟩
end Go.Proofs.Ythacedijfjcbcaa
