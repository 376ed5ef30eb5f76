/- The references' Ints: are two lists of numbers alike? -/
import Derived.Test.YtpnokpoikhpiiaaBase
namespace Go.Proofs.Ytpnokpoikhpiiaa
open Go.RowKit Go.Proofs.YtpnokpoikhpiiaaW.PrintWords Go.Proofs.YtpnokpoikhpiiaaW.PrintLast Go.Proofs.YtpnokpoikhpiiaaW.PrintMore
set_option linter.unusedVariables false
set_option linter.unusedSimpArgs false
theorem same_of_rd {xs ys : List Int} (hl : xs.length = ys.length) (h : ∀ j, j < xs.length → rd xs j = rd ys j) : xs = ys := by
  apply List.ext_getElem hl
  intro i h1 h2
  have := h i h1
  rwa [rd_get xs i h1, rd_get ys i h2] at this
set_option maxRecDepth 100000 in
theorem ints_calls (w : World) (A : Option Addr) (c : Nat) (xs : List Int) (B : Option Addr) (d : Nat) (ys : List Int) (hx : (Kd.int .i64).C w A xs.length xs) (hy : (Kd.int .i64).C w B ys.length ys) :
    Calls Try.prog 14 #[.slice A xs.length c, .slice B ys.length d] w fun e w' => e = .returned (.bool (decide (xs = ys))) ∧ Drawn0 w w' := by
  have HX := Lib.hid hx
  have HY := Lib.hid hy
  have hm : (xs.length : Int) ≤ 9223372036854775807 := by have := hx.2.1; omega
  have hm2 : (ys.length : Int) ≤ 9223372036854775807 := by have := hy.2.1; omega
  clear hx hy
  by_cases hl : xs.length = ys.length
  · have hb : ((xs.length : Int) != (ys.length : Int)) = false := by simp [hl]
    have HL := Lib.hid hl
    clear hl
    go_enter Try.func14, Try.ntmps14
    go_wp2
    go_loopw [13] (fun v w' => ∃ k : Nat, k ≤ xs.length ∧ v = .int .i64 k ∧ Hid (∀ j, j < k → rd xs j = rd ys j) ∧ Aside0 (Drawn0 w w')) (fun v _ => xs.length - (intOf v).toNat)
    case atStart => exact ⟨0, Nat.zero_le _, rfl, fun j hj => by omega, ⟨Drawn0.refl _⟩⟩
    case round =>
      obtain ⟨k, hk, rfl, hno, ⟨⟨m, rfl⟩⟩⟩ := hrel
      by_cases hlt : k < xs.length
      · obtain ⟨ad, rfl, hcell⟩ := C_cell HX.out hlt
        obtain ⟨ad2, rfl, hcell2⟩ := C_cell HY.out (k := k) (by have := HL.out; omega)
        have HLT := Lib.hid hlt
        have k0 : (0 : Int) ≤ k := by omega
        have k1 : (k : Int) < xs.length := by omega
        have k2 : (k : Int) < ys.length := by have := HL.out; omega
        by_cases he : rd xs k = rd ys k
        · have hb2 : (rd xs k != rd ys k) = false := by simp [he]
          have HE := Lib.hid he
          clear he hlt
          go_wp2
          go_quiet (fail)
          go_wp2
          go_roundw
          case rel =>
            refine ⟨k + 1, by omega, by go_num, ?_, ⟨by repeat (first | exact Drawn0.refl _ | apply Drawn0.step)⟩⟩
            intro j hj
            by_cases e : j = k
            · subst e; exact HE.out
            · exact hno.out j (by omega)
          case measure => simp [intOf]; omega
        · have hb2 : (rd xs k != rd ys k) = true := by simp [he]
          have HE := Lib.hid (show decide (xs = ys) = false by rw [decide_eq_false_iff_not]; rintro rfl; exact he rfl)
          clear he hlt
          go_wp2
          go_quiet (fail)
          go_wp2
          go_ret
          rw [HE.out]
          exact ⟨rfl, by repeat (first | exact Drawn0.refl _ | apply Drawn0.step)⟩
      · have k1 : ¬ (k : Int) < xs.length := by omega
        have HK := Lib.hid (show k = xs.length by omega)
        clear hlt
        go_wp2
        go_ret
        have h1 := hno.out
        rw [HK.out] at h1
        rw [decide_eq_true (same_of_rd HL.out h1)]
        exact ⟨rfl, by repeat (first | exact Drawn0.refl _ | apply Drawn0.step)⟩
  · have hb : ((xs.length : Int) != (ys.length : Int)) = true := by rw [bne_iff_ne]; omega
    have HE := Lib.hid (show decide (xs = ys) = false by rw [decide_eq_false_iff_not]; rintro rfl; exact hl rfl)
    clear hl
    go_enter Try.func14, Try.ntmps14
    go_wp2
    go_ret
    rw [HE.out]
    exact ⟨rfl, Drawn0.refl _⟩
end Go.Proofs.Ytpnokpoikhpiiaa
