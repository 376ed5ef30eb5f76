/- The document's Sum, four, back. -/
import Derived.Test.YthacedijfjcbcaaDoorWFrame
import Derived.Test.YthacedijfjcbcaaDoorWRefD
namespace Go.Proofs.YthacedijfjcbcaaDoor
open Go.RowKit Go.Proofs.YthacedijfjcbcaaDoorW.PrintWords Go.Proofs.YthacedijfjcbcaaDoorW.PrintLast Go.Proofs.YthacedijfjcbcaaDoorW.PrintMore
set_option linter.unusedVariables false
set_option linter.unusedSimpArgs false
/-- i steps of the sum. -/
def stI : Nat → Nat → Nat
  | 0, t => t
  | i + 1, t => st1 (stI i t)
theorem stI_lt {t : Nat} (h : t < 4294967296) : ∀ i, stI i t < 4294967296
  | 0 => h
  | i + 1 => st1_lt (stI_lt h i)
theorem stI_eight (s c : Nat) : stI 8 (s ^^^ c) = crcB s c := rfl
set_option maxRecDepth 100000 in
set_option maxHeartbeats 1000000 in
theorem refSum_calls (w : World) (A : Option Addr) (c : Nat) (xs : List UInt8) (hx : kB.C w A xs.length xs) :
    Calls Tryd.prog 20 #[.slice A xs.length c] w fun e w' => e = .returned (.int .u32 (sumN xs : Nat)) ∧ w = w' := by
  have HX := Lib.hid hx
  have hm : (xs.length : Int) ≤ 9223372036854775807 := by have := hx.2.1; omega
  clear hx
  go_enter Tryd.func20, Tryd.ntmps20
  go_wp2
  go_loop [3, 9] (fun v3 v => ∃ (k t : Nat), v = .int .i64 k ∧ k ≤ xs.length ∧ v3 = .int .u32 t ∧ Hid (t = crcF 4294967295 (xs.take k) ∧ t < 4294967296)) (fun _ v => xs.length - (intOf v).toNat)
  case atStart => exact ⟨0, 4294967295, rfl, Nat.zero_le _, rfl, ⟨rfl, by decide⟩⟩
  case round =>
    obtain ⟨k, t, rfl, hk, rfl, ht⟩ := hrel
    have t1 : (t : Int) ≤ 4294967295 := by have := ht.out.2; omega
    by_cases hlt : k < xs.length
    · obtain ⟨ad, rfl, hcell⟩ := B_cell HX.out hlt
      have k0 : (0 : Int) ≤ k := by omega
      have k1 : (k : Int) < xs.length := by omega
      obtain ⟨b, hb⟩ : ∃ b, b = (gb xs k).toNat := ⟨_, rfl⟩
      have hb8 : b < 256 := by rw [hb]; exact (gb xs k).toNat_lt
      rw [← hb] at hcell
      have b1 : (b : Int) ≤ 255 := by omega
      have HL := Lib.hid hlt
      have HB := Lib.hid hb
      have hxor := u32_xor_nat t b ht.out.2 (by omega)
      have HN1 := Lib.hid (show t ^^^ b < 4294967296 from Nat.xor_lt_two_pow (n := 32) ht.out.2 (by omega))
      obtain ⟨z, hz⟩ : ∃ z, z = t ^^^ b := ⟨_, rfl⟩
      rw [← hz] at hxor HN1
      have HZ := Lib.hid hz
      clear hlt hb hb8 hz
      go_wp2
      go_loop [3, 6] (fun v3 v => ∃ (i t : Nat), v = .int .i64 i ∧ i ≤ 8 ∧ v3 = .int .u32 t ∧ Hid (t = stI i z)) (fun _ v => 8 - (intOf v).toNat)
      case atStart => exact ⟨0, z, rfl, by omega, rfl, rfl⟩
      case round =>
        obtain ⟨i, y, rfl, hi, rfl, hy⟩ := hrel
        have HY1 := Lib.hid (show y < 4294967296 by rw [hy.out]; exact stI_lt HN1.out i)
        have y1 : (y : Int) ≤ 4294967295 := by have := HY1.out; omega
        by_cases hi8 : i < 8
        · have i1 : (i : Int) < 8 := by omega
          by_cases hp : y % 2 = 1
          · have p1 : ((y : Int) % 2 == 1) = true := beq_iff_eq.2 (by omega)
            have hxy := u32_xor_nat (y / 2) 3988292384 (by have := HY1.out; omega) (by decide)
            have hq : ((y / 2 : Nat) : Int) = (y : Int) / 2 := by omega
            have HP := Lib.hid (show st1 y = y / 2 ^^^ 3988292384 by unfold st1; rw [if_pos hp])
            rw [hq] at hxy
            clear hp hq
            go_wp2
            go_round
            case rel =>
              refine ⟨i + 1, st1 y, by go_num, by omega, ?_, by rw [hy.out]; rfl⟩
              rw [HP.out]
              first | exact u32_eq hxy | rfl
            case measure => simp [intOf]; omega
          · have p1 : ((y : Int) % 2 == 1) = false := beq_eq_false_iff_ne.2 (by omega)
            have HP := Lib.hid (show st1 y = y / 2 by unfold st1; rw [if_neg hp])
            clear hp
            go_wp2
            go_round
            case rel =>
              refine ⟨i + 1, st1 y, by go_num, by omega, ?_, by rw [hy.out]; rfl⟩
              rw [HP.out]
              exact u32_eq (by omega)
            case measure => simp [intOf]; omega
        · have i1 : ¬ (i : Int) < 8 := by omega
          have HI := Lib.hid (show i = 8 by omega)
          clear hi8
          go_wp2
          go_round
          case rel =>
            refine ⟨k + 1, y, by go_num, by omega, rfl, ?_, HY1.out⟩
            rw [take_gb _ _ HL.out, crcF_snoc, ← ht.out.1, ← HB.out, hy.out, HI.out, HZ.out]
            rfl
          case measure => simp [intOf]; omega
    · have k1 : ¬ (k : Int) < xs.length := by omega
      have HE := Lib.hid (show k = xs.length by omega)
      clear hlt
      go_wp2
      go_ret
      refine ⟨ret_u32 ?_, rfl⟩
      have e : IntKind.u32.max = ((4294967295 : Nat) : Int) := by decide
      rw [e, u32_xor_nat _ _ (by decide) ht.out.2, Nat.xor_comm]
      congr 1
      rw [ht.out.1, HE.out, List.take_length]
      rfl
set_option maxRecDepth 100000 in
theorem refFour_calls (w : World) (x : Nat) (hx : x < 4294967296) :
    Calls Tryd.prog 47 #[.int .u32 (x : Int)] w (NewBytes w (fourF x)) := by
  have HX := Lib.hid hx
  have x1 : (x : Int) ≤ 4294967295 := by omega
  clear hx
  go_enter Tryd.func47, Tryd.ntmps47
  go_wp2
  go_ret
  refine ⟨_, rfl, B_lit w (fourF x) _ (show 4 ≤ 9223372036854775807 by decide) rfl (Nat.le_refl _) ?_ rfl, below_alloc (Below.refl _ _) _⟩
  have hx := HX.out
  show _ = #[encB (UInt8.ofNat (x % 256)), encB (UInt8.ofNat (x / 256 % 256)), encB (UInt8.ofNat (x / 65536 % 256)), encB (UInt8.ofNat (x / 16777216 % 256))]
  rw [← byte_of x ((x : Int) % 256) (by omega), ← byte_of (x / 256) ((x : Int) / 256 % 256) (by omega), ← byte_of (x / 65536) ((x : Int) / 65536 % 256) (by omega), ← byte_of (x / 16777216) ((x : Int) / 16777216) (by omega)]
set_option maxRecDepth 100000 in
theorem refBack_calls (w : World) (A : Option Addr) (k : Nat) (a b c d : UInt8) (hx : kB.C w A 4 [a, b, c, d]) :
    Calls Tryd.prog 42 #[.slice A 4 k] w fun e w' => e = .returned (.int .u32 (numF a b c d : Nat)) ∧ ∃ m, w' = w.drewN m := by
  have c0 := B_cell (xs := [a, b, c, d]) hx (k := 0) (by simp)
  have c1 := B_cell (xs := [a, b, c, d]) hx (k := 1) (by simp)
  have c2 := B_cell (xs := [a, b, c, d]) hx (k := 2) (by simp)
  have c3 := B_cell (xs := [a, b, c, d]) hx (k := 3) (by simp)
  obtain ⟨ad, rfl, c0⟩ := c0
  obtain ⟨_, e1, c1⟩ := c1
  cases e1
  obtain ⟨_, e2, c2⟩ := c2
  cases e2
  obtain ⟨_, e3, c3⟩ := c3
  cases e3
  obtain ⟨p, hp⟩ : ∃ p, p = a.toNat := ⟨_, rfl⟩
  obtain ⟨q, hq⟩ : ∃ q, q = b.toNat := ⟨_, rfl⟩
  obtain ⟨r, hr⟩ : ∃ r, r = c.toNat := ⟨_, rfl⟩
  obtain ⟨s, hs⟩ : ∃ s, s = d.toNat := ⟨_, rfl⟩
  have := a.toNat_lt; have := b.toNat_lt; have := c.toNat_lt; have := d.toNat_lt
  replace c0 : w.cell? ad = some (.int .u8 (p : Int)) := by rw [hp]; exact c0
  replace c1 : w.cell? ⟨ad.block, ad.off + 1, none⟩ = some (.int .u8 (q : Int)) := by rw [hq]; exact c1
  replace c2 : w.cell? ⟨ad.block, ad.off + 2, none⟩ = some (.int .u8 (r : Int)) := by rw [hr]; exact c2
  replace c3 : w.cell? ⟨ad.block, ad.off + 3, none⟩ = some (.int .u8 (s : Int)) := by rw [hs]; exact c3
  have p1 : (p : Int) ≤ 255 := by omega
  have q1 : (q : Int) ≤ 255 := by omega
  have r1 : (r : Int) ≤ 255 := by omega
  have s1 : (s : Int) ≤ 255 := by omega
  have HF := Lib.hid (show ((numF a b c d : Nat) : Int) = (p : Int) + q * 256 + r * 65536 + s * 16777216 by unfold numF; rw [← hp, ← hq, ← hr, ← hs]; omega)
  clear hp hq hr hs
  go_enter Tryd.func42, Tryd.ntmps42
  go_wp2
  go_quiet (fail)
  go_wp2
  go_ret
  refine ⟨ret_u32 ?_, ⟨_, rfl⟩⟩
  rw [HF.out]
end Go.Proofs.YthacedijfjcbcaaDoor
