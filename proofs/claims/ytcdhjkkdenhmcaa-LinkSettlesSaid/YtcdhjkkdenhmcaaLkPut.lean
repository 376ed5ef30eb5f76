/- wire: put, uints, PutUint, PutBytes. -/
import Derived.Test.YtcdhjkkdenhmcaaBy
namespace Go.Proofs.Ytcdhjkkdenhmcaa
open Go.RowKit Go.Proofs.YtcdhjkkdenhmcaaW.PrintWords Go.Proofs.YtcdhjkkdenhmcaaW.PrintLast Go.Proofs.YtcdhjkkdenhmcaaW.PrintMore
set_option linter.unusedVariables false
set_option linter.unusedSimpArgs false

/-- New bytes. -/
def NewBytes (w : World) (l : List UInt8) (e : Ending) (w' : World) : Prop := ∃ v, e = .returned v ∧ kB.R 5 w' w.heap.size (fun _ => True) v l ∧ Below w.heap.size w w'
theorem NewBytes.open_ {w w' : World} {l : List UInt8} {e : Ending} (h : NewBytes w l e w') : ∃ A c, e = .returned (.slice A l.length c) ∧ l.length ≤ c ∧ kB.R 5 w' w.heap.size (fun _ => True) (.slice A l.length c) l ∧ kB.C w' A l.length l ∧ Below w.heap.size w w' := by
  obtain ⟨v, rfl, hr, hb⟩ := h
  obtain ⟨A, c, rfl, hc, hC⟩ := Kd.R_reads hr
  exact ⟨A, c, rfl, hc, hr, hC, hb⟩
set_option maxRecDepth 100000 in
theorem put_calls (w : World) (A : Option Addr) (c : Nat) (xs : List UInt8) (B : Option Addr) (d : Nat) (ys : List UInt8) (hx : kB.C w A xs.length xs) (hy : kB.C w B ys.length ys) (hl : xs.length + ys.length ≤ 140737488355328) :
    Calls Try.prog 28 #[.slice A xs.length c, .slice B ys.length d] w (NewBytes w (xs ++ ys)) := by
  have HX := Lib.hid hx
  have HY := Lib.hid hy
  have HL := Lib.hid hl
  have h1 : (xs.length : Int) + (ys.length : Int) ≤ 140737488355328 := by omega
  clear hx hy hl
  go_enter Try.func28, Try.ntmps28
  go_wp2_with (first
    | (at_make; refine make_bytes rfl _ rfl (xs.length + ys.length) _ (by simp) rfl HL.out ?_; intro w1 hr hb; have HR1 := Aside0.mk hr; have HB1 := Aside0.mk hb; have HS1 := Aside0.mk hb.size; clear hr hb)
    | (at_builtin; refine app_bytes w.heap.size rfl _ _ rfl _ xs ys B ys.length d rfl rfl HR2.out (Kd.C_below HY.out (HB1.out.trans HB2.out)) (Nat.le_trans HS1.out HB2.out.size) HL.out ?_; intro v3 w3 hr hb; have HR3 := Aside0.mk hr; have HB3 := Aside0.mk hb; clear hr hb)
    | (at_builtin; refine app_bytes w.heap.size rfl _ _ rfl _ [] xs A xs.length c rfl rfl HR1.out (Kd.C_below HX.out HB1.out) HS1.out (by have := HL.out; simp; omega) ?_; intro v2 w2 hr hb; have HR2 := Aside0.mk hr; have HB2 := Aside0.mk hb; clear hr hb))
  go_ret
  exact ⟨_, rfl, by simpa using HR3.out, (HB1.out.trans HB2.out).trans HB3.out⟩

/-- The bytes of a number: groups of seven bits, the lowest first. -/
def uintsF (x : Nat) : List UInt8 := if x < 128 then [UInt8.ofNat x] else UInt8.ofNat (x % 128 + 128) :: uintsF (x / 128)
termination_by x
decreasing_by omega
theorem uintsF_small {x : Nat} (h : x < 128) : uintsF x = [UInt8.ofNat x] := by rw [uintsF, if_pos h]
theorem uintsF_big {x : Nat} (h : ¬ x < 128) : uintsF x = UInt8.ofNat (x % 128 + 128) :: uintsF (x / 128) := by rw [uintsF, if_neg h]

theorem or128 (y : Nat) : Value.int .u8 (bits .or .u8 ((y : Int) % 256) 128) = encB (UInt8.ofNat (y % 128 + 128)) := by
  have e : ((y : Int) % 256) = ((y % 256 : Nat) : Int) := by omega
  rw [e, show (128 : Int) = ((128 : Nat) : Int) from rfl, u8_or_nat _ _ (by omega) (by omega)]
  rw [encB_ofNat (show (y % 256 ||| 128) < 256 from Nat.or_lt_two_pow (n := 8) (by omega) (by omega))]
  congr 2
  have h1 : y % 128 < 2 ^ 7 := by omega
  have h2 : y % 256 = y % 128 ∨ y % 256 = 128 + y % 128 := by omega
  have h3 : 128 ||| y % 128 = 128 + y % 128 := by
    have := Nat.two_pow_add_eq_or_of_lt h1 1
    simpa using this.symm
  rcases h2 with h2 | h2
  · rw [h2, Nat.or_comm, h3, Nat.add_comm]
  · rw [h2, ← h3, Nat.or_assoc, Nat.or_comm (y % 128), ← Nat.or_assoc, Nat.or_self, h3, Nat.add_comm]
set_option maxRecDepth 100000 in
theorem uints_calls (w : World) (x : Nat) (hx : x < 18446744073709551616) :
    Calls Try.prog 29 #[.int .u64 (x : Int)] w (NewBytes w (uintsF x)) := by
  have HX := Lib.hid hx
  clear hx
  go_enter Try.func29, Try.ntmps29
  go_wp2
  go_loopw [0, 3] (fun v0 v3 wr => ∃ (y : Nat) (l : List UInt8), v0 = .int .u64 y ∧ Hid (y < 18446744073709551616 ∧ l ++ uintsF y = uintsF x ∧ l.length ≤ 10 ∧ y < 2 ^ (7 * (10 - l.length))) ∧ Aside0 (kB.R 5 wr w.heap.size (fun _ => True) v3 l) ∧ Aside0 (Below w.heap.size w wr)) (fun v _ _ => (intOf v).toNat)
  case atStart => exact ⟨x, [], rfl, ⟨HX.out, rfl, by simp, by have := HX.out; simp; omega⟩, ⟨Kd.R_nil _ _ _ _ _⟩, ⟨Below.refl _ _⟩⟩
  case round =>
    obtain ⟨y, l, rfl, hy, HR, HB⟩ := hrel
    by_cases hs : y < 128
    · have y1 : ¬ (128 : Int) ≤ y := by omega
      have HS := Lib.hid hs
      clear hs
      go_wp2_with (at_builtin; refine app_byte w.heap.size rfl _ _ rfl u3 l (UInt8.ofNat y) _ ?hu rfl rfl HR.out (HB.out.size) (by have := hy.out.2.2.1; omega) ?_; (case hu => exact encB_ofNat (by have := HS.out; omega)); intro v3 w3 hr hb; have HR3 := Aside0.mk hr; have HB3 := Aside0.mk hb; clear hr hb)
      go_ret
      refine ⟨_, rfl, ?_, HB.out.trans HB3.out⟩
      have := HR3.out
      rw [← hy.out.2.1, uintsF_small HS.out]
      exact this
    · have y1 : (128 : Int) ≤ y := by omega
      have HS := Lib.hid hs
      clear hs
      go_wp2_with (at_builtin; refine app_byte w.heap.size rfl _ _ rfl u3 l (UInt8.ofNat (y % 128 + 128)) _ ?hu rfl rfl HR.out (HB.out.size) (by have := hy.out.2.2.1; omega) ?_; (case hu => exact or128 y); intro v3 w3 hr hb; have HR3 := Aside0.mk hr; have HB3 := Aside0.mk hb; clear hr hb)
      go_roundw
      case rel =>
        obtain ⟨h1, h2, h3, h4⟩ := hy.out
        have hs := HS.out
        have hl : l.length < 10 := by
          rcases Nat.lt_or_ge l.length 10 with h | h
          · exact h
          · exfalso
            have : 7 * (10 - l.length) = 0 := by omega
            rw [this] at h4
            omega
        refine ⟨y / 128, l ++ [UInt8.ofNat (y % 128 + 128)], ?_, ⟨by omega, ?_, by simp; omega, ?_⟩, HR3, ⟨HB.out.trans HB3.out⟩⟩
        · first | rfl | (congr 1; omega)
        · rw [← h2, uintsF_big hs]; simp
        · have e : 7 * (10 - l.length) = 7 * (10 - (l ++ [UInt8.ofNat (y % 128 + 128)]).length) + 7 := by simp; omega
          rw [e, Nat.pow_add] at h4
          exact Nat.div_lt_of_lt_mul (by rw [Nat.mul_comm]; exact h4)
      case measure => have := HS.out; simp [intOf]; omega

theorem uintsF_len (x : Nat) (h : x < 18446744073709551616) : 1 ≤ (uintsF x).length ∧ (uintsF x).length ≤ 10 := by
  have key : ∀ k x, x < 2 ^ (7 * (k + 1)) → 1 ≤ (uintsF x).length ∧ (uintsF x).length ≤ k + 1 := by
    intro k
    induction k with
    | zero => intro x hx; rw [uintsF_small (by simpa using hx)]; simp
    | succ k ih =>
      intro x hx
      by_cases hs : x < 128
      · rw [uintsF_small hs]; simp
      · rw [uintsF_big hs]
        have e : 7 * (k + 1 + 1) = 7 * (k + 1) + 7 := by omega
        rw [e, Nat.pow_add] at hx
        have := ih (x / 128) (Nat.div_lt_of_lt_mul (by rw [Nat.mul_comm]; exact hx))
        simp; omega
  exact key 9 x (by omega)

set_option maxRecDepth 100000 in
theorem putUint_calls (w : World) (A : Option Addr) (c : Nat) (xs : List UInt8) (x : Nat) (hx : kB.C w A xs.length xs) (hn : x < 18446744073709551616) (hl : xs.length ≤ 1099511627776) :
    Calls Try.prog 20 #[.slice A xs.length c, .int .u64 (x : Int)] w (NewBytes w (xs ++ uintsF x)) := by
  have HX := Lib.hid hx
  have HN := Lib.hid hn
  have HL := Lib.hid hl
  have hU := Lib.hid (uintsF_len x hn)
  clear hx hn hl
  go_enter Try.func20, Try.ntmps20
  go_wp2_with (first
    | (go_at_call 29; refine (uints_calls _ x HN.out).mono ?_; intro e w1 h1; obtain ⟨A1, c1, rfl, _, _, hC, hb⟩ := h1.open_; have HC1 := Aside0.mk hC; have HB1 := Aside0.mk hb; clear h1 hC hb)
    | (go_at_call 28; refine (put_calls _ _ _ xs _ _ (uintsF x) (Kd.C_below HX.out HB1.out) HC1.out (by have := HL.out; have := hU.out; omega)).mono ?_; intro e w2 h2; obtain ⟨v2, rfl, hr, hb⟩ := h2; have HR2 := Aside0.mk hr; have HB2 := Aside0.mk hb; clear hr hb))
  go_ret
  exact ⟨_, rfl, Kd.R_lower HR2.out HB1.out.size, below_then HB1.out HB1.out.size HB2.out⟩

set_option maxRecDepth 100000 in
theorem putBytes_calls (w : World) (A : Option Addr) (c : Nat) (xs : List UInt8) (B : Option Addr) (d : Nat) (ys : List UInt8) (hx : kB.C w A xs.length xs) (hy : kB.C w B ys.length ys) (hl : xs.length ≤ 1099511627776) (hl2 : ys.length ≤ 1099511627776) :
    Calls Try.prog 21 #[.slice A xs.length c, .slice B ys.length d] w (NewBytes w (xs ++ uintsF ys.length ++ ys)) := by
  have HX := Lib.hid hx
  have HY := Lib.hid hy
  have HL := Lib.hid hl
  have HL2 := Lib.hid hl2
  have hU := Lib.hid (uintsF_len ys.length (by omega))
  have h1 : (ys.length : Int) ≤ 1099511627776 := by omega
  clear hx hy hl hl2
  go_enter Try.func21, Try.ntmps21
  go_wp2_with (first
    | (go_at_call 29; refine (uints_calls _ ys.length (by have := HL2.out; omega)).mono ?_; intro e w1 h1; obtain ⟨A1, c1, rfl, _, _, hC, hb⟩ := h1.open_; have HC1 := Aside0.mk hC; have HB1 := Aside0.mk hb; clear h1 hC hb)
    | (go_at_call 28; refine (put_calls _ _ _ L _ _ ys HC2.out (Kd.C_below HY.out (below_then HB1.out HB1.out.size HB2.out)) (by have := HL.out; have := HL2.out; have := hU.out; rw [HQ.out]; simp only [List.length_append]; omega)).mono ?_; intro e w3 h3; obtain ⟨v3, rfl, hr, hb⟩ := h3; have HR3 := Aside0.mk hr; have HB3 := Aside0.mk hb; clear hr hb)
    | (go_at_call 28; refine (put_calls _ _ _ xs _ _ (uintsF ys.length) (Kd.C_below HX.out HB1.out) HC1.out (by have := HL.out; have := hU.out; omega)).mono ?_; intro e w2 h2; obtain ⟨L, hL⟩ : ∃ L, L = xs ++ uintsF ys.length := ⟨_, rfl⟩; rw [← hL] at h2; have HQ := Lib.hid hL; obtain ⟨A2, c2, rfl, _, _, hC, hb⟩ := h2.open_; have HC2 := Aside0.mk hC; have HB2 := Aside0.mk hb; clear h2 hC hb hL))
  go_ret
  have hs := Nat.le_trans HB1.out.size HB2.out.size
  rw [← HQ.out]
  exact ⟨_, rfl, Kd.R_lower HR3.out hs, below_then (below_then HB1.out HB1.out.size HB2.out) hs HB3.out⟩

end Go.Proofs.Ytcdhjkkdenhmcaa
