/- wire: the walk of WireSums. -/
import Derived.Test.YthacedijfjcbcaaWAwake
import Derived.BigRegion
namespace Go.Proofs.Ythacedijfjcbcaa
open Go.RowKit Go.Proofs.YthacedijfjcbcaaW.PrintWords Go.Proofs.YthacedijfjcbcaaW.PrintLast Go.Proofs.YthacedijfjcbcaaW.PrintMore
set_option linter.unusedVariables false
set_option linter.unusedSimpArgs false

/-- Bytes xored, one by one. -/
def xorL : List UInt8 → List UInt8 → List UInt8
  | x :: xs, y :: ys => (x ^^^ y) :: xorL xs ys
  | _, _ => []
theorem xorL_len : ∀ xs ys : List UInt8, (xorL xs ys).length = min xs.length ys.length
  | [], ys => by simp [xorL]
  | x :: xs, [] => by simp [xorL]
  | x :: xs, y :: ys => by simp [xorL, xorL_len xs ys]
theorem xorL_get : ∀ (xs ys : List UInt8) (i : Nat), i < xs.length → i < ys.length → gb (xorL xs ys) i = gb xs i ^^^ gb ys i
  | x :: xs, y :: ys, 0, _, _ => rfl
  | x :: xs, y :: ys, i + 1, h1, h2 => by
    have := xorL_get xs ys i (by simpa using h1) (by simpa using h2)
    simpa [xorL, gb] using this
/-- The sum is linear: that of xored lists is the sums', with that of zeros. -/
theorem crcF_xor : ∀ (xs ys : List UInt8) (s t : Nat), xs.length = ys.length → crcF (s ^^^ t) (xorL xs ys) = crcF s xs ^^^ crcF t ys
  | [], [], s, t, _ => rfl
  | x :: xs, y :: ys, s, t, h => by
    have e : crcB (s ^^^ t) (x ^^^ y).toNat = crcB s x.toNat ^^^ crcB t y.toNat := by
      rw [UInt8.toNat_xor, crcB_xor]
    show crcF (crcB (s ^^^ t) (x ^^^ y).toNat) (xorL xs ys) = _
    rw [e, crcF_xor xs ys _ _ (by simpa using h)]
    rfl
theorem xorL_zero : ∀ xs : List UInt8, xorL xs (List.replicate xs.length 0) = xs
  | [] => rfl
  | x :: xs => by
    show (x ^^^ 0) :: xorL xs (List.replicate xs.length 0) = x :: xs
    rw [xorL_zero xs, UInt8.xor_zero]
theorem sum_xor (xs ys : List UInt8) (h : xs.length = ys.length) : sumN (xorL xs ys) = sumN xs ^^^ sumN ys ^^^ sumN (List.replicate xs.length 0) := by
  unfold sumN
  have h1 := crcF_xor xs ys 4294967295 4294967295 h
  have h2 := crcF_xor (xorL xs ys) (List.replicate xs.length 0) 0 4294967295 (by rw [xorL_len]; simp; omega)
  have h3 : (xorL xs ys).length = xs.length := by rw [xorL_len]; omega
  rw [← h3, xorL_zero, h3, Nat.zero_xor] at h2
  rw [Nat.xor_self] at h1
  rw [h2, h1]
  generalize crcF 4294967295 xs = p
  generalize crcF 4294967295 ys = q
  generalize crcF 4294967295 (List.replicate xs.length 0) = r
  generalize (4294967295 : Nat) = m
  have e : ∀ a b c : Nat, a ^^^ (b ^^^ c) = b ^^^ (a ^^^ c) := fun a b c => by rw [← Nat.xor_assoc, Nat.xor_comm a b, Nat.xor_assoc]
  simp only [Nat.xor_assoc, e m, Nat.xor_self, Nat.xor_zero]
theorem gb_set (zs : List UInt8) (k : Nat) (x : UInt8) (hk : k < zs.length) (i : Nat) : gb (zs.set k x) i = if i = k then x else gb zs i := by
  unfold gb
  rw [List.getD_eq_getElem?_getD, List.getElem?_set, List.getD_eq_getElem?_getD]
  by_cases h : i = k
  · subst h
    simp [hk]
  · rw [if_neg (fun e => h e.symm), if_neg h]
theorem gb_ext (xs ys : List UInt8) (hl : xs.length = ys.length) (h : ∀ i, i < xs.length → gb xs i = gb ys i) : xs = ys := by
  apply List.ext_getElem hl
  intro i h1 h2
  rw [← gb_get xs i h1, ← gb_get ys i h2]
  exact h i h1
theorem gb_take (xs : List UInt8) (n i : Nat) (h : i < n) : gb (xs.take n) i = gb xs i := by
  unfold gb
  rw [List.getD_eq_getElem?_getD, List.getD_eq_getElem?_getD, List.getElem?_take, if_pos h]

theorem sum_n (w : World) (A : Option Addr) (n c : Nat) (xs : List UInt8) (hx : kB.C w A n xs) :
    Calls Try.prog 9 #[.slice A n c] w fun e w' => e = .returned (.int .u32 (sumN xs : Nat)) ∧ w = w' := by
  obtain rfl : xs.length = n := hx.1
  exact sum_calls w A c xs hx
theorem made_R (W : World) (base n : Nat) (hb : base ≤ W.heap.size) (hn : n ≤ 9223372036854775807) :
    kB.R 5 (W.alloc (.cells (madeCells #[.int .u8 0] n) 5)) base (fun k => k = W.heap.size) (.slice (some ⟨W.heap.size, 0, none⟩) n n) (List.replicate n 0) := by
  have h := own_made_of (enc := encB) (d := 0) W base 5 n hb hn
  exact Kd.R_of_own (enc := encB) (by rw [List.length_replicate]; exact h) (fun k hk => by simpa [Value.ownBlock] using hk.symm)
set_option maxRecDepth 100000 in
set_option maxHeartbeats 4000000 in
theorem sums_walk (w : World) (A : Option Addr) (c : Nat) (a : List UInt8) (B : Option Addr) (d : Nat) (b : List UInt8) (hx : kB.C w A a.length a) (hc : a.length ≤ c) (hy : kB.C w B b.length b) (hd : b.length ≤ d) :
    Calls Try.prog 3 #[.slice A a.length c, .slice B b.length d] w fun e w' => e = .returned (.bool true) ∧ Below w.heap.size w w' := by
  have HX := Lib.hid hx
  have HC := Lib.hid hc
  have HY := Lib.hid hy
  have HD := Lib.hid hd
  have hm : (a.length : Int) ≤ 9223372036854775807 := by have := hx.2.1; omega
  have hm2 : (b.length : Int) ≤ 9223372036854775807 := by have := hy.2.1; omega
  by_cases h3 : 1000 < a.length ∨ 1000 < b.length
  · clear hx hc hy hd
    by_cases h4 : 1000 < a.length
    · have h3' : (1000 : Int) < a.length := by omega
      clear h3 h4
      go_enter Try.func3, Try.ntmps3
      go_wp2_with (go_at_call 8; refine (awake_calls _).mono ?_; rintro e w0 ⟨rfl, hb⟩; have H0 := Aside0.mk hb; clear hb)
      go_ret
      exact ⟨rfl, H0.out⟩
    · have h4' : ¬ (1000 : Int) < a.length := by omega
      have h5' : (1000 : Int) < b.length := by omega
      clear h3 h4
      go_enter Try.func3, Try.ntmps3
      go_wp2_with (go_at_call 8; refine (awake_calls _).mono ?_; rintro e w0 ⟨rfl, hb⟩; have H0 := Aside0.mk hb; clear hb)
      go_ret
      exact ⟨rfl, H0.out⟩
  · have ha : a.length ≤ 1000 := by omega
    have hb : b.length ≤ 1000 := by omega
    have ha' : ¬ (1000 : Int) < a.length := by omega
    have hb' : ¬ (1000 : Int) < b.length := by omega
    obtain ⟨n, hn⟩ : ∃ n, n = min a.length b.length := ⟨_, rfl⟩
    have HM := Lib.hid (show (if b.length < a.length then (b.length : Int) else a.length) = n by split <;> omega)
    have HN := Lib.hid (show n ≤ a.length ∧ n ≤ b.length by omega)
    have n1 : (n : Int) ≤ 1000 := by omega
    have na : (n : Int) ≤ a.length := by omega
    have nb : (n : Int) ≤ b.length := by omega
    have hmk := print_make_of (P := Try.prog) 22 5 (.int .u8 0) 1 Try.underlying22 info5 rfl (by decide) n (by omega)
    clear h3 hx hc hy hd hn
    go_enter Try.func3, Try.ntmps3
    go_upto_region 6 with ((go_at_call 8; refine (awake_calls _).mono ?_; rintro e w0 ⟨rfl, hb⟩; have H0 := Aside0.mk hb; clear hb))
    rw [HM.out]
    go_cut [6, 7] (fun s6 s7 wx => ∃ gx gz : Nat, s6 = .slice (some ⟨gx, 0, none⟩) n n ∧ s7 = .slice (some ⟨gz, 0, none⟩) n n ∧ Aside0 (gx ≠ gz ∧ w.heap.size ≤ gx ∧ kB.R 5 wx w.heap.size (fun k => k = gx) s6 (List.replicate n 0) ∧ kB.R 5 wx w.heap.size (fun k => k = gz) s7 (List.replicate n 0) ∧ Below w.heap.size w wx))
    case first =>
      have hW := H0.out.size
      have e1 : (w0.alloc (.cells (madeCells #[.int .u8 0] n) 5)).heap.size = w0.heap.size + 1 := by simp
      have h1 := made_R w0 w.heap.size n hW (by omega)
      have h2 := made_R (w0.alloc (.cells (madeCells #[.int .u8 0] n) 5)) w.heap.size n (by omega) (by omega)
      rw [e1] at h2
      have R1 := Aside0.mk (Kd.R_below h1 (below_drew (below_alloc (Below.refl _ _) (.cells (madeCells #[.int .u8 0] n) 5))))
      have R2 := Aside0.mk (Kd.R_below h2 (below_drew (Below.refl _ _)))
      have HS := Lib.hid hW
      clear h1 h2 hW e1
      go_region
      · go_wp2
        go_meet
        case rel => exact ⟨_, _, rfl, rfl, ⟨by omega, HS.out, R1.out, R2.out, below_drew (below_alloc (below_alloc H0.out _) _)⟩⟩
      · go_wp2
        go_meet
        case rel => exact ⟨_, _, rfl, rfl, ⟨by omega, by have := HS.out; omega, R2.out, R1.out, below_drew (below_alloc (below_alloc H0.out _) _)⟩⟩
    case rest =>
      obtain ⟨gx, gz, rfl, rfl, hr⟩ := hcut
      go_wp2
      go_loopw [30] (fun v30 wr => ∃ (k : Nat) (zs : List UInt8), v30 = .int .i64 k ∧ k ≤ n ∧ Aside0 (zs.length = n ∧ (∀ i, i < k → gb zs i = gb a i ^^^ gb b i) ∧ kB.R 5 wr w.heap.size (fun k => k = gx) (.slice (some ⟨gx, 0, none⟩) n n) zs ∧ kB.R 5 wr w.heap.size (fun k => k = gz) (.slice (some ⟨gz, 0, none⟩) n n) (List.replicate n 0) ∧ Below w.heap.size w wr)) (fun v _ => n - (intOf v).toNat)
      case atStart => exact ⟨0, List.replicate n 0, rfl, Nat.zero_le _, ⟨by simp, fun i h => absurd h (by omega), hr.out.2.2.1, hr.out.2.2.2.1, hr.out.2.2.2.2⟩⟩
      case round =>
        obtain ⟨k, zs, rfl, hk, hs⟩ := hrel
        by_cases hlt : k < n
        · have k0 : (0 : Int) ≤ k := by omega
          have k1 : (k : Int) < n := by omega
          have ka : (k : Int) < a.length := by omega
          have kb : (k : Int) < b.length := by omega
          obtain ⟨ad, rfl, hcell⟩ := B_cell (Kd.C_below HX.out hs.out.2.2.2.2) (show k < a.length by omega)
          obtain ⟨bd, rfl, hcell2⟩ := B_cell (Kd.C_below HY.out hs.out.2.2.2.2) (show k < b.length by omega)
          obtain ⟨hc3, hf3⟩ := Kd.R_celln (enc := encB) 0 hs.out.2.2.1 (k : Int) k0 k1
          simp only [Int.toNat_natCast] at hc3 hf3
          have hxor := u8_xor_nat (gb a k).toNat (gb b k).toNat (gb a k).toNat_lt (gb b k).toNat_lt
          clear hlt
          go_wp2
          go_region
          go_wp2
          go_roundw
          case rel =>
            have hv : Value.int .u8 (((gb a k).toNat ^^^ (gb b k).toNat : Nat) : Int) = encB (gb a k ^^^ gb b k) := by unfold encB; rw [UInt8.toNat_xor]
            obtain ⟨q1, q2, q3, q4, q5⟩ := hs.out
            have hp := Kd.R_putn (enc := encB) q3 (k : Int) (gb a k ^^^ gb b k)
            simp only [Int.toNat_natCast] at hp
            refine ⟨k + 1, zs.set k (gb a k ^^^ gb b k), by go_num, by omega, ⟨by rw [List.length_set, q1], fun i hi => ?_, ?_, ?_, ?_⟩⟩
            · rw [gb_set _ _ _ (by omega)]
              by_cases hik : i = k
              · rw [if_pos hik, hik]
              · rw [if_neg hik]; exact q2 i (by omega)
            · rw [hv]
              exact Kd.R_below hp (below_drew (Below.refl _ _))
            · exact Kd.R_below (Kd.R_far q4 (fun j hj => by rw [hj]; exact fun e => hr.out.1 e.symm) _) (below_drew (Below.refl _ _))
            · exact below_drew (below_set q5 hr.out.2.1)
          case measure => simp [intOf]; omega
        · have k1 : ¬ (k : Int) < n := by omega
          obtain rfl : k = n := by omega
          obtain ⟨q1, q2, q3, q4, q5⟩ := hs.out
          obtain ⟨A0, hcut0, hD0, _⟩ := B_head (hi := k) (Kd.C_below HX.out q5) HN.out.1 HC.out k rfl
          obtain ⟨B0, hcut1, hD1, _⟩ := B_head (hi := k) (Kd.C_below HY.out q5) HN.out.2 HD.out k rfl
          obtain ⟨ta, hta⟩ : ∃ ta, ta = (a.take k).drop 0 := ⟨_, rfl⟩
          obtain ⟨tb, htb⟩ : ∃ tb, tb = (b.take k).drop 0 := ⟨_, rfl⟩
          rw [← hta] at hcut0 hD0
          rw [← htb] at hcut1 hD1
          have hla : ta.length = k := by rw [hta, List.length_drop, List.length_take]; have := HN.out.1; omega
          have hlb : tb.length = k := by rw [htb, List.length_drop, List.length_take]; have := HN.out.2; omega
          have hz : zs = xorL ta tb := by
            apply gb_ext
            · rw [xorL_len]; omega
            · intro i hi
              rw [xorL_get _ _ _ (by omega) (by omega), q2 i (by omega), hta, htb, List.drop_zero, List.drop_zero, gb_take _ _ _ (by omega), gb_take _ _ _ (by omega)]
          have hsum := sum_xor ta tb (by omega)
          rw [← hz, hla] at hsum
          have e1 := u32_xor_nat (sumN ta) (sumN tb) (sumN_lt _) (sumN_lt _)
          have e2 := u32_xor_nat (sumN ta ^^^ sumN tb) (sumN (List.replicate k 0)) (Nat.xor_lt_two_pow (n := 32) (sumN_lt _) (sumN_lt _)) (sumN_lt _)
          rw [← hsum] at e2
          have C1 := Aside0.mk (show kB.C wr (some ⟨gx, 0, none⟩) k zs by have := (Kd.R_reads' q3).2.2; rw [q1] at this; exact this)
          have C2 := Aside0.mk (show kB.C wr (some ⟨gz, 0, none⟩) k (List.replicate k 0) by have := (Kd.R_reads' q4).2.2; rw [List.length_replicate] at this; exact this)
          have C3 := Aside0.mk hD0
          have C4 := Aside0.mk hD1
          have hdec : (((sumN zs : Nat) : Int) == ((sumN zs : Nat) : Int)) = true := beq_self_eq_true _
          have H5 := Aside0.mk q5
          clear hlt q1 q2 q3 q4 q5 hD0 hD1 hta htb hla hlb hz hsum
          go_wp2
          go_quiet ((first
            | (go_at_call_of 9 (Value.slice (some ⟨gx, 0, none⟩) k k); exact Calls.quiet_of_same ((sum_n _ _ _ _ zs (Kd.C_drewN C1.out _)).mono fun _ _ ⟨h, k⟩ => ⟨h, k.symm⟩))
            | (go_at_call_of 9 (Value.slice A0 ta.length c); exact Calls.quiet_of_same ((sum_n _ _ _ _ ta (Kd.C_drewN C3.out _)).mono fun _ _ ⟨h, k⟩ => ⟨h, k.symm⟩))
            | (go_at_call_of 9 (Value.slice B0 tb.length d); exact Calls.quiet_of_same ((sum_n _ _ _ _ tb (Kd.C_drewN C4.out _)).mono fun _ _ ⟨h, k⟩ => ⟨h, k.symm⟩))
            | (go_at_call_of 9 (Value.slice (some ⟨gz, 0, none⟩) k k); exact Calls.quiet_of_same ((sum_n _ _ _ _ (List.replicate k 0) (Kd.C_drewN C2.out _)).mono fun _ _ ⟨h, k⟩ => ⟨h, k.symm⟩))))
          go_wp2
          go_ret
          exact ⟨rfl, pw_below_drewN H5.out _⟩
end Go.Proofs.Ythacedijfjcbcaa
