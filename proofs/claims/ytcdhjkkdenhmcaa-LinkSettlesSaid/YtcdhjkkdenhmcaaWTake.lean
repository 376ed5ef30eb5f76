/- wire: TakeUint, TakeInt, TakeBytes. -/
import Derived.Test.YtcdhjkkdenhmcaaWErr
import Derived.Test.YtcdhjkkdenhmcaaTakeF
import Derived.Lib.SliceRun
namespace Go.Proofs.Ytcdhjkkdenhmcaa
open Go.RowKit Go.Proofs.YtcdhjkkdenhmcaaW.PrintWords Go.Proofs.YtcdhjkkdenhmcaaW.PrintLast Go.Proofs.YtcdhjkkdenhmcaaW.PrintMore
set_option linter.unusedVariables false
set_option linter.unusedSimpArgs false

/-- TakeUint: the number, the place behind it, the error. -/
def takeU (b : List UInt8) (from_ : Int) : Nat × Int × Er :=
  if 0 ≤ from_ ∧ from_ ≤ b.length then
    match tkU (b.drop from_.toNat) 0 0 with
    | .ok x n => (x, from_ + n, .ok)
    | .form i => (0, 0, .at_ 1 (from_ + i) 3)
    | .short => (0, 0, .at_ 1 b.length 6)
  else (0, 0, .num 1)
def TakeUPost (w : World) (b : List UInt8) (from_ : Int) (e : Ending) (w' : World) : Prop :=
  ∃ v, e = .returned (.tuple #[.int .u64 ((takeU b from_).1 : Nat), .int .i64 (takeU b from_).2.1, v]) ∧ IsEr w' w.heap.size (takeU b from_).2.2 v ∧ Below w.heap.size w w'

theorem and127 (t : Nat) (h : t < 256) : bits .and .u8 (t : Int) 127 = ((t % 128 : Nat) : Int) := by
  rw [show (127 : Int) = ((127 : Nat) : Int) from rfl, u8_and_nat _ _ h (by decide)]
  congr 1
  exact Nat.and_two_pow_sub_one_eq_mod t 7

theorem orShift (x n k : Nat) (hx : x < 2 ^ (7 * k)) (hk : k ≤ 9) (hn : n < 256) (h9 : ¬ (k = 9 ∧ 1 < n ∨ 0 < k ∧ n = 0)) :
    bits .or .u64 (x : Int) (IntKind.u64.wrap ((n : Int) % 128 * 2 ^ (7 * k))) = ((x + n % 128 * 2 ^ (7 * k) : Nat) : Int) := by
  have hm : n % 128 * 2 ^ (7 * k) < 18446744073709551616 := by
    rcases Nat.lt_or_ge k 9 with h | h
    · have h1 : n % 128 * 2 ^ (7 * k) ≤ 127 * 2 ^ 56 := Nat.mul_le_mul (by omega) (Nat.pow_le_pow_right (by omega) (by omega))
      omega
    · obtain rfl : k = 9 := by omega
      have h1 : n % 128 * 2 ^ (7 * 9) ≤ 1 * 2 ^ 63 := Nat.mul_le_mul (by omega) (Nat.pow_le_pow_right (by omega) (by omega))
      omega
  have hx2 : x < 18446744073709551616 := by
    have : 2 ^ (7 * k) ≤ 2 ^ 63 := Nat.pow_le_pow_right (by omega) (by omega)
    omega
  have e1 : ((n : Int) % 128 * 2 ^ (7 * k)) = ((n % 128 * 2 ^ (7 * k) : Nat) : Int) := by simp
  have e2 : ((n % 128 * 2 ^ (7 * k) : Nat) : Int) % 18446744073709551616 = ((n % 128 * 2 ^ (7 * k) : Nat) : Int) := Int.emod_eq_of_lt (by omega) (by omega)
  rw [IntKind.wrap_u64, e1, e2, u64_or_nat _ _ hx2 hm]
  congr 1
  have h := Nat.two_pow_add_eq_or_of_lt hx (n % 128)
  rw [Nat.or_comm, Nat.mul_comm, ← h]
  exact Nat.add_comm _ _
theorem u64_eq {a b : Int} (h : a = b) : Value.int .u64 a = Value.int .u64 b := by rw [h]

set_option maxRecDepth 100000 in
set_option maxHeartbeats 2000000 in
theorem takeUint_calls (w : World) (A : Option Addr) (c : Nat) (b : List UInt8) (from_ : Int) (hx : kB.C w A b.length b) (hc : b.length ≤ c) (hl : b.length ≤ 1099511627776) :
    Calls Try.prog 30 #[.slice A b.length c, .int .i64 from_] w (TakeUPost w b from_) := by
  have HX := Lib.hid hx
  have HC := Lib.hid hc
  have hl1 : (b.length : Int) ≤ 1099511627776 := by omega
  clear hx
  by_cases h0 : from_ < 0
  · have HE := Lib.hid (show takeU b from_ = (0, 0, .num 1) by unfold takeU; rw [if_neg (by omega)])
    go_enter Try.func30, Try.ntmps30
    go_wp2
    go_ret3
    unfold TakeUPost
    rw [HE.out]
    exact ⟨_, rfl, rfl, Below.refl _ _⟩
  · by_cases h1 : (b.length : Int) < from_
    · have HE := Lib.hid (show takeU b from_ = (0, 0, .num 1) by unfold takeU; rw [if_neg (by omega)])
      go_enter Try.func30, Try.ntmps30
      go_wp2
      go_ret3
      unfold TakeUPost
      rw [HE.out]
      exact ⟨_, rfl, rfl, Below.refl _ _⟩
    · obtain ⟨f, rfl⟩ := Int.eq_ofNat_of_zero_le (Int.not_lt.1 h0)
      have hf : f ≤ b.length := by omega
      have HE := Lib.hid (show takeU b (f : Int) = match tkU (b.drop f) 0 0 with | .ok x n => (x, (f : Int) + n, .ok) | .form i => (0, 0, .at_ 1 ((f : Int) + i) 3) | .short => (0, 0, .at_ 1 b.length 6) by
        unfold takeU; rw [if_pos (by omega)]; rfl)
      have HF := Lib.hid hf
      have f0 : (0 : Int) ≤ f := by omega
      have f1 : (f : Int) ≤ b.length := by omega
      have f2 : (f : Int) ≤ c := by omega
      clear h0 h1
      obtain ⟨rest, hrest⟩ : ∃ rest, rest = b.drop f := ⟨_, rfl⟩
      obtain ⟨A', hcut, hD, hc2⟩ := B_cut HX.out hf hc
      rw [← hrest] at hcut hD hc2
      have HD := Aside0.mk hD
      have hrl : (rest.length : Int) ≤ 1099511627776 := by rw [hrest, List.length_drop]; omega
      have HRL := Lib.hid (show rest.length = b.length - f by rw [hrest, List.length_drop])
      rw [← hrest] at HE
      have HQ := Lib.hid hrest
      have d1 : decide ((f : Int) < 0) = false := by simp
      have d2 : decide (b.length < f) = false := by simp; omega
      clear hrest hf hD hc2
      go_enter Try.func30, Try.ntmps30
      go_wp2
      go_loop [7, 23] (fun v7 v => ∃ (k x : Nat), v = .int .i64 k ∧ k ≤ rest.length ∧ v7 = .int .u64 x ∧ Hid (tkU rest 0 0 = tkU (rest.drop k) k x ∧ k ≤ 9 ∧ x < 2 ^ (7 * k))) (fun _ v => rest.length - (intOf v).toNat)
      case atStart => exact ⟨0, 0, rfl, Nat.zero_le _, rfl, ⟨rfl, by omega, by decide⟩⟩
      case round =>
        obtain ⟨k, x, rfl, hk, rfl, ht⟩ := hrel
        by_cases hlt : k < rest.length
        · obtain ⟨ad, rfl, hcell⟩ := B_cell HD.out hlt
          have k0 : (0 : Int) ≤ k := by omega
          have k1 : (k : Int) < rest.length := by omega
          obtain ⟨d, hd⟩ : ∃ d, d = gb rest k := ⟨_, rfl⟩
          rw [← hd] at hcell
          obtain ⟨n, hn⟩ : ∃ n, n = d.toNat := ⟨_, rfl⟩
          rw [← hn] at hcell
          have hn8 : n < 256 := by rw [hn]; exact d.toNat_lt
          have n1 : (n : Int) ≤ 255 := by omega
          have k9 : (k : Int) ≤ 9 := by have := ht.out.2.1; omega
          have x1 : (x : Int) ≤ 18446744073709551615 := by
            have := ht.out.2
            have : 2 ^ (7 * k) ≤ 2 ^ 63 := Nat.pow_le_pow_right (by omega) (by omega)
            omega
          have HS := Lib.hid (show tkU (rest.drop k) k x = if (k = 9 ∧ 1 < n) ∨ (0 < k ∧ n = 0) then .form k else if n < 128 then .ok (x + n % 128 * 2 ^ (7 * k)) (k + 1) else tkU (rest.drop (k + 1)) (k + 1) (x + n % 128 * 2 ^ (7 * k)) by
            rw [List.drop_eq_getElem_cons hlt, hn, hd, gb_get rest k hlt]
            rfl)
          have h127 := and127 n hn8
          have HL := Lib.hid hlt
          clear hlt hd hn
          go_upto_region 7 with (fail)
          obtain ⟨B, hB⟩ : ∃ B : Bool, B = decide ((k = 9 ∧ 1 < n) ∨ (0 < k ∧ n = 0)) := ⟨_, rfl⟩
          have HB := Lib.hid hB
          clear hB
          go_cut [41] (fun s41 wx => s41 = .bool B ∧ wx = w)
          case first =>
            by_cases e1 : k = 9
            · have b1 : ((k : Int) == 9) = true := beq_iff_eq.2 (by omega)
              by_cases e2 : 1 < n
              · have e2' : (1 : Int) < n := by omega
                have HV := Lib.hid (show B = true by rw [HB.out, decide_eq_true_iff]; omega)
                clear e1 e2
                go_wp2
                go_meet
                case rel => rw [HV.out]; exact ⟨rfl, rfl⟩
              · have e2' : ¬ (1 : Int) < n := by omega
                have e3 : (0 : Int) < k := by omega
                by_cases e4 : n = 0
                · have b4 : ((n : Int) == 0) = true := beq_iff_eq.2 (by omega)
                  have HV := Lib.hid (show B = true by rw [HB.out, decide_eq_true_iff]; omega)
                  clear e1 e2 e4
                  go_wp2
                  go_meet
                  case rel => rw [HV.out]; exact ⟨rfl, rfl⟩
                · have b4 : ((n : Int) == 0) = false := beq_eq_false_iff_ne.2 (by omega)
                  have HV := Lib.hid (show B = false by rw [HB.out, decide_eq_false_iff_not]; omega)
                  clear e1 e2 e4
                  go_wp2
                  go_meet
                  case rel => rw [HV.out]; exact ⟨rfl, rfl⟩
            · have b1 : ((k : Int) == 9) = false := beq_eq_false_iff_ne.2 (by omega)
              by_cases e3 : 0 < k
              · have e3' : (0 : Int) < k := by omega
                by_cases e4 : n = 0
                · have b4 : ((n : Int) == 0) = true := beq_iff_eq.2 (by omega)
                  have HV := Lib.hid (show B = true by rw [HB.out, decide_eq_true_iff]; omega)
                  clear e1 e3 e4
                  go_wp2
                  go_meet
                  case rel => rw [HV.out]; exact ⟨rfl, rfl⟩
                · have b4 : ((n : Int) == 0) = false := beq_eq_false_iff_ne.2 (by omega)
                  have HV := Lib.hid (show B = false by rw [HB.out, decide_eq_false_iff_not]; omega)
                  clear e1 e3 e4
                  go_wp2
                  go_meet
                  case rel => rw [HV.out]; exact ⟨rfl, rfl⟩
              · have e3' : ¬ (0 : Int) < k := by omega
                have HV := Lib.hid (show B = false by rw [HB.out, decide_eq_false_iff_not]; omega)
                clear e1 e3
                go_wp2
                go_meet
                case rel => rw [HV.out]; exact ⟨rfl, rfl⟩
          case rest =>
            obtain ⟨rfl, hwc⟩ := hcut
            subst hwc
            cases B with
            | true =>
              have hd := of_decide_eq_true HB.out.symm
              have HV := Lib.hid (show takeU b (f : Int) = (0, 0, .at_ 1 ((f : Int) + k) 3) by rw [HE.out, ht.out.1, HS.out, if_pos hd])
              clear hd HB HS
              go_wp2_with (go_at_call 39; refine (at_calls _ _ _).mono ?_; rintro e w1 ⟨v, rfl, hv, hb⟩; have HVV := Aside0.mk hv; have HBB := Aside0.mk hb; clear hv hb)
              go_ret3
              unfold TakeUPost
              rw [HV.out]
              exact ⟨_, rfl, HVV.out, HBB.out⟩
            | false =>
              have hd := of_decide_eq_false HB.out.symm
              have HD2 := Lib.hid hd
              clear hd HB
              by_cases hs : n < 128
              · have n2 : (n : Int) < 128 := by omega
                have HV := Lib.hid (show takeU b (f : Int) = (x + n % 128 * 2 ^ (7 * k), (f : Int) + (k + 1 : Nat), .ok) by rw [HE.out, ht.out.1, HS.out, if_neg HD2.out, if_pos hs])
                have HO := Lib.hid (orShift x n k ht.out.2.2 ht.out.2.1 hn8 HD2.out)
                clear hs HS
                go_wp2
                go_ret3
                unfold TakeUPost
                rw [HV.out]
                refine ⟨_, ?_, rfl, Below.refl _ _⟩
                show Ending.returned (.tuple #[.int .u64 _, .int .i64 _, .nilIface]) = _
                rw [HO.out]
                have e : ((f : Int) + k + 1) = (f : Int) + (k + 1 : Nat) := by omega
                rw [e]
              · have n2 : ¬ (n : Int) < 128 := by omega
                have HV := Lib.hid (show tkU rest 0 0 = tkU (rest.drop (k + 1)) (k + 1) (x + n % 128 * 2 ^ (7 * k)) by rw [ht.out.1, HS.out, if_neg HD2.out, if_neg hs])
                have HO := Lib.hid (orShift x n k ht.out.2.2 ht.out.2.1 hn8 HD2.out)
                have HN := Lib.hid hs
                clear hs HS
                go_wp2
                go_round
                case rel =>
                  refine ⟨k + 1, x + n % 128 * 2 ^ (7 * k), by go_num, by have := HL.out; omega, u64_eq HO.out, HV.out, ?_, ?_⟩
                  · have := HD2.out; have := HN.out; have := ht.out.2.1; omega
                  · have e : 7 * (k + 1) = 7 * k + 7 := by omega
                    rw [e, Nat.pow_add]
                    have h1 : n % 128 * 2 ^ (7 * k) ≤ 127 * 2 ^ (7 * k) := Nat.mul_le_mul_right _ (by omega)
                    have h2 := ht.out.2.2
                    omega
                case measure => have := HL.out; simp [intOf]; omega
        · have k1 : ¬ (k : Int) < rest.length := by omega
          have HV := Lib.hid (show takeU b (f : Int) = (0, 0, .at_ 1 b.length 6) by rw [HE.out, ht.out.1, List.drop_of_length_le (by omega)]; rfl)
          clear hlt
          go_wp2_with (go_at_call 39; refine (at_calls _ _ _).mono ?_; rintro e w1 ⟨v, rfl, hv, hb⟩; have HVV := Aside0.mk hv; have HBB := Aside0.mk hb; clear hv hb)
          go_ret3
          unfold TakeUPost
          rw [HV.out]
          exact ⟨_, rfl, HVV.out, HBB.out⟩
end Go.Proofs.Ytcdhjkkdenhmcaa
