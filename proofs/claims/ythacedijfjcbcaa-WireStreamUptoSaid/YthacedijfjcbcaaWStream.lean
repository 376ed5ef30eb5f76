/- wire: the walk of WireStream. -/
import Derived.Test.YthacedijfjcbcaaWStreamF
import Derived.Test.YthacedijfjcbcaaWList
namespace Go.Proofs.Ythacedijfjcbcaa
open Go.RowKit Go.Proofs.YthacedijfjcbcaaW.PrintWords Go.Proofs.YthacedijfjcbcaaW.PrintLast Go.Proofs.YthacedijfjcbcaaW.PrintMore
set_option linter.unusedVariables false
set_option linter.unusedSimpArgs false

def kI : Kd Int := Kd.int .i64
theorem info3 : (Try.prog.info? 3).map (fun i => (i.zero, i.size, i.bytes)) = some (some (.int .i64 0), 1, 8) := by kernel_rfl
/-- Rows of two kinds do not share a block. -/
theorem ints_apart {W w1 : World} {base base' : Nat} {u v : Value} {ys : List Int} {xs : List UInt8} (h : kI.R 3 W base (fun _ => True) u ys) (hb : kB.R 5 W base' (fun _ => True) v xs) (hg : W.grownBy w1 v.ownBlock) : kI.R 3 w1 base (fun _ => True) u ys := by
  refine Kd.R_mono (Kd.R_grown (Kd.R_bound h) hg (fun k hk he => ?_)) (fun _ _ => trivial)
  obtain ⟨cells, hc⟩ := own_typed (Kd.own_of_R (enc := encB) hb) k he.symm
  obtain ⟨q, hq, cells', hc'⟩ := hk.2.2.2
  have hq' : q = 3 := by simpa [kI, Kd.int, Kd.scalar] using hq
  rw [hc'] at hc
  injection hc with hc
  injection hc with _ h2
  rw [hq'] at h2
  exact absurd h2 (by decide)
theorem bytes_apart {W w1 : World} {base base' : Nat} {u v : Value} {ys : List Int} {xs : List UInt8} (h : kI.R 3 W base (fun _ => True) u ys) (hb : kB.R 5 W base' (fun _ => True) v xs) (hg : W.grownBy w1 u.ownBlock) : kB.R 5 w1 base' (fun _ => True) v xs := by
  refine Kd.R_mono (Kd.R_grown (Kd.R_bound hb) hg (fun k hk he => ?_)) (fun _ _ => trivial)
  obtain ⟨cells, hc⟩ := own_typed (Kd.own_of_R (enc := Value.int .i64) (h1 := fun _ => rfl) h) k he.symm
  obtain ⟨q, hq, cells', hc'⟩ := hk.2.2.2
  have hq' : q = 5 := by simpa [kB, Kd.scalar] using hq
  rw [hc'] at hc
  injection hc with hc
  injection hc with _ h2
  rw [hq'] at h2
  exact absurd h2 (by decide)
section
variable {W : World} {ops : Array Oper} {rest : List Oper} {o : Oper} {a : Act} {Q : Exit → Act → World → Prop}
theorem app_bytesK (hi : Nat) (hgd : o.guard = none) (s x : Operand)
    (ho : o.op = .call { callee := .builtin .append, args := #[s, x], argTypes := #[22, 22] }) (v : Value) (xs ys : List UInt8) (A : Option Addr) (n c : Nat) (hs : a.eval s = v) (hx : a.eval x = .slice A n c)
    (HO : kB.R 5 W hi (fun _ => True) v xs) (HR : kB.C W A n ys) (hb : hi ≤ W.heap.size) (hl : xs.length + n ≤ 140737488355328)
    (h : ∀ v1 w1, kB.R 5 w1 hi (fun _ => True) v1 (xs ++ ys) → Below hi W w1 → W.grownBy w1 v.ownBlock → wpList Try.prog ops Q rest (a.put o.dst v1) w1) : wpList Try.prog ops Q (o :: rest) a W :=
  Kd.R_append_rows kB (w0 := W) hi hgd s x _ 5 (.int .u8 0) 1 ho Try.underlying22 info5 rfl (by decide) (by omega) v xs ys A n c (fun _ => True) (fun _ => False) hs hx HO HR (fun _ _ h => h) (fun _ hk => hk.elim) (fun _ _ => trivial) (Below.refl _ _) hb (by omega)
    fun v1 w1 h1 h2 h3 _ => h v1 w1 h1 h2 h3
theorem app_intK (base : Nat) (hgd : o.guard = none) (s x : Operand)
    (ho : o.op = .call { callee := .builtin .append, args := #[s, x], argTypes := #[36, 36] }) (v : Value) (xs : List Int) (b : Int) (hs : a.eval s = v) (hx : a.eval x = .slice (some ⟨W.heap.size, 0, none⟩) 1 1)
    (HO : kI.R 3 W base (fun _ => True) v xs) (hb : base ≤ W.heap.size) (hl : xs.length + 1 ≤ 1099511627776)
    (h : ∀ v1 w1, kI.R 3 w1 base (fun _ => True) v1 (xs ++ [b]) → Below base W w1 → W.grownBy w1 v.ownBlock → wpList Try.prog ops Q rest (a.put o.dst v1) w1) : wpList Try.prog ops Q (o :: rest) a (W.alloc (.cells #[.int .i64 b] 3)) :=
  Kd.R_append kI (w0 := W) base hgd s x _ 3 (.int .i64 0) 8 ho Try.underlying36 info3 rfl (by decide) (by omega) v xs b [.int .i64 b] (fun _ => True) (fun _ => False) hs hx rfl (fun _ hk => hk.elim) (fun _ _ => trivial) HO (Below.refl _ _) hb (by omega)
    fun v1 w1 h1 h2 h3 _ => h v1 w1 h1 h2 h3
end
/-- The places behind the first i frames. -/
def endsF (l : List (List UInt8)) (i : Nat) : List Int := (List.range i).map fun j => ((endF l (j + 1) : Nat) : Int)
theorem endsF_len (l : List (List UInt8)) (i : Nat) : (endsF l i).length = i := by simp [endsF]
theorem endsF_step (l : List (List UInt8)) (i : Nat) : endsF l (i + 1) = endsF l i ++ [((endF l (i + 1) : Nat) : Int)] := by
  simp [endsF, List.range_succ]
theorem flat_len : ∀ (l : List (List UInt8)) (i : Nat), (∀ j, j < i → (gl l j).length ≤ 300) → i ≤ l.length → (flatF (l.take i)).length ≤ i * 308
  | l, 0, _, _ => by simp [flatF]
  | l, i + 1, h, hi => by
    rw [endF_step l i (by omega), List.length_append, frameF_len, ← gl_get l i (by omega)]
    have := flat_len l i (fun j hj => h j (by omega)) (by omega)
    have := h i (by omega)
    omega

set_option maxRecDepth 100000 in
set_option maxHeartbeats 4000000 in
theorem stream_walk (w : World) (A : Option Addr) (c : Nat) (l : List (List UInt8)) (cut : Int) (hx : kBs.C w A l.length l) (hc : l.length ≤ c) :
    Calls Try.prog 5 #[.slice A l.length c, .int .i64 cut] w fun e w' => e = .returned (.bool true) ∧ Below w.heap.size w w' := by
  have HX := Lib.hid hx
  have HC := Lib.hid hc
  have hm : (l.length : Int) ≤ 9223372036854775807 := by have := hx.2.1; omega
  clear hx hc
  by_cases h3 : 30 < l.length
  · have h3' : (30 : Int) < l.length := by omega
    clear h3
    go_enter Try.func5, Try.ntmps5
    go_wp2_with (go_at_call 8; refine (awake_calls _).mono ?_; rintro e w0 ⟨rfl, hb⟩; have H0 := Aside0.mk hb; clear hb)
    go_ret
    exact ⟨rfl, H0.out⟩
  · have h3' : ¬ (30 : Int) < l.length := by omega
    have HL := Lib.hid (show l.length ≤ 30 by omega)
    clear h3
    go_enter Try.func5, Try.ntmps5
    go_wp2_with (go_at_call 8; refine (awake_calls _).mono ?_; rintro e w0 ⟨rfl, hb⟩; have H0 := Aside0.mk hb; clear hb)
    go_loopw [5, 6, 22] (fun v5 v6 v22 wr => ∃ i : Nat, v22 = .int .i64 i ∧ i ≤ l.length ∧ Aside0 (kB.R 5 wr w.heap.size (fun _ => True) v5 (flatF (l.take i)) ∧ kI.R 3 wr w.heap.size (fun _ => True) v6 (endsF l i) ∧ (∀ j, j < i → (gl l j).length ≤ 300) ∧ Below w.heap.size w wr)) (fun _ _ v _ => l.length - (intOf v).toNat)
    case atStart => exact ⟨0, rfl, Nat.zero_le _, ⟨Kd.R_nil _ _ _ _ _, Kd.R_nil _ _ _ _ _, fun j hj => absurd hj (by omega), H0.out⟩⟩
    case round =>
      obtain ⟨i, rfl, hi, HI⟩ := hrel
      obtain ⟨fl, hfl⟩ : ∃ fl, fl = flatF (l.take i) := ⟨_, rfl⟩
      obtain ⟨es, hes⟩ : ∃ es, es = endsF l i := ⟨_, rfl⟩
      have hfll : fl.length ≤ 9240 := by
        have := flat_len l i HI.out.2.2.1 hi
        rw [hfl]; have := HL.out; omega
      have hesl : es.length = i := by rw [hes, endsF_len]
      have hr5 := HI.out.1
      have hr6 := HI.out.2.1
      rw [← hfl] at hr5
      rw [← hes] at hr6
      obtain ⟨A5, c5, rfl, hc5, hC5⟩ := Kd.R_reads hr5
      obtain ⟨A6, c6, rfl, hc6, hC6⟩ := Kd.R_reads hr6
      have HFL := Lib.hid hfl
      have HES := Lib.hid hes
      have HFLL := Lib.hid hfll
      have HR5 := Aside0.mk hr5
      have HR6 := Aside0.mk hr6
      have HC5 := Lib.hid hc5
      have HCC5 := Aside0.mk hC5
      have HCC6 := Aside0.mk hC6
      have HESL := Lib.hid hesl
      have hfli : (fl.length : Int) ≤ 9240 := by omega
      have hesi : (es.length : Int) ≤ 30 := by have := HL.out; omega
      clear hfl hes hfll hesl hr5 hr6 hc5 hC5 hc6 hC6
      by_cases hlt : i < l.length
      · obtain ⟨ad, A0, c0, rfl, h1, _, h2⟩ := L_cell (Kd.C_below HX.out HI.out.2.2.2) hlt
        obtain ⟨p, hp⟩ : ∃ p, p = gl l i := ⟨_, rfl⟩
        rw [← hp] at h1 h2
        have hpm : (p.length : Int) ≤ 9223372036854775807 := by have := h2.2.1; omega
        have H2 := Aside0.mk h2
        have HP := Lib.hid hp
        have HLT := Lib.hid hlt
        have i0 : (0 : Int) ≤ i := by omega
        have i1 : (i : Int) < l.length := by omega
        clear h2 hp hlt
        by_cases h300 : 300 < p.length
        · have h300' : (300 : Int) < p.length := by omega
          clear h300
          go_wp2
          go_ret
          exact ⟨rfl, HI.out.2.2.2⟩
        · have h300' : ¬ (300 : Int) < p.length := by omega
          have HP3 := Lib.hid (show p.length ≤ 300 by omega)
          obtain ⟨f, hf⟩ : ∃ f, f = frameF p := ⟨_, rfl⟩
          obtain ⟨fl2, hfl2⟩ : ∃ fl2, fl2 = fl ++ f := ⟨_, rfl⟩
          have HF := Lib.hid hf
          have HFl := Lib.hid (show f.length ≤ 308 by rw [hf, frameF_len]; omega)
          have HFL2 := Lib.hid hfl2
          clear h300 hf hfl2
          go_wp2_with (first
            | (at_builtin; refine app_intK w.heap.size rfl _ _ rfl (.slice A6 es.length c6) es (fl2.length : Int) rfl rfl HR6b.out (Nat.le_trans HI.out.2.2.2.size (Nat.le_trans HB1.out.size HB2.out.size)) (by have := HESL.out; have := HL.out; omega) ?_; intro v3 w3 hr hb hg; have HR3 := Aside0.mk hr; have HB3 := Aside0.mk hb; have HG3 := Aside0.mk hg; clear hr hb hg)
            | (at_builtin; refine app_bytesK w.heap.size rfl _ _ rfl (.slice A5 fl.length c5) fl f A1 f.length c1 rfl rfl (Kd.R_below HR5.out HB1.out) HC1.out (Nat.le_trans HI.out.2.2.2.size HB1.out.size) (by have := HFLL.out; have := HFl.out; omega) ?_; intro v2 w2 hr hb hg; rw [← HFL2.out] at hr; obtain ⟨A2, c2, rfl, hc2, hC2⟩ := Kd.R_reads hr; have HR6b := Aside0.mk (ints_apart (Kd.R_below HR6.out HB1.out) (Kd.R_below HR5.out HB1.out) hg); have HR2 := Aside0.mk hr; have HB2 := Aside0.mk hb; clear hr hb hg hc2 hC2)
            | (go_at_call 19; refine (frame_calls _ _ _ p H2.out (by have := HP3.out; omega)).mono ?_; intro e w1 h; rw [← HF.out] at h; obtain ⟨A1, c1, rfl, _, hr, hb⟩ := h; have HC1 := Aside0.mk (Kd.R_reads' hr).2.2; have HB1 := Aside0.mk hb; clear hb hr))
          go_roundw
          case rel =>
            have e1 : flatF (l.take (i + 1)) = fl2 := by
              rw [endF_step l i HLT.out, ← gl_get l i HLT.out, ← HP.out, ← HF.out, ← HFL.out, HFL2.out]
            refine ⟨i + 1, by go_num, by have := HLT.out; omega, ⟨?_, ?_, fun j hj => ?_, ?_⟩⟩
            · rw [e1]
              exact bytes_apart HR6b.out HR2.out HG3.out
            · rw [endsF_step, ← HES.out]
              have e2 : ((endF l (i + 1) : Nat) : Int) = (fl2.length : Int) := by unfold endF; rw [e1]
              rw [e2]
              exact HR3.out
            · rcases Nat.lt_or_ge j i with hji | hji
              · exact HI.out.2.2.1 j hji
              · rw [show j = i by omega, ← HP.out]; exact HP3.out
            · exact below_weaken (below_weaken (below_step HI.out.2.2.2 HB1.out) (Nat.le_refl _) HB2.out) (Nat.le_refl _) HB3.out
          case measure => have := HLT.out; simp [intOf]; omega
      · have i1 : ¬ (i : Int) < l.length := by omega
        obtain rfl : i = l.length := by omega
        clear hlt
        have efl : fl = flatF l := by rw [HFL.out, List.take_length]
        have ees : es.length = l.length := HESL.out
        obtain ⟨B, hB⟩ : ∃ B : Bool, B = decide (cut < 0 ∨ (fl.length : Int) < cut) := ⟨_, rfl⟩
        obtain ⟨m, hmm⟩ : ∃ m : Nat, m = if B = true then fl.length else cut.toNat := ⟨_, rfl⟩
        have hm1 : m ≤ fl.length := by
          rw [hmm]
          cases B with
          | true => simp
          | false =>
            have := of_decide_eq_false hB.symm
            simp; omega
        have HEF := Lib.hid efl
        have HEE := Lib.hid ees
        have HB := Lib.hid hB
        have HMM := Lib.hid hmm
        have HM1 := Lib.hid hm1
        have h6l : (es.length : Int) = l.length := by omega
        clear efl ees hB hmm
        go_upto_region 18 with (fail)
        go_cut [52] (fun s wx => s = .bool B ∧ wx = wr)
        case first =>
          by_cases c1 : cut < 0
          · have HV := Lib.hid (show B = true by rw [HB.out, decide_eq_true_iff]; omega)
            go_wp2
            go_meet
            case rel => rw [HV.out]; exact ⟨rfl, rfl⟩
          · have d1 : decide (cut < 0) = false := decide_eq_false c1
            by_cases c2 : (fl.length : Int) < cut
            · have HV := Lib.hid (show B = true by rw [HB.out, decide_eq_true_iff]; omega)
              go_wp2
              go_meet
              case rel => rw [HV.out]; exact ⟨rfl, rfl⟩
            · have HV := Lib.hid (show B = false by rw [HB.out, decide_eq_false_iff_not]; omega)
              go_wp2
              go_meet
              case rel => rw [HV.out]; exact ⟨rfl, rfl⟩
        case rest =>
          obtain ⟨rfl, hwc⟩ := hcut
          subst hwc
          go_upto_if 52 with (fail)
          go_cut [1] (fun s wx => s = .int .i64 m ∧ wx = wc)
          case first =>
            cases B with
            | true =>
              have HV := Lib.hid (show m = fl.length by rw [HMM.out, if_pos rfl])
              go_wp2
              go_meet
              case rel => rw [HV.out]; exact ⟨rfl, rfl⟩
            | false =>
              have HV := Lib.hid (show (m : Int) = cut by rw [HMM.out, if_neg (by decide)]; have := of_decide_eq_false HB.out.symm; omega)
              go_wp2
              go_meet
              case rel => rw [HV.out]; exact ⟨rfl, rfl⟩
          case rest =>
            obtain ⟨rfl, hwc⟩ := hcut
            subst hwc
            go_wp2
            have mI : (m : Int) ≤ fl.length := by have := HM1.out; omega
            have m0 : (0 : Int) ≤ m := by omega
            go_loop [11, 12] (fun v11 v12 => ∃ k : Nat, v11 = .int .i64 k ∧ v12 = .int .i64 (endF l k : Nat) ∧ k ≤ l.length ∧ Hid (∀ j, j < k → endF l (j + 1) ≤ m)) (fun v _ => l.length - (intOf v).toNat)
            case atStart => exact ⟨0, rfl, by simp [endF, flatF], Nat.zero_le _, fun j hj => absurd hj (by omega)⟩
            case round =>
              obtain ⟨k, rfl, rfl, hk, HK⟩ := hrel
              obtain ⟨D, hD⟩ : ∃ D : Bool, D = decide (k < l.length ∧ endF l (k + 1) ≤ m) := ⟨_, rfl⟩
              have HD := Lib.hid hD
              have HKL := Lib.hid hk
              obtain ⟨ek, hek⟩ : ∃ ek, ek = endF l k := ⟨_, rfl⟩
              obtain ⟨e1, he1⟩ : ∃ e1, e1 = endF l (k + 1) := ⟨_, rfl⟩
              rw [← hek]
              rw [← he1] at HD
              have HEK := Lib.hid hek
              have HE1 := Lib.hid he1
              have hcell : k < l.length → ∃ ad, A6 = some ad ∧ wc.cell? (ad.add k) = some (.int .i64 (e1 : Int)) := fun h => by
                obtain ⟨ad, e, hc⟩ := ReadsOf.at_ (Kd.reads_of_C (enc := Value.int .i64) (d := (0 : Int)) (h1 := fun _ => rfl) HCC6.out) (k : Int) (by omega) (by rw [HEE.out]; omega)
                refine ⟨ad, e, ?_⟩
                rw [Int.toNat_natCast] at hc
                rw [hc]
                have : rdOf 0 es (k : Int) = (e1 : Int) := by
                  rw [HES.out, HE1.out]
                  simp [rdOf, endsF, h]
                rw [this]
              have e1n : (0 : Int) ≤ e1 := by omega
              have e1l : (e1 : Int) ≤ 9223372036854775807 := by
                have := endF_le l (k + 1)
                rw [← he1, ← HEF.out] at this
                omega
              clear hD hek he1 hk
              go_upto_region 21 with (fail)
              go_cut [66] (fun s wx => s = .bool D ∧ wx = wc)
              case first =>
                by_cases hkl : k < l.length
                · obtain ⟨ad, rfl, hc1⟩ := hcell hkl
                  have k0 : (0 : Int) ≤ k := by omega
                  have k1 : (k : Int) < l.length := by omega
                  have k2 : (k : Int) < es.length := by omega
                  by_cases hle : e1 ≤ m
                  · have hle' : (e1 : Int) ≤ m := by omega
                    have HV := Lib.hid (show D = true by rw [HD.out, decide_eq_true_iff]; exact ⟨hkl, hle⟩)
                    clear hkl hle hcell
                    go_wp2
                    go_meet
                    case rel => rw [HV.out]; exact ⟨rfl, rfl⟩
                  · have hle' : ¬ (e1 : Int) ≤ m := by omega
                    have HV := Lib.hid (show D = false by rw [HD.out, decide_eq_false_iff_not]; omega)
                    clear hkl hle hcell
                    go_wp2
                    go_meet
                    case rel => rw [HV.out]; exact ⟨rfl, rfl⟩
                · have k2 : ¬ (k : Int) < es.length := by omega
                  have d2 : decide ((k : Int) < es.length) = false := decide_eq_false k2
                  have HV := Lib.hid (show D = false by rw [HD.out, decide_eq_false_iff_not]; omega)
                  clear hkl hcell
                  go_wp2
                  go_meet
                  case rel => rw [HV.out]; exact ⟨rfl, rfl⟩
              case rest =>
                obtain ⟨rfl, hwc⟩ := hcut
                subst hwc
                cases D with
                | true =>
                  obtain ⟨hkl, hle⟩ := of_decide_eq_true HD.out.symm
                  obtain ⟨ad, rfl, hc1⟩ := hcell hkl
                  have k0 : (0 : Int) ≤ k := by omega
                  have k1 : (k : Int) < l.length := by omega
                  have k2 : (k : Int) < es.length := by omega
                  have HKK := Lib.hid hkl
                  have HLE := Lib.hid hle
                  clear hkl hle hcell
                  go_wp2
                  go_round
                  case rel =>
                    refine ⟨k + 1, by go_num, by rw [HE1.out], by have := HKK.out; omega, fun j hj => ?_⟩
                    rcases Nat.lt_or_ge j k with h | h
                    · exact HK.out j h
                    · rw [show j = k by omega, ← HE1.out]; exact HLE.out
                  case measure => have := HKK.out; simp [intOf]; omega
                | false =>
                  have hno := of_decide_eq_false HD.out.symm
                  have hkl := HKL.out
                  have hcnt : cntF l m = k := cnt_unique l m k hkl HK.out (by
                    rcases Nat.lt_or_ge k l.length with h | h
                    · right
                      rw [← HE1.out]
                      rcases Nat.lt_or_ge m e1 with h2 | h2
                      · exact h2
                      · exact absurd ⟨h, h2⟩ hno
                    · left; omega)
                  obtain ⟨A8, hcut8, hD8, hle8⟩ := B_head (hi := m) HCC5.out HM1.out HC5.out m rfl
                  obtain ⟨bs, hbs⟩ : ∃ bs, bs = (fl.take m).drop 0 := ⟨_, rfl⟩
                  rw [← hbs] at hcut8 hD8 hle8
                  have hbl : bs.length = m := by rw [hbs, List.length_drop, List.length_take]; have := HM1.out; omega
                  have hscan : scanF bs (bs.length + 1) 0 = (l.take k, (ek : Int)) := by
                    have h := scan_flat l [] m (bs.length + 1) (fun p hp => by
                      obtain ⟨j, hj, rfl⟩ := List.getElem_of_mem hp
                      have := HI.out.2.2.1 j hj
                      rw [gl_get l j hj] at this
                      omega) (by have := cntF_le l m; omega) (by rw [← HEF.out]; exact HM1.out)
                    rw [hcnt, ← HEF.out] at h
                    rw [hbs, List.drop_zero]
                    rw [hbs, List.drop_zero] at h
                    simp only [List.nil_append, List.length_nil, Nat.zero_add] at h
                    rw [HEK.out]
                    exact h
                  obtain ⟨lk, hlk⟩ : ∃ lk, lk = l.take k := ⟨_, rfl⟩
                  rw [← hlk] at hscan
                  have hlkl : lk.length = k := by rw [hlk, List.length_take]; omega
                  have HLK := Lib.hid hlk
                  have HLKL := Lib.hid hlkl
                  have HSC := Lib.hid hscan
                  have HD8 := Aside0.mk hD8
                  have HLE8 := Lib.hid hle8
                  have HBL := Lib.hid hbl
                  obtain ⟨A9, hcut9, hD9, hle9⟩ := L_head (hi := k) HX.out hkl HC.out k rfl
                  rw [List.drop_zero, ← hlk] at hcut9 hD9
                  have HD9 := Aside0.mk hD9
                  have k0 : (0 : Int) ≤ k := by omega
                  have k1 : (k : Int) ≤ l.length := by omega
                  have ee : ((ek : Int) == (ek : Int)) = true := beq_self_eq_true _
                  clear hcell hno hkl hcnt hD8 hbs hle8 hbl hscan hlk hlkl hD9 hle9
                  go_wp2_with (first
                    | (go_at_call 21; refine (lists_same _ _ _ _ _ lk HCR.out (Kd.C_below HD9.out H9.out)).mono ?_; rintro e w10 ⟨rfl, m10, rfl⟩)
                    | (go_at_call 20; refine (scan_calls _ _ _ bs HD8.out HLE8.out (by have := HBL.out; have := HM1.out; have := HFLL.out; omega)).mono ?_; intro e w9 h; rw [HSC.out] at h; obtain ⟨v, rfl, hr, hb⟩ := h; obtain ⟨A10, c10, rfl, _, hCR⟩ := Kd.R_reads hr; have HCR := Aside0.mk hCR; have H9 := Aside0.mk (below_step HI.out.2.2.2 hb); clear hr hb hCR))
                  go_ret
                  exact ⟨rfl, pw_below_drewN H9.out _⟩
end Go.Proofs.Ythacedijfjcbcaa
