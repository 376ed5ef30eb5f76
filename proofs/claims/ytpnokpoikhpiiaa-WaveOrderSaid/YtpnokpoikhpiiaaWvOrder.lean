/- The walk of WaveOrder: a node that begins at any place among its neighbours' words tells each neighbour once. -/
import Derived.Test.YtpnokpoikhpiiaaWvAwake
import Derived.Test.YtpnokpoikhpiiaaHas
import Derived.Deep.DeepCutAuto
namespace Go.Proofs.Ytpnokpoikhpiiaa
open Go.RowKit Go.Maps Go.Proofs.YtpnokpoikhpiiaaW.PrintWords Go.Proofs.YtpnokpoikhpiiaaW.PrintLast Go.Proofs.YtpnokpoikhpiiaaW.PrintMore WvSim
set_option linter.unusedVariables false
set_option linter.unusedSimpArgs false

/-- All that is ready was told. -/
def Closed (nd : Nd) : Prop := ∀ v, v ∈ nd.near → nd.bg = true → ready nd.near nd.heard v = true → v ∈ nd.told
theorem closed_tell (nd : Nd) : Closed { nd with told := nd.told ++ tells nd.near nd.heard nd.told nd.bg } := by
  intro v hv hb hr
  by_cases h : v ∈ nd.told
  · exact List.mem_append_left _ h
  · exact List.mem_append_right _ (mem_tells.2 ⟨hv, hb, h, hr⟩)
theorem all_told {nd : Nd} (hF : Fine nd) (hC : Closed nd) (hb : nd.bg = true) (hh : nd.heard = nd.near) : (∀ v, v ∈ nd.near → v ∈ nd.told) ∧ nd.told.length = nd.near.length := by
  have h1 : ∀ v, v ∈ nd.near → v ∈ nd.told := fun v hv => hC v hv hb ((ready_iff hF.nn hF.hn hF.hs hv).2 fun w hw _ => hh ▸ hw)
  exact ⟨h1, LC.length_eq_of_same hF.tn hF.nn fun x => ⟨hF.ts x, h1 x⟩⟩

theorem rd_not_take {xs : List Int} (hn : xs.Nodup) {k : Nat} (h : k < xs.length) : rd xs k ∉ xs.take k := by
  intro hm
  rw [← List.take_append_drop k xs, List.nodup_append] at hn
  refine hn.2.2 _ hm (rd xs k) ?_ rfl
  rw [rd_get xs k h]
  exact List.mem_drop_iff_getElem.2 ⟨0, by omega, by simp⟩
/-- The state at the loop's head and between the calls. -/
structure OrdW (w wr : World) (lo hi p : Nat) (nd : Nd) (v : Value) : Prop where
  wave : IsWave wr lo hi nd p
  row : (Kd.int .i64).R 3 wr hi (fun _ => True) v nd.told
  fine : Fine nd
  size : hi ≤ wr.heap.size
  below : Below w.heap.size w wr
  lo : w.heap.size ≤ lo
/-- Behind a call of Begin or Hear, ahead of the append. -/
structure OrdM (w wr : World) (lo hi p : Nat) (nd : Nd) (v : Value) (l : List Int) (A : Option Addr) (n c : Nat) : Prop where
  wave : IsWave wr lo hi { nd with told := nd.told ++ l } p
  row : (Kd.int .i64).R 3 wr hi (fun _ => True) v nd.told
  more : (Kd.int .i64).C wr A n l
  len : n = l.length
  fine : Fine { nd with told := nd.told ++ l }
  size : hi ≤ wr.heap.size
  below : Below w.heap.size w wr
  lo : w.heap.size ≤ lo
  small : (nd.told.length + n) * 8 ≤ 140737488355328
theorem Kept.same {w w1 : World} {S : Nat → Prop} (h : Kept w w1 S) {k : Nat} (hk : k < w.heap.size) (hn : ¬ S k) : w1.heap[k]? = w.heap[k]? := h.2 k hk hn
theorem OrdW.says {w wr w1 : World} {lo hi p : Nat} {nd nd' : Nd} {v : Value} {e : Ending} (h : OrdW w wr lo hi p nd v) (hF : Fine nd') (ht : nd'.told = nd.told) (hs : SaysPost wr lo hi p nd' e w1) :
    ∃ A c n, e = .returned (.tuple #[.slice A n c, .nilIface]) ∧ OrdM w w1 lo hi p nd' v (tells nd'.near nd'.heard nd'.told nd'.bg) A n c := by
  obtain ⟨u, rfl, hv, hW, hB, hK⟩ := hs
  obtain ⟨A, c, rfl, _, hC⟩ := Kd.R_reads hv
  refine ⟨A, c, _, rfl, hW, ?_, hC, rfl, hF.tell, Nat.le_trans h.size hB.size, h.below.trans (hB.mono h.lo), h.lo, ?_⟩
  · rw [ht]
    exact R_kept h.row hK (Nat.le_refl _)
  · have h1 := hF.told8
    have h2 := hF.tell.told8
    simp only [List.length_append] at h2
    omega
theorem OrdM.appended {w wr w1 : World} {lo hi p : Nat} {nd : Nd} {v v1 : Value} {l : List Int} {A : Option Addr} {n c : Nat} (h : OrdM w wr lo hi p nd v l A n c)
    (hr : (Kd.int .i64).R 3 w1 hi (fun _ => True) v1 (nd.told ++ l)) (hb : Below hi wr w1) (hlh : w.heap.size ≤ hi) : OrdW w w1 lo hi p { nd with told := nd.told ++ l } v1 :=
  ⟨h.wave.move fun k hk => hb.block k hk.2, hr, h.fine, Nat.le_trans h.size hb.size, h.below.trans (hb.mono hlh), h.lo⟩

set_option maxRecDepth 100000 in
set_option maxHeartbeats 4000000 in
theorem order_walk (w : World) (A0 : Option Addr) (c0 : Nat) (xs : List Int) (at_ : Int) (hr : (Kd.int .i64).C w A0 xs.length xs) (hc : xs.length ≤ c0) (hat : (Lit.int .i64 at_).wf = true) :
    Calls Try.prog 4 #[.slice A0 xs.length c0, .int .i64 at_] w fun e w' => e = .returned (.bool true) ∧ Below w.heap.size w w' := by
  have hm : (xs.length : Int) ≤ 9223372036854775807 := by have := hr.2.1; omega
  have HR := Lib.hid hr
  clear hr
  by_cases hbig : 20 < xs.length
  · have hb : (20 : Int) < xs.length := by omega
    go_enter Try.func4, Try.ntmps4
    go_wp2_with (go_at_call 5; refine (awake_calls _).mono ?_; rintro e w1 ⟨rfl, hb1⟩; have HB1 := Aside0.mk hb1; clear hb1)
    go_ret
    exact ⟨rfl, HB1.out⟩
  · have hb : ¬ (20 : Int) < xs.length := by omega
    have h20 : (xs.length : Int) ≤ 20 := by omega
    go_enter Try.func4, Try.ntmps4
    have HS := Aside0.mk (show (0 + xs.length) * 8 ≤ 140737488355328 by omega)
    have HL8 := Aside0.mk (show xs.length * 8 ≤ 140737488351232 by omega)
    go_wp2_with (first
      | (go_at_call 5; refine (awake_calls _).mono ?_; rintro e w1 ⟨rfl, hb1⟩; have HB1 := Aside0.mk hb1; have HC1 := Aside0.mk (Kd.C_below HR.out hb1); clear hb1)
      | (at_builtin; refine app_rows w1.heap.size rfl _ _ rfl (.slice (some ⟨w1.heap.size, 0, none⟩) 0 0) [] xs A0 xs.length c0 rfl rfl (empty_row w1 _ _ (Nat.le_refl _) trivial _) (Kd.C_alloc HC1.out _) (by simp) HS.out ?_; intro v2 w2 hr2 hb2; have HB2 := Aside0.mk (below_then HB1.out HB1.out.size ((below_alloc (Below.refl _ _) _).trans hb2)); obtain ⟨A2, c2, rfl, _, hc2⟩ := Kd.R_reads hr2; have HC2 := Aside0.mk (show (Kd.int .i64).C w2 A2 xs.length xs from hc2); clear hr2 hb2 hc2)
      | (go_at_call 12; refine (new_calls _ A2 c2 xs HC2.out HL8.out).mono ?_))
    intro e w3 hp
    by_cases hrise : Rises xs
    · obtain ⟨p, rfl, hW, hB⟩ := hp.1 hrise
      have HX := Lib.hid hrise
      obtain ⟨lo, hi, hlh, HW3⟩ : ∃ lo hi, Hid (w.heap.size ≤ hi) ∧ Aside0 (OrdW w w3 lo hi p ⟨xs, [], [], false⟩ (.slice none 0 0)) :=
        ⟨_, _, Nat.le_trans HB2.out.size hB.size, ⟨hW, Kd.R_nil _ _ _ _ _, hrise.fine, Nat.le_refl _, below_then HB2.out HB2.out.size hB, HB2.out.size⟩⟩
      clear hp hrise hW hB HC2 HB2 HC1 HB1
      go_wp2_with fail
      go_loopw [7, 8] (fun v7 v8 wr => ∃ (k : Nat) (T : List Int) (b : Bool), v8 = .int .i64 k ∧ Hid (k ≤ xs.length + 1) ∧ Hid ((k ≤ xs.length → b = decide (0 ≤ at_ ∧ at_ < k)) ∧ (k = xs.length + 1 → b = true)) ∧ Hid (k = 0 ∨ Closed ⟨xs, xs.take k, T, b⟩) ∧ Aside0 (OrdW w wr lo hi p ⟨xs, xs.take k, T, b⟩ v7)) (fun _ v _ => xs.length + 1 - (intOf v).toNat)
      case atStart =>
        refine ⟨0, [], false, rfl, Nat.zero_le _, ⟨fun _ => ?_, fun h => by omega⟩, .inl rfl, ⟨by simpa using HW3.out⟩⟩
        symm
        rw [decide_eq_false_iff_not]
        omega
      case round =>
        obtain ⟨k, T, b, rfl, hkl, hbk, hcl, HW⟩ := hrel
        clear HW3
        by_cases hk : k ≤ xs.length
        · have k1 : (k : Int) ≤ xs.length := by omega
          have k0 : (0 : Int) ≤ k := by omega
          have HK := Lib.hid hk
          clear hk
          obtain ⟨B, hB⟩ : ∃ B : Bool, B = decide (at_ = k ∨ (k = xs.length ∧ (at_ < 0 ∨ (xs.length : Int) < at_))) := ⟨_, rfl⟩
          have HBB := Lib.hid hB
          clear hB
          go_upto_region 13 with (fail)
          go_cut [52] (fun s52 wx => s52 = .bool B ∧ wx = wr)
          case first =>
            by_cases e1 : (k : Int) = at_
            · have b1 : ((k : Int) == at_) = true := beq_iff_eq.2 e1
              have HV := Lib.hid (show B = true by rw [HBB.out]; exact decide_eq_true (.inl e1.symm))
              clear e1
              go_wp2
              go_meet
              case rel => rw [HV.out]; exact ⟨rfl, rfl⟩
            · have b1 : ((k : Int) == at_) = false := beq_eq_false_iff_ne.2 e1
              by_cases e2 : k = xs.length
              · have b2 : ((k : Int) == (xs.length : Int)) = true := beq_iff_eq.2 (by omega)
                by_cases e3 : at_ < 0
                · have HV := Lib.hid (show B = true by rw [HBB.out]; exact decide_eq_true (.inr ⟨e2, .inl e3⟩))
                  clear e1 e2
                  go_wp2
                  go_meet
                  case rel => rw [HV.out]; exact ⟨rfl, rfl⟩
                · by_cases e4 : (xs.length : Int) < at_
                  · have HV := Lib.hid (show B = true by rw [HBB.out]; exact decide_eq_true (.inr ⟨e2, .inr e4⟩))
                    clear e1 e2
                    go_wp2
                    go_meet
                    case rel => rw [HV.out]; exact ⟨rfl, rfl⟩
                  · have HV := Lib.hid (show B = false by rw [HBB.out, decide_eq_false_iff_not]; omega)
                    clear e1 e2
                    go_wp2
                    go_meet
                    case rel => rw [HV.out]; exact ⟨rfl, rfl⟩
              · have b2 : ((k : Int) == (xs.length : Int)) = false := beq_eq_false_iff_ne.2 (by omega)
                have HV := Lib.hid (show B = false by rw [HBB.out, decide_eq_false_iff_not]; omega)
                clear e1 e2
                go_wp2
                go_meet
                case rel => rw [HV.out]; exact ⟨rfl, rfl⟩
          case rest =>
            obtain ⟨rfl, hwc⟩ := hcut
            subst hwc
            go_upto_if 52 with (fail)
            go_cut [7] (fun s7 wx => ∃ (T1 : List Int) (b1 : Bool), Hid ((k < xs.length → b1 = decide (0 ≤ at_ ∧ at_ < (k + 1 : Nat))) ∧ (k = xs.length → b1 = true)) ∧ Hid (k = xs.length → Closed ⟨xs, xs.take k, T1, b1⟩) ∧ Aside0 (OrdW w wx lo hi p ⟨xs, xs.take k, T1, b1⟩ s7))
            case first =>
              cases B with
              | true =>
                have hd := of_decide_eq_true HBB.out.symm
                obtain rfl : b = false := by
                  rw [hbk.out.1 HK.out, decide_eq_false_iff_not]
                  have := HK.out
                  omega
                have HD := Lib.hid hd
                clear hd HBB
                go_wp2_with (first
                  | (go_at_call 8; refine (begin_calls _ lo hi p ⟨xs, xs.take k, T, false⟩ HW.out.fine HW.out.wave rfl).mono ?_; intro e w4 hs; obtain ⟨A4, c4, n4, rfl, hM⟩ := HW.out.says (nd' := ⟨xs, xs.take k, T, true⟩) HW.out.fine.begun rfl hs; have HM := Aside0.mk hM; clear hs hM)
                  | (at_builtin; refine app_rows hi rfl _ _ rfl _ T _ A4 n4 c4 rfl rfl HM.out.row HM.out.more HM.out.size HM.out.small ?_; intro v5 w5 hr5 hb5; have HO := Aside0.mk (HM.out.appended hr5 hb5 hlh.out); clear hr5 hb5))
                go_meet
                case rel =>
                  refine ⟨_, true, ⟨fun hlt => ?_, fun _ => rfl⟩, fun _ => closed_tell ⟨xs, xs.take k, T, true⟩, HO⟩
                  symm
                  rw [decide_eq_true_iff]
                  have := HD.out
                  omega
              | false =>
                have hd := of_decide_eq_false HBB.out.symm
                have HD := Lib.hid hd
                clear hd HBB
                go_wp2
                go_meet
                case rel =>
                  have h1 := HD.out
                  have h2 := hbk.out.1 HK.out
                  refine ⟨T, b, ⟨fun hlt => ?_, fun he => ?_⟩, fun he => ?_, HW⟩
                  · rw [h2]
                    congr 1
                    rw [eq_iff_iff]
                    omega
                  · rw [h2, decide_eq_true_iff]
                    omega
                  · rcases hcl.out with h0 | h0
                    · exfalso; omega
                    · exact h0
            case rest =>
              obtain ⟨T1, b1, hb1, hc1, HM⟩ := hcut
              clear HW hbk hcl HBB
              by_cases hlt : k < xs.length
              · have k2 : (k : Int) < xs.length := by omega
                have HLT := Lib.hid hlt
                have HF := Lib.hid HM.out.fine
                have hno := rd_not_take HX.out.nodup hlt
                obtain ⟨ad, rfl, hcell⟩ := C_cell (Kd.C_below HR.out HM.out.below) hlt
                have HN := Lib.hid hno
                have HMm := Lib.hid (rd_mem xs k hlt)
                clear hlt hno
                go_wp2_with (first
                  | (go_at_call 10; refine (hear_calls _ lo hi p ⟨xs, xs.take k, T1, b1⟩ _ HF.out HM.out.wave HMm.out HN.out).mono ?_; intro e w4 hs; obtain ⟨A4, c4, n4, rfl, hM⟩ := HM.out.says (nd' := ⟨xs, xs.take k ++ [rd xs k], T1, b1⟩) (HF.out.hear HMm.out HN.out) rfl hs; have HM4 := Aside0.mk hM; clear hs hM)
                  | (at_builtin; refine app_rows hi rfl _ _ rfl _ T1 _ A4 n4 c4 rfl rfl HM4.out.row HM4.out.more HM4.out.size HM4.out.small ?_; intro v5 w5 hr5 hb5; have HO := Aside0.mk (HM4.out.appended hr5 hb5 hlh.out); clear hr5 hb5))
                go_roundw
                case rel =>
                  have e := take_rd xs k HLT.out
                  refine ⟨k + 1, T1 ++ tells xs (xs.take k ++ [rd xs k]) T1 b1, b1, by go_num, by have := HLT.out; unfold Hid; omega, ⟨fun _ => hb1.out.1 HLT.out, fun h => by have := HLT.out; omega⟩, .inr ?_, ?_⟩
                  · rw [e]
                    exact closed_tell ⟨xs, xs.take k ++ [rd xs k], T1, b1⟩
                  · rw [e]
                    exact HO
                case measure => have := HLT.out; simp [intOf]; omega
              · have k2 : ¬ (k : Int) < xs.length := by omega
                have HE := Lib.hid (show k = xs.length by have := HK.out; omega)
                clear hlt
                go_wp2
                go_roundw
                case rel =>
                  have e : xs.take (k + 1) = xs.take k := by rw [HE.out, List.take_length, List.take_of_length_le (by omega)]
                  refine ⟨k + 1, T1, b1, by go_num, by have := HE.out; unfold Hid; omega, ⟨fun h => by have := HE.out; omega, fun _ => hb1.out.2 HE.out⟩, .inr ?_, ?_⟩
                  · rw [e]
                    exact hc1.out HE.out
                  · rw [e]
                    exact HM
                case measure => have := HE.out; simp [intOf]; omega
        · have HE := Lib.hid (show k = xs.length + 1 by have := hkl.out; omega)
          have k1 : ¬ (k : Int) ≤ xs.length := by omega
          have hbt : b = true := hbk.out.2 HE.out
          subst hbt
          have hh : xs.take k = xs := by rw [HE.out]; exact List.take_of_length_le (by omega)
          have ho : OrdW w wr lo hi p ⟨xs, xs, T, true⟩ u7 := by have := HW.out; rw [hh] at this; exact this
          have hcl2 : Closed ⟨xs, xs, T, true⟩ := by
            have := hcl.out
            rw [hh] at this
            rcases this with h0 | h0
            · have := HE.out; omega
            · exact h0
          obtain ⟨ht1, ht2⟩ := all_told ho.fine hcl2 rfl rfl
          have HT1 := Lib.hid ht1
          have HT2 := Lib.hid (show T.length = xs.length from ht2)
          obtain ⟨A7, c7, hv7, _, hc7⟩ := Kd.R_reads ho.row
          subst hv7
          have HO := Lib.hid ho
          have HC7 := Lib.hid hc7
          have HC0 := Lib.hid (Kd.C_below HR.out ho.below)
          clear HW hbk hcl hh hcl2 ht1 ht2 ho hc7 HE
          go_wp2_with fail
          go_loop [83] (fun v => ∃ j : Nat, j ≤ xs.length ∧ v = .int .i64 j) (fun v => xs.length - (intOf v).toNat)
          case atStart => exact ⟨0, Nat.zero_le _, rfl⟩
          case round =>
            obtain ⟨j, hj, rfl⟩ := hrel
            by_cases hlt : j < xs.length
            · have j0 : (0 : Int) ≤ j := by omega
              have j1 : (j : Int) < xs.length := by omega
              obtain ⟨ad, hAd, hcell⟩ := C_cell HC0.out hlt
              subst hAd
              have hd : decide (rd xs j ∈ T) = true := decide_eq_true (HT1.out _ (rd_mem xs j hlt))
              clear hlt
              go_wp2_with (go_at_call 13; refine (has_calls _ A7 c7 T _ HC7.out).mono ?_; rintro e w4 ⟨rfl, rfl⟩)
              go_round
              case rel => exact ⟨j + 1, by omega, by go_num⟩
              case measure => simp [intOf]; omega
            · have j1 : ¬ (j : Int) < xs.length := by omega
              clear hlt
              go_wp2_with (go_at_call 11; refine (done_calls _ lo hi p _ HO.out.fine HO.out.wave).mono ?_; rintro e w4 ⟨rfl, ⟨m4, rfl⟩⟩)
              go_ret
              refine ⟨?_, pw_below_drewN HO.out.below _⟩
              have e2 : ((T.length : Int) == (xs.length : Int)) = true := by rw [HT2.out]; simp
              first
                | (rw [e2]; done)
                | (simp [HT2.out]; done)
                | (show Ending.returned (Value.bool _) = _; simp [HT2.out]; done)
    · obtain ⟨rfl, rfl⟩ := hp.2 hrise
      go_wp2
      go_ret
      exact ⟨rfl, HB2.out⟩
end Go.Proofs.Ytpnokpoikhpiiaa
