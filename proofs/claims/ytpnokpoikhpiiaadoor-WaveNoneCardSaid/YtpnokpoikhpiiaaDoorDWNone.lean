/- WaveNone. -/
import Derived.Test.YtpnokpoikhpiiaaDoorErP
import Derived.Test.YtpnokpoikhpiiaaDoorWvAwake
import Derived.Test.YtpnokpoikhpiiaaDoorHas
import Derived.Test.YtpnokpoikhpiiaaDoorWvNew
namespace Go.Proofs.YtpnokpoikhpiiaaDoor
open Go.RowKit Go.Maps Go.Proofs.YtpnokpoikhpiiaaDoorW.PrintWords Go.Proofs.YtpnokpoikhpiiaaDoorW.PrintLast Go.Proofs.YtpnokpoikhpiiaaDoorW.PrintMore WvSim
set_option linter.unusedVariables false
set_option linter.unusedSimpArgs false
theorem rd_out_take {xs : List Int} (hn : xs.Nodup) {k : Nat} (h : k < xs.length) : rd xs k ∉ xs.take k := by
  intro hm
  rw [← List.take_append_drop k xs, List.nodup_append] at hn
  refine hn.2.2 _ hm (rd xs k) ?_ rfl
  rw [rd_get xs k h]
  exact List.mem_drop_iff_getElem.2 ⟨0, by omega, by simp⟩
/-- A row of numbers of which no block lies in a range. -/
def RowI (w : World) (b lo hi : Nat) (v : Value) (n : Nat) : Prop := ∃ xs : List Int, xs.length = n ∧ (Kd.int .i64).R 3 w b (fun k => ¬ In lo hi k) v xs
theorem RowI.at_ {w : World} {b lo hi n c i : Nat} {A : Option Addr} (h : RowI w b lo hi (.slice A n c) n) (hin : i < n) :
    ∃ g y0, A = some ⟨g, 0, none⟩ ∧ (¬ In lo hi g ∧ b ≤ g ∧ g < w.heap.size) ∧ w.cell? ⟨g, i, none⟩ = some (.int .i64 y0) ∧ w.frozen? ⟨g, i, none⟩ = false ∧ ∀ y, RowI (w.setCell ⟨g, i, none⟩ (.int .i64 y)) b lo hi (.slice A n c) n := by
  obtain ⟨xs, hl, h⟩ := h
  have ho := Kd.own_of_R (enc := Value.int .i64) h
  obtain ⟨g, cap, e, _, _⟩ := ho.form (by omega)
  injection e with e1 e2 e3
  subst e1
  have hb0 := (Kd.R_bound h).1 g (by simp [Value.ownBlock])
  have hb : ¬ In lo hi g ∧ b ≤ g ∧ g < w.heap.size := ⟨hb0.1, hb0.2.1, hb0.2.2.1⟩
  obtain ⟨h1, h2⟩ := Kd.R_celln (enc := Value.int .i64) 0 h (i : Int) (by omega) (by omega)
  simp only [Int.toNat_natCast] at h1 h2
  refine ⟨g, _, rfl, hb, h1, h2, fun y => ⟨xs.set i y, by rw [List.length_set]; exact hl, ?_⟩⟩
  have h3 := Kd.R_putn (enc := Value.int .i64) h (i : Int) y
  simp only [Int.toNat_natCast] at h3
  exact h3
/-- What the two loops that write keep. -/
structure NoneW (w wr : World) (lo hi p : Nat) (nd : Nd) (v : Value) (n : Nat) : Prop where
  wave : IsWave wr lo hi nd p
  row : RowI wr w.heap.size lo hi v n
  below : Below w.heap.size w wr
  size : hi ≤ wr.heap.size
theorem NoneW.put {w wr : World} {lo hi p n c i : Nat} {nd : Nd} {A : Option Addr} (h : NoneW w wr lo hi p nd (.slice A n c) n) (hin : i < n) :
    ∃ g y0, A = some ⟨g, 0, none⟩ ∧ wr.cell? ⟨g, i, none⟩ = some (.int .i64 y0) ∧ wr.frozen? ⟨g, i, none⟩ = false ∧ NoneW w (wr.setCell ⟨g, i, none⟩ (.int .i64 9)) lo hi p nd (.slice A n c) n := by
  obtain ⟨g, y0, e, ⟨h1, h2, h3⟩, hc, hf, hr⟩ := h.row.at_ hin
  have hs : (wr.setCell ⟨g, i, none⟩ (.int .i64 9)).heap.size = wr.heap.size := by simp [World.setCell]
  exact ⟨g, y0, e, hc, hf, h.wave.move (fun k hk => Below.heap_setCell _ _ _ _ (by rintro rfl; exact h1 hk)), hr 9, below_set h.below h2, by rw [hs]; exact h.size⟩
theorem NoneW.begun {w wr w8 : World} {lo hi p n : Nat} {xs : List Int} {v : Value} {e : Ending} (h : NoneW w wr lo hi p ⟨xs, [], [], false⟩ v n) (hr : Rises xs) (hlo : w.heap.size ≤ lo) (hs : SaysPost wr lo hi p ⟨xs, [], [], true⟩ e w8) :
    ∃ A8 c8 T, e = .returned (.tuple #[.slice A8 (List.length T) c8, .nilIface]) ∧ NoneW w w8 lo hi p ⟨xs, [], T, true⟩ (.slice A8 T.length c8) T.length ∧ Fine ⟨xs, [], T, true⟩ := by
  obtain ⟨v8, rfl, hv, hw, hb8, hk8⟩ := hs
  obtain ⟨A8, c8, rfl, _, _⟩ := Kd.R_reads hv
  have hF := hr.fine.begun.tell
  refine ⟨A8, c8, tells xs [] [] true, rfl, ⟨by simpa using hw, ⟨_, rfl, ?_⟩, h.below.trans (hb8.mono hlo), Nat.le_trans h.size hb8.size⟩, by simpa using hF⟩
  refine Kd.R_lower (Kd.R_mono (Kd.R_bound hv) (ok' := fun k => ¬ In lo hi k) (fun k hk hin => ?_)) h.below.size
  have h1 := hk.2.1
  have h2 := hin.2
  have h3 := h.size
  omega
set_option maxRecDepth 100000 in
set_option maxHeartbeats 4000000 in
theorem waveNone_calls (w : World) (hg : Laid w) (A0 : Option Addr) (c0 : Nat) (xs : List Int) (from_ : Int) (hr : (Kd.int .i64).C w A0 xs.length xs) (hc : xs.length ≤ c0) :
    Calls Tryd.prog 4 #[.slice A0 xs.length c0, .int .i64 from_] w fun e w' => e = .returned (.bool true) ∧ Below w.heap.size w w' := by
  have hm : (xs.length : Int) ≤ 9223372036854775807 := by have := hr.2.1; omega
  have HR := Lib.hid hr
  have HG := Lib.hid hg
  clear hr hg
  by_cases hbig : 50 < xs.length
  · have hb : (50 : Int) < xs.length := by omega
    go_enter Tryd.func4, Tryd.ntmps4
    go_wp2_with (go_at_call 5; refine (awake_calls _).mono ?_; rintro e w1 ⟨rfl, hb1⟩; have HB1 := Aside0.mk hb1; clear hb1)
    go_ret
    exact ⟨rfl, HB1.out⟩
  have hb : ¬ (50 : Int) < xs.length := by omega
  have HS := Aside0.mk (show (0 + xs.length) * 8 ≤ 140737488355328 by omega)
  have HL8 := Aside0.mk (show xs.length * 8 ≤ 140737488351232 by omega)
  clear hbig
  go_enter Tryd.func4, Tryd.ntmps4
  go_wp2_with (first
    | (go_at_call 6; refine (new_calls _ A2 c2 xs HC2.out HL8.out).mono ?_)
    | (at_builtin; refine app_rows w5.heap.size rfl _ _ rfl (.slice (some ⟨w5.heap.size, 0, none⟩) 0 0) [] xs A0 xs.length c0 rfl rfl (empty_row w5 _ _ (Nat.le_refl _) trivial _) (Kd.C_alloc (Kd.C_below HR.out H5.out) _) (by simp) HS.out ?_; intro v2 w6 hr2 hb2; have H6 := Aside0.mk (below_then H5.out H5.out.size ((below_alloc (Below.refl _ _) _).trans hb2)); have HR6 := Aside0.mk hr2; obtain ⟨A2, c2, rfl, _, hc2⟩ := Kd.R_reads hr2; have HC2 := Aside0.mk hc2; have HRb := Aside0.mk (show (Kd.int .i64).R 3 w6 w5.heap.size (fun _ => True) (.slice A2 xs.length c2) xs from hr2); have HS5 := Lib.hid H5.out.size; clear hr2 hb2 hc2 HR6)
    | (go_at_call 14; refine (done_nil _).mono ?_; rintro e w5 ⟨rfl, hd⟩; have H5 := Aside0.mk (show Below w.heap.size w w5 by obtain ⟨⟨m, e⟩⟩ := hd; rw [e]; exact pw_below_drewN H4.out m); clear hd)
    | (go_at_call 8; refine (fails_calls _ 0 (.num 19) _ _ (HG.out.below H3.out) rfl rfl).mono ?_; rintro e w4 ⟨rfl, hb⟩; have H4 := Aside0.mk (below_step H3.out hb); clear hb)
    | (go_at_call 8; refine (fails_calls _ 0 (.num 19) _ _ (HG.out.below (below_alloc (below_alloc H0.out _) _)) rfl rfl).mono ?_; rintro e w3 ⟨rfl, hb⟩; have H3 := Aside0.mk (below_step (below_alloc (below_alloc H0.out _) _) hb); have hz := (hb.block (w0.heap.size + 1) (by simp)).trans (heap_alloc_here _ _ _ (by simp)); obtain ⟨⟨q0, q1, q2⟩, _, _, _⟩ := E_cells (x := (0, 0)) hz; clear hb hz)
    | (go_at_call 16; refine (refN_calls _ 19).mono ?_; rintro e w1 ⟨rfl, rfl⟩)
    | (go_at_call 11; refine (hear_nil _ from_).mono ?_; rintro e w1 ⟨rfl, rfl⟩)
    | (go_at_call 9; refine (begin_nil _).mono ?_; rintro e w1 ⟨rfl, rfl⟩)
    | (go_at_call 5; refine (awake_calls _).mono ?_; rintro e w0 ⟨rfl, hb1⟩; have H0 := Aside0.mk hb1; clear hb1))
  intro e w7 hp
  by_cases hrise : Rises xs
  · obtain ⟨p, rfl, hW, hB⟩ := hp.1 hrise
    have HX := Lib.hid hrise
    obtain ⟨lo, hi, hlo, HN⟩ : ∃ lo hi, Hid (w.heap.size ≤ lo) ∧ Aside0 (NoneW w w7 lo hi p ⟨xs, [], [], false⟩ (.slice A2 xs.length c2) xs.length) :=
      ⟨_, _, H6.out.size, ⟨hW, ⟨xs, rfl, Kd.R_mono (Kd.R_bound (Kd.R_below (Kd.R_mono (Kd.R_bound (Kd.R_lower HRb.out HS5.out)) (ok' := fun k => k < w6.heap.size) (fun k hk => hk.2.2.1)) hB)) (fun k hk hin => by have := hin.1; have := hk.1; omega)⟩, below_then H6.out H6.out.size hB, Nat.le_refl _⟩⟩
    clear hp hrise hW hB HC2 HRb H6
    go_wp2_with fail
    go_loopw [74] (fun v wr => ∃ k : Nat, v = .int .i64 k ∧ k ≤ xs.length ∧ Aside0 (NoneW w wr lo hi p ⟨xs, [], [], false⟩ (.slice A2 xs.length c2) xs.length)) (fun v _ => xs.length - (intOf v).toNat)
    case atStart => exact ⟨0, rfl, Nat.zero_le _, HN⟩
    case round =>
      obtain ⟨k, rfl, hk, HK⟩ := hrel
      by_cases hlt : k < xs.length
      · have k0 : (0 : Int) ≤ k := by omega
        have k1 : (k : Int) < xs.length := by omega
        obtain ⟨g, y0, rfl, z1, z2, z3⟩ := HK.out.put hlt
        have HZ := Aside0.mk z3
        clear hlt z3
        go_wp2
        go_roundw
        case rel => exact ⟨k + 1, by go_num, by omega, HZ⟩
        case measure => simp [intOf]; omega
      · have k1 : ¬ (k : Int) < xs.length := by omega
        clear hlt
        go_wp2_with (first
          | (go_at_call 9; refine (begin_calls _ lo hi p ⟨xs, [], [], false⟩ HX.out.fine HK.out.wave rfl).mono ?_; intro e w8 hs; obtain ⟨A8, c8, T, rfl, hN8, hF8⟩ := HK.out.begun HX.out hlo.out hs; have HN8 := Aside0.mk hN8; have HF8 := Lib.hid hF8; have t8 : (T.length : Int) ≤ 8 := (by have h8 : T.length ≤ 8 := hF8.told8; omega); clear hs hN8 hF8))
        go_loopw [88] (fun v wq => ∃ k : Nat, v = .int .i64 k ∧ k ≤ T.length ∧ Aside0 (NoneW w wq lo hi p ⟨xs, [], T, true⟩ (.slice A8 T.length c8) T.length)) (fun v _ => T.length - (intOf v).toNat)
        case atStart => exact ⟨0, rfl, Nat.zero_le _, HN8⟩
        case round =>
          obtain ⟨j, rfl, hj, HJ⟩ := hrel
          by_cases hlt : j < T.length
          · have j0 : (0 : Int) ≤ j := by omega
            have j1 : (j : Int) < T.length := by omega
            obtain ⟨g, y0, rfl, z1, z2, z3⟩ := HJ.out.put hlt
            have HZ := Aside0.mk z3
            clear hlt z3
            go_wp2
            go_roundw
            case rel => exact ⟨j + 1, by go_num, by omega, HZ⟩
            case measure => simp [intOf]; omega
          · have j1 : ¬ (j : Int) < T.length := by omega
            clear hlt
            go_wp2
            go_loopw [97] (fun v wq => ∃ (m : Nat) (T2 : List Int), v = .int .i64 m ∧ m ≤ xs.length ∧ Hid (Fine ⟨xs, xs.take m, T2, true⟩) ∧ Aside0 (IsWave wq lo hi ⟨xs, xs.take m, T2, true⟩ p ∧ Below w.heap.size w wq)) (fun v _ => xs.length - (intOf v).toNat)
            case atStart => exact ⟨0, T, rfl, Nat.zero_le _, HF8.out, ⟨HJ.out.wave, HJ.out.below⟩⟩
            case round =>
              obtain ⟨m, T2, rfl, hmx, HF, HM⟩ := hrel
              by_cases hlt : m < xs.length
              · have m0 : (0 : Int) ≤ m := by omega
                have m1 : (m : Int) < xs.length := by omega
                have HLT := Lib.hid hlt
                obtain ⟨ad, rfl, hcell⟩ := C_cell (Kd.C_below HR.out HM.out.2) hlt
                have HNo := Lib.hid (rd_out_take HX.out.nodup hlt)
                have HMm := Lib.hid (rd_mem xs m hlt)
                clear hlt
                go_wp2_with (go_at_call 11; refine (hear_calls _ lo hi p ⟨xs, xs.take m, T2, true⟩ _ HF.out HM.out.1 HMm.out HNo.out).mono ?_; rintro e w9 ⟨v9, rfl, hv, hw, hb9, hk9⟩; have HW9 := Aside0.mk hw; have HB9 := Aside0.mk (HM.out.2.trans (hb9.mono hlo.out)); have HF9 := Lib.hid (HF.out.hear HMm.out HNo.out).tell; clear hv hw hb9 hk9)
                go_roundw
                case rel =>
                  have e := take_rd xs m HLT.out
                  refine ⟨m + 1, T2 ++ tells xs (xs.take m ++ [rd xs m]) T2 true, by go_num, by omega, ?_, ⟨?_, HB9.out⟩⟩
                  · rw [e]; exact HF9.out
                  · rw [e]; exact HW9.out
                case measure => simp [intOf]; omega
              · have m1 : ¬ (m : Int) < xs.length := by omega
                have hh : xs.take m = xs := List.take_of_length_le (by omega)
                have hf := HF.out
                have hw := HM.out
                rw [hh] at hf hw
                have HF2 := Lib.hid hf
                have HM2 := Aside0.mk hw
                clear hlt hh hf hw HF HM
                go_wp2_with (go_at_call 14; refine (done_calls _ lo hi p ⟨xs, xs, T2, true⟩ HF2.out HM2.out.1).mono ?_; rintro e w9 ⟨rfl, ⟨m9, rfl⟩⟩)
                go_ret
                refine ⟨?_, pw_below_drewN HM2.out.2 _⟩
                first
                  | rfl
                  | (simp; done)
  · obtain ⟨rfl, rfl⟩ := hp.2 hrise
    go_wp2
    go_ret
    exact ⟨rfl, H6.out⟩
end Go.Proofs.YtpnokpoikhpiiaaDoor
