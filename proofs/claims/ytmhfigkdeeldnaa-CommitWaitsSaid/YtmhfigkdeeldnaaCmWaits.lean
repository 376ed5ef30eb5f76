/- CommitWaits: the plain part, and the walk. -/
import Derived.Test.YtmhfigkdeeldnaaCmOnceF
import Derived.Test.YtmhfigkdeeldnaaCmAwake
import Derived.Test.YtmhfigkdeeldnaaInts
namespace Go.Proofs.Ytmhfigkdeeldnaa
open Go.RowKit Go.Proofs.YtmhfigkdeeldnaaW.PrintWords Go.Proofs.YtmhfigkdeeldnaaW.PrintLast Go.Proofs.YtmhfigkdeeldnaaW.PrintMore
set_option linter.unusedVariables false
set_option linter.unusedSimpArgs false

/-- A phase (s: its state, d: what is decided) where the first i nodes have answered. -/
def Ph (xs : List Int) (s d : Int) (i : Nat) : Dk := if i < xs.length then ⟨s, xs.drop i, xs, [d]⟩ else if s = 1 then ⟨2, xs, xs, [2]⟩ else ⟨0, [], [], [d]⟩
section
variable {xs : List Int}
theorem drops_drop (h : xs.Nodup) {i : Nat} (hi : i < xs.length) : drops (rd xs i) (xs.drop i) = xs.drop (i + 1) := by
  have e : xs.drop i = rd xs i :: xs.drop (i + 1) := by rw [List.drop_eq_getElem_cons hi, rd_get xs i hi]
  have hn : rd xs i ∉ xs.drop (i + 1) := by
    have h2 : (xs.drop i).Nodup := List.Sublist.nodup (List.drop_sublist _ _) h
    rw [e, List.nodup_cons] at h2
    exact h2.1
  rw [e]
  show (rd xs i :: xs.drop (i + 1)).filter _ = _
  rw [List.filter_cons_of_neg (by simp)]
  exact drops_none hn
theorem ph_at {s d : Int} {i : Nat} (h : i < xs.length) : Ph xs s d i = ⟨s, xs.drop i, xs, [d]⟩ := if_pos h
theorem ph_say (hU : Up xs) {s d : Int} {i : Nat} (hi : i < xs.length) (hs : s = 1 ∧ d = 0 ∨ s ≠ 1) : (Ph xs s d i).sayR (rd xs i) = (0, Ph xs s d (i + 1)) := by
  rw [ph_at hi]
  have hm : rd xs i ∈ xs.drop i := by
    rw [List.drop_eq_getElem_cons hi, rd_get xs i hi]
    exact List.mem_cons_self
  unfold Dk.sayR
  rw [if_neg (by simpa using rd_mem xs i hi), if_neg (by simpa using hm)]
  congr 1
  unfold Dk.say
  simp only [drops_drop hU.nodup hi]
  by_cases h1 : i + 1 < xs.length
  · rw [if_pos (by
      intro hc
      have := congrArg List.length hc
      simp at this
      omega), ph_at h1]
    unfold Dk.drop
    simp only [drops_drop hU.nodup hi]
  · rw [if_neg (by simpa using by omega)]
    unfold Ph
    rw [if_neg h1]
    by_cases h2 : s = 1
    · rw [if_pos h2, if_pos h2]
      rfl
    · rw [if_neg h2, if_neg h2]
theorem ph_ready (hU : Up xs) {i : Nat} (hi : i < xs.length) : (Ph xs 1 0 i).readyR 1 (rd xs i) = (0, Ph xs 1 0 (i + 1)) := by
  rw [← ph_say hU hi (.inl ⟨rfl, rfl⟩)]
  unfold Dk.readyR
  rw [if_pos (by rw [ph_at hi]; simp)]
theorem ph_done (hU : Up xs) {s : Int} (hs : s = 2 ∨ s = 3) {i : Nat} (hi : i < xs.length) : (Ph xs s s i).doneR 1 (rd xs i) = (0, Ph xs s s (i + 1)) := by
  rw [← ph_say hU hi (.inr (by omega))]
  unfold Dk.doneR
  rw [if_pos (by rw [ph_at hi]; simp; omega)]
theorem ph_fine (hU : Up xs) {s d : Int} (h0 : 0 ≤ s) (h3 : s ≤ 3) (i : Nat) : Fine (Ph xs s d i) := by
  have h9 := hU.nine
  unfold Ph
  split
  · exact ⟨h0, h3, by simp; omega, h9, by simp, by simp⟩
  · split
    · exact ⟨by simp, by simp, h9, h9, by simp, by simp⟩
    · exact ⟨by simp, by simp, by simp, by simp, by simp, by simp⟩
theorem ph_begin (hU : Up xs) (hx : xs ≠ []) : Dk.new.beginR xs = (1, 0, Ph xs 1 0 0) := by
  rw [Dk.beginR_ok rfl hx hU, ph_at (List.length_pos_iff.2 hx)]
  rfl
theorem ph_cancel (hx : xs ≠ []) : (Ph xs 1 0 0).cancelR 1 = (0, Ph xs 3 3 0) := by
  rw [ph_at (List.length_pos_iff.2 hx), ph_at (List.length_pos_iff.2 hx)]
  rfl
theorem ph_go (hx : xs ≠ []) : Ph xs 1 0 xs.length = Ph xs 2 2 0 := by
  rw [ph_at (List.length_pos_iff.2 hx)]
  unfold Ph
  rw [if_neg (by omega), if_pos rfl]
  rfl
theorem ph_end {s : Int} (hs : s = 2 ∨ s = 3) : Ph xs s s xs.length = ⟨0, [], [], [s]⟩ := by
  unfold Ph
  rw [if_neg (by omega), if_neg (by omega)]
end
/-- A desk, and a list beside it. -/
structure Beside (w wr : World) (lo : Nat) (K : Nat → Prop) (D : Dk) (p : Nat) (v : Value) (ys : List Int) : Prop where
  live : Live w wr lo K D p
  row : (Kd.int .i64).R 3 wr lo (fun b => ¬ K b) v ys
theorem Beside.step {w wr w1 : World} {lo p : Nat} {K : Nat → Prop} {D D' : Dk} {v : Value} {ys : List Int} (h : Beside w wr lo K D p v ys) (k : Leaves wr lo K p D' w1) (hF : Fine D') : ∃ K', Beside w w1 lo K' D' p v ys := by
  obtain ⟨K', hl, hm⟩ := h.live.step k hF
  refine ⟨K', hl, ?_⟩
  have h1 := R_far_own h.row hm.kept (fun k hk => h.row.1 k hk)
  refine Kd.R_reok (d := Kd.int .i64) rfl h1 (fun k hk hc => ?_)
  rcases hm.new k hc with h2 | h2
  · exact h.row.1 k hk h2
  · have := Kd.R_lt h.row k hk
    omega
theorem Beside.put {w wr : World} {lo p g m c i : Nat} {K : Nat → Prop} {D : Dk} {ys : List Int} (h : Beside w wr lo K D p (.slice (some ⟨g, 0, none⟩) m c) ys) (y : Int) : Beside w (wr.setCell ⟨g, i, none⟩ (.int .i64 y)) lo K D p (.slice (some ⟨g, 0, none⟩) m c) (ys.set i y) := by
  have hg : ¬ K g := h.row.1 g (by simp [Value.ownBlock])
  have hb := Kd.R_base h.row g (by simp [Value.ownBlock])
  have h3 := Kd.R_putn (enc := Value.int .i64) h.row (i : Int) y
  simp only [Int.toNat_natCast] at h3
  exact ⟨⟨h.live.desk.move (fun k hk => Below.heap_setCell _ _ _ _ (fun (e : k = g) => hg (e ▸ hk))) (by rw [set_size]; exact Nat.le_refl _), h.live.fine, h.live.below.setCell (Nat.le_trans h.live.low hb) _, h.live.low⟩, h3⟩
theorem Beside.drewN {w wr : World} {lo p : Nat} {K : Nat → Prop} {D : Dk} {v : Value} {ys : List Int} (h : Beside w wr lo K D p v ys) (m : Nat) : Beside w (wr.drewN m) lo K D p v ys := ⟨h.live.drewN m, Kd.R_move h.row fun _ _ => rfl⟩
theorem row_at {e base m c j : Nat} {ok : Nat → Prop} {wr : World} {A : Option Addr} {ys : List Int} (h : (Kd.int .i64).R e wr base ok (.slice A m c) ys) (hj : j < m) : ∃ g, A = some ⟨g, 0, none⟩ ∧ wr.cell? ⟨g, j, none⟩ = some (.int .i64 (rd ys j)) ∧ wr.frozen? ⟨g, j, none⟩ = false := by
  obtain ⟨hl, _, hC⟩ := Kd.R_reads' h
  subst hl
  obtain ⟨ad, rfl, hc⟩ := C_cell hC hj
  obtain ⟨g, rfl⟩ := Kd.R_head h
  obtain ⟨h3, h4⟩ := Kd.R_celln (enc := Value.int .i64) 0 h (j : Int) (by omega) (by omega)
  refine ⟨g, rfl, ?_, by simpa using h4⟩
  by_cases e : j = 0
  · subst e; simpa [Addr.add] using hc
  · simpa [Addr.add, e] using hc
theorem made_beside {w W : World} {lo p : Nat} {K : Nat → Prop} {D : Dk} (h : Live w W lo K D p) {w1 : World} {v : Value} {ys : List Int} (hr : (Kd.int .i64).R 3 w1 W.heap.size (fun _ => True) v ys) (hb : Below W.heap.size W w1) : Beside w w1 lo K D p v ys := by
  have hlo : lo ≤ W.heap.size := by obtain ⟨_, _, _, _, _, _, z⟩ := h.desk; exact z.low
  refine ⟨h.stay hb, Kd.R_lower (Kd.R_reok (d := Kd.int .i64) rfl hr (fun k hk hc => ?_)) hlo⟩
  have := Kd.R_base hr k hk
  have := (h.desk.kb k hc).2
  omega

theorem ints_n (w : World) (A : Option Addr) (n c : Nat) (xs : List Int) (B : Option Addr) (m d : Nat) (ys : List Int) (hn : xs.length = n) (hm : ys.length = m) (hx : (Kd.int .i64).C w A n xs) (hy : (Kd.int .i64).C w B m ys) :
    Calls Try.prog 15 #[.slice A n c, .slice B m d] w fun e w' => e = .returned (.bool (decide (xs = ys))) ∧ Drawn0 w w' := by
  subst hn hm
  exact ints_calls w A c xs B d ys hx hy
set_option maxRecDepth 100000 in
set_option maxHeartbeats 2000000 in
theorem waits_walk (w : World) (A0 : Option Addr) (c0 : Nat) (xs : List Int) (stop : Bool) (hr : (Kd.int .i64).C w A0 xs.length xs) (hc : xs.length ≤ c0) :
    Calls Try.prog 4 #[.slice A0 xs.length c0, .bool stop] w fun e w' => e = .returned (.bool true) ∧ Below w.heap.size w w' := by
  have hm : (xs.length : Int) ≤ 9223372036854775807 := by have := hr.2.1; omega
  have HR := Lib.hid hr
  have HC0 := Lib.hid hc
  clear hr hc
  by_cases hbig : 20 < xs.length
  · have hb : (20 : Int) < xs.length := by omega
    go_enter Try.func4, Try.ntmps4
    go_wp2_with (go_at_call 5; refine (awake_calls _).mono ?_; rintro e w1 ⟨rfl, hb1⟩; have HB1 := Aside0.mk hb1; clear hb1)
    go_ret
    exact ⟨rfl, HB1.out⟩
  have hb : ¬ (20 : Int) < xs.length := by omega
  have h20 : (xs.length : Int) ≤ 20 := by omega
  by_cases hok : xs ≠ [] ∧ Up xs
  · have HX := Lib.hid hok.1
    have HU := Lib.hid hok.2
    have hpos : (0 : Int) < xs.length := by have := List.length_pos_iff.2 hok.1; omega
    clear hok
    go_enter Try.func4, Try.ntmps4
    go_wp2_with (first
      | (go_at_call 7; refine (begin_calls HI.out.live.desk HI.out.live.fine (by simp [Dk.new]) A2 k2 xs (Kd.R_reads' HI.out.row).2.2 (by omega)).mono ?_; rintro e w4 ⟨he, hl⟩; rw [ph_begin HU.out HX.out] at he hl; obtain rfl : e = .returned (.tuple #[.int .i64 1, .nilIface]) := he; obtain ⟨K4, hI4⟩ := HI.out.step hl (ph_fine HU.out (by omega) (by omega) 0); have H4 := Aside0.mk hI4; clear hl hI4)
      | (at_builtin; refine app_rows w2.heap.size rfl _ _ rfl (.slice (some ⟨w2.heap.size, 0, none⟩) 0 0) [] xs A0 xs.length c0 rfl rfl (empty_row w2 _ _ (Nat.le_refl _) trivial _) (Kd.C_alloc (Kd.C_below HR.out L2.out.below) _) (by simp) (by simp; omega) ?_; intro v3 w3 hr3 hb3; have hI := made_beside L2.out (by simpa using hr3) ((below_alloc (Below.refl _ _) _).trans hb3); obtain ⟨A2, k2, rfl⟩ := Kd.R_slice (show (Kd.int .i64).R 3 w3 w2.heap.size (fun _ => True) v3 xs by simpa using hr3); have HI := Aside0.mk hI; clear hr3 hb3 hI)
      | (go_at_call 6; refine (new_calls _).mono ?_; rintro e w2 ⟨p, K1, rfl, hW, hB, hK⟩; obtain ⟨lo, L2⟩ : ∃ lo, Aside0 (Live w w2 lo K1 Dk.new p) := ⟨_, ⟨hW, Fine.new, HB1.out.trans (hB.mono HB1.out.size), HB1.out.size⟩⟩; clear hW hB hK)
      | (go_at_call 5; refine (awake_calls _).mono ?_; rintro e w1 ⟨rfl, hb1⟩; have HB1 := Aside0.mk hb1; clear hb1))
    go_loopw [42] (fun v42 wr => ∃ (j : Nat) (ys : List Int), v42 = .int .i64 j ∧ j ≤ xs.length ∧ Aside0 (Beside w wr lo K4 (Ph xs 1 0 0) p (.slice A2 xs.length k2) ys)) (fun v _ => xs.length - (intOf v).toNat)
    case atStart => exact ⟨0, xs, rfl, Nat.zero_le _, H4⟩
    case round =>
      obtain ⟨j, ys, rfl, hj, HJ⟩ := hrel
      clear H4
      by_cases hlt : j < xs.length
      · obtain ⟨g, rfl, cj, fj⟩ := row_at HJ.out.row hlt
        have HP := Aside0.mk (HJ.out.put (i := j) 77)
        have j0 : (0 : Int) ≤ j := by omega
        have j1 : (j : Int) < xs.length := by omega
        have HLT := Lib.hid hlt
        clear hlt
        go_wp2
        go_roundw
        case rel => exact ⟨j + 1, ys.set j 77, by go_num, by have := HLT.out; omega, HP⟩
        case measure => have := HLT.out; simp [intOf]; omega
      · have j1 : ¬ (j : Int) < xs.length := by omega
        have HL4 := Aside0.mk HJ.out.live
        clear hlt HJ
        cases stop with
        | false =>
          go_wp2_with fail
          go_loopw [54] (fun v54 wr => ∃ (f : Nat) (K : Nat → Prop), v54 = .int .i64 f ∧ f ≤ 2 ∧ Aside0 (Live w wr lo K (if f = 0 then Ph xs 1 0 0 else if f = 1 then Ph xs 2 2 0 else ⟨0, [], [], [2]⟩) p)) (fun v _ => 2 - (intOf v).toNat)
          case atStart => exact ⟨0, K4, rfl, by omega, HL4⟩
          case round =>
            obtain ⟨f, K5, rfl, hf, HLf⟩ := hrel
            clear HL4
            have h3 : f = 0 ∨ f = 1 ∨ f = 2 := by omega
            rcases h3 with rfl | rfl | rfl
            · have HL := Aside0.mk (show Live w wr lo K5 (Ph xs 1 0 0) p from HLf.out)
              clear HLf
              go_wp2_with fail
              go_loopw [64] (fun v64 wr => ∃ (i : Nat) (K : Nat → Prop), v64 = .int .i64 i ∧ i ≤ xs.length ∧ Aside0 (Live w wr lo K (Ph xs 1 0 i) p)) (fun v _ => xs.length - (intOf v).toNat)
              case atStart => exact ⟨0, K5, rfl, Nat.zero_le _, HL⟩
              case round =>
                obtain ⟨i, K6, rfl, hi, HL6⟩ := hrel
                clear HL
                by_cases hlt : i < xs.length
                · have HLT := Lib.hid hlt
                  have hF := ph_fine HU.out (s := 1) (d := 0) (by omega) (by omega) i
                  have HF := Lib.hid hF
                  have HST := Lib.hid (show (Ph xs 1 0 i).st = 1 by rw [ph_at hlt])
                  obtain ⟨T, hT⟩ : ∃ T, T = xs.drop i := ⟨_, rfl⟩
                  have HWS := Lib.hid (show (Ph xs 1 0 i).ws = T by rw [ph_at hlt, hT])
                  have hTl : T.length = xs.length - i := by rw [hT, List.length_drop]
                  have HTL := Lib.hid hTl
                  have HCx := Lib.hid (Kd.C_below HR.out HL6.out.below)
                  obtain ⟨ad, rfl, hcell⟩ := C_cell HCx.out hlt
                  have HCd := Lib.hid (show (Kd.int .i64).C wr (some (ad.add i)) (xs.length - i) T by
                    have := Kd.C_drop HCx.out (m := i) (by omega) HC0.out
                    rw [if_neg (by have := HC0.out; omega), show (Kd.int IntKind.i64).sz = 1 from rfl, Nat.mul_one, List.length_drop] at this
                    rw [hT]
                    exact this)
                  have i0 : (0 : Int) ≤ i := by omega
                  have i1 : (i : Int) < xs.length := by omega
                  have t9 : (T.length : Int) ≤ 20 := by omega
                  have hc0 : (xs.length : Int) ≤ c0 := by have := HC0.out; omega
                  clear hlt hF hT hTl
                  go_wp2_with (first
                    | (go_at_call 15; refine (ints_n _ _ _ _ T _ _ _ T rfl HTL.out HCa.out HCb.out).mono ?_; rintro e w2 ⟨rfl, ⟨m2, rfl⟩⟩; rw [show decide (T = T) = true by simp]; have H15 := Aside0.mk (H14.out.drewN m2))
                    | (go_at_call 14; refine (waits_calls HL6.out.desk HF.out).mono ?_; rintro e w1 ⟨v, rfl, hv, hb⟩; rw [HWS.out] at hv; obtain ⟨A14, c14, rfl⟩ := Kd.R_slice hv; have HB := Lib.hid hb; have H14 := Aside0.mk (made_beside HL6.out hv hb); have HCa := Lib.hid (Kd.R_reads' hv).2.2; have HCb := Lib.hid (Kd.C_below HCd.out hb); clear hv hb))
                  go_loopw [79] (fun v79 wr => ∃ (j : Nat) (ys : List Int), v79 = .int .i64 j ∧ j ≤ T.length ∧ Aside0 (Beside w wr lo K6 (Ph xs 1 0 i) p (.slice A14 T.length c14) ys)) (fun v _ => T.length - (intOf v).toNat)
                  case atStart => exact ⟨0, T, rfl, Nat.zero_le _, H15⟩
                  case round =>
                    obtain ⟨j, ys, rfl, hj, HJ⟩ := hrel
                    clear H15 H14
                    by_cases hlt : j < T.length
                    · obtain ⟨g, rfl, cj, fj⟩ := row_at HJ.out.row hlt
                      have HP := Aside0.mk (HJ.out.put (i := j) 77)
                      have j0 : (0 : Int) ≤ j := by omega
                      have j1 : (j : Int) < T.length := by omega
                      have HLT2 := Lib.hid hlt
                      clear hlt
                      go_wp2
                      go_roundw
                      case rel => exact ⟨j + 1, ys.set j 77, by go_num, by have := HLT2.out; omega, HP⟩
                      case measure => have := HLT2.out; simp [intOf]; omega
                    · have j1 : ¬ (j : Int) < T.length := by omega
                      have HL7 := Aside0.mk HJ.out.live
                      clear hlt HJ
                      go_wp2_with (first
                        | (go_at_call 8; refine (ready_calls HL7.out.desk HF.out 1 (rd xs i)).mono ?_; rintro e w3 ⟨he, hl⟩; rw [ph_ready HU.out HLT.out] at he hl; obtain rfl : e = .returned .nilIface := he; obtain ⟨K7, h7, _⟩ := HL7.out.step hl (ph_fine HU.out (by omega) (by omega) _); have H7 := Aside0.mk h7; clear hl h7)
                        | (go_at_call 13; refine (state_calls HL7.out.desk).mono ?_; rintro e w' ⟨rfl, rfl⟩; rw [HST.out]))
                      go_roundw
                      case rel => (repeat apply Exists.intro); exact ⟨⟨i + 1, K7, by go_num, by have := HLT.out; omega, H7⟩, rfl⟩
                      case measure => have := HLT.out; simp [intOf]; omega
                · have i1 : ¬ (i : Int) < xs.length := by omega
                  obtain rfl : i = xs.length := by omega
                  clear hlt
                  go_wp2
                  go_roundw
                  case rel => exact ⟨1, K6, by rfl, by omega, by rw [ph_go HX.out] at HL6; exact HL6⟩
                  case measure => simp [intOf]
            · have HL := Aside0.mk (show Live w wr lo K5 (Ph xs 2 2 0) p from HLf.out)
              clear HLf
              go_wp2_with fail
              go_loopw [64] (fun v64 wr => ∃ (i : Nat) (K : Nat → Prop), v64 = .int .i64 i ∧ i ≤ xs.length ∧ Aside0 (Live w wr lo K (Ph xs 2 2 i) p)) (fun v _ => xs.length - (intOf v).toNat)
              case atStart => exact ⟨0, K5, rfl, Nat.zero_le _, HL⟩
              case round =>
                obtain ⟨i, K6, rfl, hi, HL6⟩ := hrel
                clear HL
                by_cases hlt : i < xs.length
                · have HLT := Lib.hid hlt
                  have hF := ph_fine HU.out (s := 2) (d := 2) (by omega) (by omega) i
                  have HF := Lib.hid hF
                  have HST := Lib.hid (show (Ph xs 2 2 i).st = 2 by rw [ph_at hlt])
                  obtain ⟨T, hT⟩ : ∃ T, T = xs.drop i := ⟨_, rfl⟩
                  have HWS := Lib.hid (show (Ph xs 2 2 i).ws = T by rw [ph_at hlt, hT])
                  have hTl : T.length = xs.length - i := by rw [hT, List.length_drop]
                  have HTL := Lib.hid hTl
                  have HCx := Lib.hid (Kd.C_below HR.out HL6.out.below)
                  obtain ⟨ad, rfl, hcell⟩ := C_cell HCx.out hlt
                  have HCd := Lib.hid (show (Kd.int .i64).C wr (some (ad.add i)) (xs.length - i) T by
                    have := Kd.C_drop HCx.out (m := i) (by omega) HC0.out
                    rw [if_neg (by have := HC0.out; omega), show (Kd.int IntKind.i64).sz = 1 from rfl, Nat.mul_one, List.length_drop] at this
                    rw [hT]
                    exact this)
                  have i0 : (0 : Int) ≤ i := by omega
                  have i1 : (i : Int) < xs.length := by omega
                  have t9 : (T.length : Int) ≤ 20 := by omega
                  have hc0 : (xs.length : Int) ≤ c0 := by have := HC0.out; omega
                  clear hlt hF hT hTl
                  go_wp2_with (first
                    | (go_at_call 15; refine (ints_n _ _ _ _ T _ _ _ T rfl HTL.out HCa.out HCb.out).mono ?_; rintro e w2 ⟨rfl, ⟨m2, rfl⟩⟩; rw [show decide (T = T) = true by simp]; have H15 := Aside0.mk (H14.out.drewN m2))
                    | (go_at_call 14; refine (waits_calls HL6.out.desk HF.out).mono ?_; rintro e w1 ⟨v, rfl, hv, hb⟩; rw [HWS.out] at hv; obtain ⟨A14, c14, rfl⟩ := Kd.R_slice hv; have HB := Lib.hid hb; have H14 := Aside0.mk (made_beside HL6.out hv hb); have HCa := Lib.hid (Kd.R_reads' hv).2.2; have HCb := Lib.hid (Kd.C_below HCd.out hb); clear hv hb))
                  go_loopw [79] (fun v79 wr => ∃ (j : Nat) (ys : List Int), v79 = .int .i64 j ∧ j ≤ T.length ∧ Aside0 (Beside w wr lo K6 (Ph xs 2 2 i) p (.slice A14 T.length c14) ys)) (fun v _ => T.length - (intOf v).toNat)
                  case atStart => exact ⟨0, T, rfl, Nat.zero_le _, H15⟩
                  case round =>
                    obtain ⟨j, ys, rfl, hj, HJ⟩ := hrel
                    clear H15 H14
                    by_cases hlt : j < T.length
                    · obtain ⟨g, rfl, cj, fj⟩ := row_at HJ.out.row hlt
                      have HP := Aside0.mk (HJ.out.put (i := j) 77)
                      have j0 : (0 : Int) ≤ j := by omega
                      have j1 : (j : Int) < T.length := by omega
                      have HLT2 := Lib.hid hlt
                      clear hlt
                      go_wp2
                      go_roundw
                      case rel => exact ⟨j + 1, ys.set j 77, by go_num, by have := HLT2.out; omega, HP⟩
                      case measure => have := HLT2.out; simp [intOf]; omega
                    · have j1 : ¬ (j : Int) < T.length := by omega
                      have HL7 := Aside0.mk HJ.out.live
                      clear hlt HJ
                      go_wp2_with (first
                        | (go_at_call 9; refine (done_calls HL7.out.desk HF.out 1 (rd xs i)).mono ?_; rintro e w3 ⟨he, hl⟩; rw [ph_done HU.out (.inl rfl) HLT.out] at he hl; obtain rfl : e = .returned .nilIface := he; obtain ⟨K7, h7, _⟩ := HL7.out.step hl (ph_fine HU.out (by omega) (by omega) _); have H7 := Aside0.mk h7; clear hl h7)
                        | (go_at_call 13; refine (state_calls HL7.out.desk).mono ?_; rintro e w' ⟨rfl, rfl⟩; rw [HST.out]))
                      go_roundw
                      case rel => (repeat apply Exists.intro); exact ⟨⟨i + 1, K7, by go_num, by have := HLT.out; omega, H7⟩, rfl⟩
                      case measure => have := HLT.out; simp [intOf]; omega
                · have i1 : ¬ (i : Int) < xs.length := by omega
                  obtain rfl : i = xs.length := by omega
                  clear hlt
                  go_wp2
                  go_roundw
                  case rel => exact ⟨2, K6, by rfl, by omega, by rw [ph_end (.inl rfl)] at HL6; exact HL6⟩
                  case measure => simp [intOf]
            · have f1 : True := trivial
              have HLf2 := Aside0.mk (show Live w wr lo K5 ⟨0, [], [], [2]⟩ p from HLf.out)
              have HFf := Lib.hid HLf2.out.fine
              clear HLf
              go_wp2_with (first
                | (go_at_call 10; refine (decided_calls (HLf2.out.stay hb8.out).desk HFf.out 1).mono ?_; rintro e w' ⟨rfl, rfl⟩; rw [show (⟨0, [], [], [2]⟩ : Dk).at_ 1 = 2 from rfl])
                | (go_at_call 14; refine (waits_calls HLf2.out.desk HFf.out).mono ?_; rintro e w8 ⟨v, rfl, hv, hb⟩; have hb8 := Lib.hid hb; obtain ⟨A8, c8, rfl⟩ := Kd.R_slice (show (Kd.int .i64).R 3 w8 wr.heap.size (fun _ => True) v [] from hv); clear hv hb; try simp only [List.length_nil])
                | (go_at_call 13; refine (state_calls HLf2.out.desk).mono ?_; rintro e w' ⟨rfl, rfl⟩; rw [show (⟨0, [], [], [2]⟩ : Dk).st = 0 from rfl]))
              go_ret
              exact ⟨rfl, (HLf2.out.stay hb8.out).below⟩
        | true =>
          go_wp2_with (go_at_call 11; refine (cancel_calls HL4.out.desk HL4.out.fine 1).mono ?_; rintro e w5 ⟨he, hl⟩; rw [ph_cancel HX.out] at he hl; obtain rfl : e = .returned .nilIface := he; obtain ⟨K9, h9, _⟩ := HL4.out.step hl (ph_fine HU.out (by omega) (by omega) _); have H9 := Aside0.mk h9; clear hl h9)
          go_loopw [54] (fun v54 wr => ∃ (f : Nat) (K : Nat → Prop), v54 = .int .i64 f ∧ f ≤ 2 ∧ Aside0 (Live w wr lo K (if f ≤ 1 then Ph xs 3 3 0 else ⟨0, [], [], [3]⟩) p)) (fun v _ => 2 - (intOf v).toNat)
          case atStart => exact ⟨0, K9, rfl, by omega, H9⟩
          case round =>
            obtain ⟨f, K5, rfl, hf, HLf⟩ := hrel
            clear HL4 H9
            have h3 : f = 0 ∨ f = 1 ∨ f = 2 := by omega
            rcases h3 with rfl | rfl | rfl
            · have HL := Aside0.mk (show Live w wr lo K5 (Ph xs 3 3 0) p from HLf.out)
              clear HLf
              go_wp2
              go_roundw
              case rel => exact ⟨1, K5, by rfl, by omega, HL⟩
              case measure => simp [intOf]
            · have HL := Aside0.mk (show Live w wr lo K5 (Ph xs 3 3 0) p from HLf.out)
              clear HLf
              go_wp2_with fail
              go_loopw [64] (fun v64 wr => ∃ (i : Nat) (K : Nat → Prop), v64 = .int .i64 i ∧ i ≤ xs.length ∧ Aside0 (Live w wr lo K (Ph xs 3 3 i) p)) (fun v _ => xs.length - (intOf v).toNat)
              case atStart => exact ⟨0, K5, rfl, Nat.zero_le _, HL⟩
              case round =>
                obtain ⟨i, K6, rfl, hi, HL6⟩ := hrel
                clear HL
                by_cases hlt : i < xs.length
                · have HLT := Lib.hid hlt
                  have hF := ph_fine HU.out (s := 3) (d := 3) (by omega) (by omega) i
                  have HF := Lib.hid hF
                  have HST := Lib.hid (show (Ph xs 3 3 i).st = 3 by rw [ph_at hlt])
                  obtain ⟨T, hT⟩ : ∃ T, T = xs.drop i := ⟨_, rfl⟩
                  have HWS := Lib.hid (show (Ph xs 3 3 i).ws = T by rw [ph_at hlt, hT])
                  have hTl : T.length = xs.length - i := by rw [hT, List.length_drop]
                  have HTL := Lib.hid hTl
                  have HCx := Lib.hid (Kd.C_below HR.out HL6.out.below)
                  obtain ⟨ad, rfl, hcell⟩ := C_cell HCx.out hlt
                  have HCd := Lib.hid (show (Kd.int .i64).C wr (some (ad.add i)) (xs.length - i) T by
                    have := Kd.C_drop HCx.out (m := i) (by omega) HC0.out
                    rw [if_neg (by have := HC0.out; omega), show (Kd.int IntKind.i64).sz = 1 from rfl, Nat.mul_one, List.length_drop] at this
                    rw [hT]
                    exact this)
                  have i0 : (0 : Int) ≤ i := by omega
                  have i1 : (i : Int) < xs.length := by omega
                  have t9 : (T.length : Int) ≤ 20 := by omega
                  have hc0 : (xs.length : Int) ≤ c0 := by have := HC0.out; omega
                  clear hlt hF hT hTl
                  go_wp2_with (first
                    | (go_at_call 15; refine (ints_n _ _ _ _ T _ _ _ T rfl HTL.out HCa.out HCb.out).mono ?_; rintro e w2 ⟨rfl, ⟨m2, rfl⟩⟩; rw [show decide (T = T) = true by simp]; have H15 := Aside0.mk (H14.out.drewN m2))
                    | (go_at_call 14; refine (waits_calls HL6.out.desk HF.out).mono ?_; rintro e w1 ⟨v, rfl, hv, hb⟩; rw [HWS.out] at hv; obtain ⟨A14, c14, rfl⟩ := Kd.R_slice hv; have HB := Lib.hid hb; have H14 := Aside0.mk (made_beside HL6.out hv hb); have HCa := Lib.hid (Kd.R_reads' hv).2.2; have HCb := Lib.hid (Kd.C_below HCd.out hb); clear hv hb))
                  go_loopw [79] (fun v79 wr => ∃ (j : Nat) (ys : List Int), v79 = .int .i64 j ∧ j ≤ T.length ∧ Aside0 (Beside w wr lo K6 (Ph xs 3 3 i) p (.slice A14 T.length c14) ys)) (fun v _ => T.length - (intOf v).toNat)
                  case atStart => exact ⟨0, T, rfl, Nat.zero_le _, H15⟩
                  case round =>
                    obtain ⟨j, ys, rfl, hj, HJ⟩ := hrel
                    clear H15 H14
                    by_cases hlt : j < T.length
                    · obtain ⟨g, rfl, cj, fj⟩ := row_at HJ.out.row hlt
                      have HP := Aside0.mk (HJ.out.put (i := j) 77)
                      have j0 : (0 : Int) ≤ j := by omega
                      have j1 : (j : Int) < T.length := by omega
                      have HLT2 := Lib.hid hlt
                      clear hlt
                      go_wp2
                      go_roundw
                      case rel => exact ⟨j + 1, ys.set j 77, by go_num, by have := HLT2.out; omega, HP⟩
                      case measure => have := HLT2.out; simp [intOf]; omega
                    · have j1 : ¬ (j : Int) < T.length := by omega
                      have HL7 := Aside0.mk HJ.out.live
                      clear hlt HJ
                      go_wp2_with (first
                        | (go_at_call 9; refine (done_calls HL7.out.desk HF.out 1 (rd xs i)).mono ?_; rintro e w3 ⟨he, hl⟩; rw [ph_done HU.out (.inr rfl) HLT.out] at he hl; obtain rfl : e = .returned .nilIface := he; obtain ⟨K7, h7, _⟩ := HL7.out.step hl (ph_fine HU.out (by omega) (by omega) _); have H7 := Aside0.mk h7; clear hl h7)
                        | (go_at_call 13; refine (state_calls HL7.out.desk).mono ?_; rintro e w' ⟨rfl, rfl⟩; rw [HST.out]))
                      go_roundw
                      case rel => (repeat apply Exists.intro); exact ⟨⟨i + 1, K7, by go_num, by have := HLT.out; omega, H7⟩, rfl⟩
                      case measure => have := HLT.out; simp [intOf]; omega
                · have i1 : ¬ (i : Int) < xs.length := by omega
                  obtain rfl : i = xs.length := by omega
                  clear hlt
                  go_wp2
                  go_roundw
                  case rel => exact ⟨2, K6, by rfl, by omega, by rw [ph_end (.inr rfl)] at HL6; exact HL6⟩
                  case measure => simp [intOf]
            · have f1 : True := trivial
              have HLf2 := Aside0.mk (show Live w wr lo K5 ⟨0, [], [], [3]⟩ p from HLf.out)
              have HFf := Lib.hid HLf2.out.fine
              clear HLf
              go_wp2_with (first
                | (go_at_call 10; refine (decided_calls (HLf2.out.stay hb8.out).desk HFf.out 1).mono ?_; rintro e w' ⟨rfl, rfl⟩; rw [show (⟨0, [], [], [3]⟩ : Dk).at_ 1 = 3 from rfl])
                | (go_at_call 14; refine (waits_calls HLf2.out.desk HFf.out).mono ?_; rintro e w8 ⟨v, rfl, hv, hb⟩; have hb8 := Lib.hid hb; obtain ⟨A8, c8, rfl⟩ := Kd.R_slice (show (Kd.int .i64).R 3 w8 wr.heap.size (fun _ => True) v [] from hv); clear hv hb; try simp only [List.length_nil])
                | (go_at_call 13; refine (state_calls HLf2.out.desk).mono ?_; rintro e w' ⟨rfl, rfl⟩; rw [show (⟨0, [], [], [3]⟩ : Dk).st = 0 from rfl]))
              go_ret
              exact ⟨rfl, (HLf2.out.stay hb8.out).below⟩
  · have HN := Lib.hid (show Dk.new.beginR xs = (0, 1, Dk.new) from Dk.beginR_arg rfl (by
      by_cases hx : xs = []
      · exact .inl hx
      · exact .inr fun hu => hok ⟨hx, hu⟩))
    clear hok
    go_enter Try.func4, Try.ntmps4
    go_wp2_with (first
      | (go_at_call 13; refine (state_calls H4.out.live.desk).mono ?_; rintro e w' ⟨rfl, rfl⟩; rw [show Dk.new.st = 0 from rfl])
      | (go_at_call 7; refine (begin_calls HI.out.live.desk HI.out.live.fine (by simp [Dk.new]) A2 k2 xs (Kd.R_reads' HI.out.row).2.2 (by omega)).mono ?_; rintro e w4 ⟨he, hl⟩; rw [HN.out] at he hl; obtain rfl : e = .returned (.tuple #[.int .i64 0, .iface 46 (.int .i64 1)]) := he; obtain ⟨K4, hI4⟩ := HI.out.step hl Fine.new; have H4 := Aside0.mk hI4; clear hl hI4)
      | (at_builtin; refine app_rows w2.heap.size rfl _ _ rfl (.slice (some ⟨w2.heap.size, 0, none⟩) 0 0) [] xs A0 xs.length c0 rfl rfl (empty_row w2 _ _ (Nat.le_refl _) trivial _) (Kd.C_alloc (Kd.C_below HR.out L2.out.below) _) (by simp) (by simp; omega) ?_; intro v3 w3 hr3 hb3; have hI := made_beside L2.out (by simpa using hr3) ((below_alloc (Below.refl _ _) _).trans hb3); obtain ⟨A2, k2, rfl⟩ := Kd.R_slice (show (Kd.int .i64).R 3 w3 w2.heap.size (fun _ => True) v3 xs by simpa using hr3); have HI := Aside0.mk hI; clear hr3 hb3 hI)
      | (go_at_call 6; refine (new_calls _).mono ?_; rintro e w2 ⟨p, K1, rfl, hW, hB, hK⟩; obtain ⟨lo, L2⟩ : ∃ lo, Aside0 (Live w w2 lo K1 Dk.new p) := ⟨_, ⟨hW, Fine.new, HB1.out.trans (hB.mono HB1.out.size), HB1.out.size⟩⟩; clear hW hB hK)
      | (go_at_call 5; refine (awake_calls _).mono ?_; rintro e w1 ⟨rfl, hb1⟩; have HB1 := Aside0.mk hb1; clear hb1))
    go_ret
    exact ⟨rfl, H4.out.live.below⟩
end Go.Proofs.Ytmhfigkdeeldnaa
