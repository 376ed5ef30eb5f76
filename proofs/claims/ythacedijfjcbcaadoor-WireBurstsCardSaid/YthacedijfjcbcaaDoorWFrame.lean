/- wire: Frame, TakeFrame. -/
import Derived.Test.YthacedijfjcbcaaDoorWNum4
import Derived.Test.YthacedijfjcbcaaDoorWTake2
import Derived.IntWalk
namespace Go.Proofs.YthacedijfjcbcaaDoor
open Go.RowKit Go.Proofs.YthacedijfjcbcaaDoorW.PrintWords Go.Proofs.YthacedijfjcbcaaDoorW.PrintLast Go.Proofs.YthacedijfjcbcaaDoorW.PrintMore
set_option linter.unusedVariables false
set_option linter.unusedSimpArgs false

/-- The frame of bytes: how many they are, their sum, they. -/
def frameF (p : List UInt8) : List UInt8 := fourF p.length ++ fourF (sumN p) ++ p
theorem fourF_len (x : Nat) : (fourF x).length = 4 := rfl
theorem frameF_len (p : List UInt8) : (frameF p).length = p.length + 8 := by
  unfold frameF
  rw [List.length_append, List.length_append, fourF_len, fourF_len]
  omega
set_option maxRecDepth 100000 in
theorem frame_calls (w : World) (A : Option Addr) (c : Nat) (p : List UInt8) (hx : kB.C w A p.length p) (hl : p.length ≤ 1048576) :
    Calls Tryd.prog 15 #[.slice A p.length c] w fun e w' => ∃ B d, e = .returned (.tuple #[.slice B (frameF p).length d, .nilIface]) ∧ (frameF p).length ≤ d ∧ kB.R 5 w' w.heap.size (fun _ => True) (.slice B (frameF p).length d) (frameF p) ∧ Below w.heap.size w w' := by
  have HX := Lib.hid hx
  have HL := Lib.hid hl
  have h1 : (p.length : Int) ≤ 1048576 := by omega
  clear hx hl
  go_enter Tryd.func15, Tryd.ntmps15
  go_wp2_with (first
    | (go_at_call 31; refine (put_calls _ _ _ L _ _ p HC3.out (Kd.C_below HX.out (below_then (below_then HB1.out HB1.out.size HB2.out) HS2.out HB3.out)) (by have := HL.out; rw [HQ.out, List.length_append, fourF_len, fourF_len]; omega)).mono ?_; intro e w4 h4; rw [HQ.out] at h4; obtain ⟨M, hM⟩ : ∃ M, M = frameF p := ⟨_, rfl⟩; change NewBytes w3 (frameF p) e w4 at h4; rw [← hM] at h4; have HM := Lib.hid hM; obtain ⟨A4, c4, rfl, hc4, hr, _, hb⟩ := h4.open_; have HR4 := Aside0.mk hr; have HB4 := Aside0.mk hb; have HC4 := Lib.hid hc4; clear h4 hr hb hM hc4)
    | (go_at_call 31; refine (put_calls _ _ _ (fourF p.length) _ _ (fourF (sumN p)) (Kd.C_below HC1.out HB2.out) HC2.out (by rw [fourF_len, fourF_len]; decide)).mono ?_; intro e w3 h3; obtain ⟨L, hL⟩ : ∃ L, L = fourF p.length ++ fourF (sumN p) := ⟨_, rfl⟩; rw [← hL] at h3; have HQ := Lib.hid hL; obtain ⟨A3, c3, rfl, _, _, hC, hb⟩ := h3.open_; have HC3 := Aside0.mk hC; have HB3 := Aside0.mk hb; have HS2 := Aside0.mk (Nat.le_trans HB1.out.size HB2.out.size); clear h3 hC hb hL)
    | (go_at_call_of 37 (Value.int .u32 (sumN p : Int)); refine (four_calls _ (sumN p) (sumN_lt p)).mono ?_; intro e w2 h2; obtain ⟨A2, c2, rfl, _, _, hC, hb⟩ := h2.open_; have HC2 := Aside0.mk hC; have HB2 := Aside0.mk hb; clear h2 hC hb)
    | (go_at_call 37; refine (four_calls _ p.length (by have := HL.out; omega)).mono ?_; intro e w1 h1; obtain ⟨A1, c1, rfl, _, _, hC, hb⟩ := h1.open_; have HC1 := Aside0.mk hC; have HB1 := Aside0.mk hb; clear h1 hC hb)
    | (go_at_call 19; refine (sum_calls _ _ _ p (Kd.C_below HX.out HB1.out)).mono ?_; rintro e w1' ⟨rfl, rfl⟩))
  go_ret2
  rw [← HM.out]
  exact ⟨_, _, rfl, HC4.out, Kd.R_lower HR4.out (Nat.le_trans HS2.out HB3.out.size), below_then (below_then (below_then HB1.out HB1.out.size HB2.out) HS2.out HB3.out) (Nat.le_trans HS2.out HB3.out.size) HB4.out⟩

/-- The number that stands at a place in bytes. -/
def numA (b : List UInt8) (k : Nat) : Nat := numF (gb b k) (gb b (k + 1)) (gb b (k + 2)) (gb b (k + 3))
theorem four_at (b : List UInt8) (k : Nat) (h : k + 4 ≤ b.length) : (b.take (k + 4)).drop k = [gb b k, gb b (k + 1), gb b (k + 2), gb b (k + 3)] := by
  apply List.ext_getElem
  · rw [List.length_drop, List.length_take]; simp; omega
  · intro i h1 h2
    rw [List.getElem_drop, List.getElem_take]
    have hi : i < 4 := by simpa using h2
    rw [← gb_get b (k + i) (by omega)]
    rcases i with _ | _ | _ | _ | i
    · rfl
    · rfl
    · rfl
    · rfl
    · omega
/-- TakeFrame: what is in the frame, the place behind it, the error. -/
def takeF (b : List UInt8) (f : Int) : List UInt8 × Int × Er :=
  if 0 ≤ f ∧ f ≤ b.length then
    let r := b.drop f.toNat
    if r.length < 8 then ([], 0, .at_ 1 b.length 6)
    else if 1048576 < numA r 0 then ([], 0, .at_ 1 f 2)
    else if r.length - 8 < numA r 0 then ([], 0, .at_ 1 b.length 6)
    else if sumN ((r.take (8 + numA r 0)).drop 8) ≠ numA r 4 then ([], 0, .at_ 1 (f + 4) 7)
    else ((r.take (8 + numA r 0)).drop 8, f + 8 + numA r 0, .ok)
  else ([], 0, .num 1)
def TakeFPost (w : World) (b : List UInt8) (from_ : Int) (e : Ending) (w' : World) : Prop :=
  ∃ p v, e = .returned (.tuple #[p, .int .i64 (takeF b from_).2.1, v]) ∧ kB.R 5 w' w.heap.size (fun _ => True) p (takeF b from_).1 ∧ IsEr w' w.heap.size (takeF b from_).2.2 v ∧ Below w.heap.size w w'
/-- b[:hi]. -/
theorem B_head {w : World} {A : Option Addr} {c hi : Nat} {b : List UInt8} (h : kB.C w A b.length b) (h2 : hi ≤ b.length) (hc : b.length ≤ c) (y : Int) (hy : y = (hi : Int)) :
    ∃ A', (∀ W : World, (Instr.slice 23 (.slice A b.length c) none (some (.int .i64 y)) none).run Tryd.prog W = .ok (.slice A' ((b.take hi).drop 0).length c) W) ∧ kB.C w A' ((b.take hi).drop 0).length ((b.take hi).drop 0) ∧ ((b.take hi).drop 0).length ≤ c := by
  subst hy
  have hl : ((b.take hi).drop 0).length = hi := by rw [List.length_drop, List.length_take]; omega
  have hC := Kd.C_mid (k := kB) h (Nat.zero_le hi) h2 hc
  refine ⟨if c = 0 then A else A.map (·.add (0 * kB.sz)), fun W => ?_, hC, by omega⟩
  obtain ⟨i0, hi0, hz0, hz1, hz2⟩ := info_parts info5
  have ht := Tryd.underlying23
  have hel : Tryd.prog.elem 23 = 5 := by simp [Program.elem, ht]
  have hu : Tryd.prog.underlying 23 = some (.slice (Tryd.prog.elem 23)) := by rw [hel]; exact ht
  rw [run_slice_h (w := W) 23 A b.length c hu .i64 (hi : Int) (by omega) (by omega), hel, hl]
  have e1 : kB.sz = 1 := rfl
  simp [sizeOf, typeInfo, hi0, hz1, sliced, Result.andThen, e1]

set_option maxRecDepth 100000 in
set_option maxHeartbeats 2000000 in
theorem takeFrame_calls (w : World) (A : Option Addr) (c : Nat) (b : List UInt8) (from_ : Int) (hx : kB.C w A b.length b) (hc : b.length ≤ c) (hl : b.length ≤ 1099511627776) :
    Calls Tryd.prog 21 #[.slice A b.length c, .int .i64 from_] w (TakeFPost w b from_) := by
  have HX := Lib.hid hx
  have HC := Lib.hid hc
  have hl1 : (b.length : Int) ≤ 1099511627776 := by omega
  clear hx
  by_cases h0 : from_ < 0
  · have HE := Lib.hid (show takeF b from_ = ([], 0, .num 1) by unfold takeF; rw [if_neg (by omega)])
    go_enter Tryd.func21, Tryd.ntmps21
    go_wp2
    go_ret3
    unfold TakeFPost
    rw [HE.out]
    exact ⟨_, _, rfl, Kd.R_nil _ _ _ _ _, rfl, Below.refl _ _⟩
  · by_cases h1 : (b.length : Int) < from_
    · have HE := Lib.hid (show takeF b from_ = ([], 0, .num 1) by unfold takeF; rw [if_neg (by omega)])
      go_enter Tryd.func21, Tryd.ntmps21
      go_wp2
      go_ret3
      unfold TakeFPost
      rw [HE.out]
      exact ⟨_, _, rfl, Kd.R_nil _ _ _ _ _, rfl, Below.refl _ _⟩
    · obtain ⟨f, rfl⟩ := Int.eq_ofNat_of_zero_le (Int.not_lt.1 h0)
      have hf : f ≤ b.length := by omega
      obtain ⟨r, hr⟩ : ∃ r, r = b.drop f := ⟨_, rfl⟩
      have hE : takeF b (f : Int) = if r.length < 8 then (([], 0, .at_ 1 b.length 6) : List UInt8 × Int × Er)
          else if 1048576 < numA r 0 then ([], 0, .at_ 1 (f : Int) 2)
          else if r.length - 8 < numA r 0 then ([], 0, .at_ 1 b.length 6)
          else if sumN ((r.take (8 + numA r 0)).drop 8) ≠ numA r 4 then ([], 0, .at_ 1 (f + 4) 7)
          else ((r.take (8 + numA r 0)).drop 8, (f : Int) + 8 + numA r 0, .ok) := by
        rw [hr]
        unfold takeF
        rw [if_pos (by omega)]
        rfl
      obtain ⟨A', hcut, hD, hc2⟩ := B_cut HX.out hf hc
      rw [← hr] at hcut hD hc2
      have hrl : r.length = b.length - f := by rw [hr, List.length_drop]
      have hrl1 : (r.length : Int) ≤ 1099511627776 := by omega
      have f0 : (0 : Int) ≤ f := by omega
      have f1 : (f : Int) ≤ b.length := by omega
      have f2 : (f : Int) ≤ c := by omega
      have HRL := Lib.hid hrl
      clear h0 h1 hr hrl
      by_cases h8 : r.length < 8
      · have h8' : (r.length : Int) < 8 := by omega
        have HE := Lib.hid (show takeF b (f : Int) = ([], 0, .at_ 1 b.length 6) by rw [hE, if_pos h8])
        clear hE hf hD h8 hc2
        go_enter Tryd.func21, Tryd.ntmps21
        go_wp2_with (go_at_call 33; refine (at_calls _ _ _).mono ?_; rintro e w1 ⟨v, rfl, hv, hb⟩; have HVV := Aside0.mk hv; have HBB := Aside0.mk hb; clear hv hb)
        go_ret3
        unfold TakeFPost
        rw [HE.out]
        exact ⟨_, _, rfl, Kd.R_nil _ _ _ _ _, HVV.out, HBB.out⟩
      · have h8' : ¬ (r.length : Int) < 8 := by omega
        rw [if_neg h8] at hE
        obtain ⟨A0, hcut0, hD0, _⟩ := B_head (hi := 4) hD (by omega) hc2 4 rfl
        have e0 := four_at r 0 (by omega)
        rw [show 0 + 4 = 4 from rfl] at e0
        rw [e0] at hcut0 hD0
        replace hcut0 : ∀ W : World, (Instr.slice 23 (.slice A' r.length (c - f)) none (some (.int .i64 4)) none).run Tryd.prog W = .ok (.slice A0 4 (c - f)) W := hcut0
        replace hD0 : kB.C w A0 4 [gb r 0, gb r 1, gb r 2, gb r 3] := hD0
        have HD0 := Aside0.mk hD0
        obtain ⟨n, hn⟩ : ∃ n, n = numA r 0 := ⟨_, rfl⟩
        have hnl : n < 4294967296 := by rw [hn]; exact numF_lt _ _ _ _
        rw [← hn] at hE
        have HN := Lib.hid (show numF (gb r 0) (gb r 1) (gb r 2) (gb r 3) = n from hn.symm)
        have n1 : (n : Int) ≤ 4294967295 := by omega
        clear hD0 e0 hn
        by_cases hm : 1048576 < n
        · have hm' : (1048576 : Int) < n := by omega
          have HE := Lib.hid (show takeF b (f : Int) = ([], 0, .at_ 1 f 2) by rw [hE, if_pos hm])
          clear hE hf hD h8 hc2 hm hnl
          go_enter Tryd.func21, Tryd.ntmps21
          go_wp2_with (first
            | (go_at_call 40; refine (number_calls _ _ _ _ _ _ _ HD0.out).mono ?_; rintro e w1 ⟨rfl, rfl⟩; rw [HN.out])
            | (go_at_call 33; refine (at_calls _ _ _).mono ?_; rintro e w1 ⟨v, rfl, hv, hb⟩; have HVV := Aside0.mk hv; have HBB := Aside0.mk hb; clear hv hb))
          go_ret3
          unfold TakeFPost
          rw [HE.out]
          exact ⟨_, _, rfl, Kd.R_nil _ _ _ _ _, HVV.out, HBB.out⟩
        · have hm' : ¬ (1048576 : Int) < n := by omega
          rw [if_neg hm] at hE
          by_cases hs : r.length - 8 < n
          · have hs' : (r.length : Int) - 8 < n := by omega
            have HE := Lib.hid (show takeF b (f : Int) = ([], 0, .at_ 1 b.length 6) by rw [hE, if_pos hs])
            clear hE hf hD h8 hc2 hm hnl hs
            go_enter Tryd.func21, Tryd.ntmps21
            go_wp2_with (first
              | (go_at_call 40; refine (number_calls _ _ _ _ _ _ _ HD0.out).mono ?_; rintro e w1 ⟨rfl, rfl⟩; rw [HN.out])
              | (go_at_call 33; refine (at_calls _ _ _).mono ?_; rintro e w1 ⟨v, rfl, hv, hb⟩; have HVV := Aside0.mk hv; have HBB := Aside0.mk hb; clear hv hb))
            go_ret3
            unfold TakeFPost
            rw [HE.out]
            exact ⟨_, _, rfl, Kd.R_nil _ _ _ _ _, HVV.out, HBB.out⟩
          · have hs' : ¬ (r.length : Int) - 8 < n := by omega
            rw [if_neg hs] at hE
            obtain ⟨A1, hcut1, hD1, _⟩ := B_win (lo := 8) (hi := 8 + n) hD (by omega) (by omega) hc2 8 (8 + (n : Int)) rfl (by simp)
            obtain ⟨q, hq⟩ : ∃ q, q = (r.take (8 + n)).drop 8 := ⟨_, rfl⟩
            have hql : q.length = n := by rw [hq, List.length_drop, List.length_take]; omega
            rw [← hq] at hcut1 hD1 hE
            obtain ⟨A2, hcut2, hD2, _⟩ := B_win (lo := 4) (hi := 8) hD (by omega) (by omega) hc2 4 8 rfl rfl
            have e2 := four_at r 4 (by omega)
            rw [show 4 + 4 = 8 from rfl] at e2
            rw [e2] at hcut2 hD2
            replace hcut2 : ∀ W : World, (Instr.slice 23 (.slice A' r.length (c - f)) (some (.int .i64 4)) (some (.int .i64 8)) none).run Tryd.prog W = .ok (.slice A2 4 (c - f - 4)) W := hcut2
            replace hD2 : kB.C w A2 4 [gb r 4, gb r 5, gb r 6, gb r 7] := hD2
            have HD1 := Aside0.mk hD1
            have HD2 := Aside0.mk hD2
            obtain ⟨y, hy⟩ : ∃ y, y = numA r 4 := ⟨_, rfl⟩
            rw [← hy] at hE
            have HY := Lib.hid (show numF (gb r 4) (gb r 5) (gb r 6) (gb r 7) = y from hy.symm)
            have HQL := Lib.hid (show q.length ≤ 1099511627776 by omega)
            obtain ⟨s, hsm⟩ : ∃ s, s = sumN q := ⟨_, rfl⟩
            rw [← hsm] at hE
            have HS := Lib.hid hsm.symm
            have hwr : IntKind.i64.wrap (8 + (n : Int)) = 8 + n := IntWalk.i64_in _ (by omega)
            by_cases hsy : s = y
            · have hdec : (((sumN q : Nat) : Int) == ((numF (gb r 4) (gb r 5) (gb r 6) (gb r 7) : Nat) : Int)) = true := beq_iff_eq.2 (by have := HS.out; have := HY.out; omega)
              have HE := Lib.hid (show takeF b (f : Int) = (q, (f : Int) + 8 + n, .ok) by rw [hE, if_neg (by simpa using hsy)])
              clear hE hf hD h8 hc2 hm hnl hs hq hql hD1 hD2 e2 hy hsm hsy
              go_enter Tryd.func21, Tryd.ntmps21
              go_wp2_with (first
                | (go_at_call 40; refine (number_calls _ _ _ _ _ _ _ HD0.out).mono ?_; rintro e w1 ⟨rfl, rfl⟩; rw [HN.out]))
              go_quiet ((first
                | (go_at_call 19; exact Calls.quiet_of_same ((sum_calls _ _ _ q (Kd.C_drewN HD1.out _)).mono fun _ _ ⟨h, k⟩ => ⟨h, k.symm⟩))
                | (go_at_call 40; exact Calls.quiet_of_same ((number_calls _ _ _ _ _ _ _ (Kd.C_drewN HD2.out _)).mono fun _ _ ⟨h, k⟩ => ⟨h, k.symm⟩))))
              go_wp2_with (go_at_call 36; refine (cloneB_calls _ _ _ q (Kd.C_drewN HD1.out _) HQL.out).mono ?_; rintro e w2 ⟨v, rfl, hv, hb⟩; have HVV := Aside0.mk hv; have HBB := Aside0.mk hb; clear hv hb)
              go_ret3
              unfold TakeFPost
              rw [HE.out]
              exact ⟨_, _, rfl, HVV.out, rfl, (pw_below_drewN (Below.refl _ _) _).trans HBB.out⟩
            · have hdec : (((sumN q : Nat) : Int) == ((numF (gb r 4) (gb r 5) (gb r 6) (gb r 7) : Nat) : Int)) = false := beq_eq_false_iff_ne.2 (by have := HS.out; have := HY.out; omega)
              have HE := Lib.hid (show takeF b (f : Int) = ([], 0, .at_ 1 ((f : Int) + 4) 7) by rw [hE, if_pos hsy])
              clear hE hf hD h8 hc2 hm hnl hs hq hql hD1 hD2 e2 hy hsm hsy
              go_enter Tryd.func21, Tryd.ntmps21
              go_wp2_with (first
                | (go_at_call 40; refine (number_calls _ _ _ _ _ _ _ HD0.out).mono ?_; rintro e w1 ⟨rfl, rfl⟩; rw [HN.out]))
              go_quiet ((first
                | (go_at_call 19; exact Calls.quiet_of_same ((sum_calls _ _ _ q (Kd.C_drewN HD1.out _)).mono fun _ _ ⟨h, k⟩ => ⟨h, k.symm⟩))
                | (go_at_call 40; exact Calls.quiet_of_same ((number_calls _ _ _ _ _ _ _ (Kd.C_drewN HD2.out _)).mono fun _ _ ⟨h, k⟩ => ⟨h, k.symm⟩))))
              go_wp2_with (go_at_call 33; refine (at_calls _ _ _).mono ?_; rintro e w1 ⟨v, rfl, hv, hb⟩; have HVV := Aside0.mk hv; have HBB := Aside0.mk hb; clear hv hb)
              go_ret3
              unfold TakeFPost
              rw [HE.out]
              exact ⟨_, _, rfl, Kd.R_nil _ _ _ _ _, HVV.out, (pw_below_drewN (Below.refl _ _) _).trans HBB.out⟩
end Go.Proofs.YthacedijfjcbcaaDoor
