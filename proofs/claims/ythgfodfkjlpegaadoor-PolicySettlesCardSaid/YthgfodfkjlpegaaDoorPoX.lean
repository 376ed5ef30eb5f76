/- Choose, Sums, Settle. -/
import Derived.Test.YthgfodfkjlpegaaDoorPoZ
namespace Go.Proofs.YthgfodfkjlpegaaDoor
open Go.RowKit Go.Proofs.YthgfodfkjlpegaaDoorW.PrintWords Go.Proofs.YthgfodfkjlpegaaDoorW.PrintLast Go.Proofs.YthgfodfkjlpegaaDoorW.PrintMore
set_option linter.unusedVariables false
set_option linter.unusedSimpArgs false
theorem chooseOf_bad {nodes : List Int} {l : List Ld} (h : chk nodes l ≠ .ok) : chooseOf nodes l = (0, 0, chk nodes l) := by
  unfold chooseOf
  cases he : chk nodes l with
  | ok => exact absurd he h
  | num c => rfl
  | at_ a b c => rfl
theorem chooseOf_none {nodes : List Int} {l : List Ld} (h : chk nodes l = .ok) (hp : pickI nodes l < 0) : chooseOf nodes l = (0, 0, .num 10) := by simp [chooseOf, h, hp]
theorem chooseOf_some {nodes : List Int} {l : List Ld} (h : chk nodes l = .ok) (hp : ¬ pickI nodes l < 0) : chooseOf nodes l = ((ldAt l (pickI nodes l).toNat).sub, loN nodes l, .ok) := by
  unfold chooseOf
  rw [h]
  simp only [if_neg hp]
set_option maxRecDepth 100000 in
theorem choose_calls (w : World) (A B : Option Addr) (c d : Nat) (nodes : List Int) (l : List Ld) (hr : (Kd.int .i64).C w A nodes.length nodes) (hl : kLd.C w B l.length l) (hwf : ∀ x ∈ l, (Lit.int .i64 x.sub).wf = true) (hN : nodes.length ≤ 1000) :
    Calls Tryd.prog 6 #[.slice A nodes.length c, .slice B l.length d] w fun e w' => ∃ v, e = .returned (.tuple #[.int .i64 (chooseOf nodes l).1, .int .i64 (chooseOf nodes l).2.1, v]) ∧ IsEr w' w.heap.size (chooseOf nodes l).2.2 v ∧ Below w.heap.size w w' := by
  have HR := Lib.hid hr
  have HL := Lib.hid hl
  have HWF := Lib.hid hwf
  have HM := Lib.hid hN
  clear hr hl hwf hN
  by_cases hc : chk nodes l = .ok
  · have HG := Lib.hid (chk_good.1 hc)
    have HC := Lib.hid hc
    clear hc
    by_cases hp : pickI nodes l < 0
    · obtain ⟨q, hq⟩ : ∃ q, q = pickI nodes l := ⟨_, rfl⟩
      have HQ := Lib.hid hq
      have HCH := Lib.hid (chooseOf_none HC.out hp)
      rw [← hq] at hp
      clear hq
      go_enter Tryd.func6, Tryd.ntmps6
      go_wp2_with (first
        | (go_at_call 17; refine (check_calls _ _ _ _ _ nodes l HR.out HL.out HWF.out).mono ?_; rintro e w1 ⟨v, rfl, hv, hb⟩; rw [HC.out] at hv; obtain rfl := hv; have HB := Aside0.mk hb; clear hb)
        | (go_at_call 18; refine (pick2_calls _ _ _ _ _ nodes l (Kd.C_below HR.out HB.out) (kLd.C_below HL.out HB.out) HM.out HG.out).mono ?_; rintro e w2 ⟨rfl, hb⟩; have HB2 := Aside0.mk (below_step HB.out hb); clear hb; rw [← HQ.out]))
      go_ret3
      rw [HCH.out]
      exact ⟨_, rfl, rfl, HB2.out⟩
    · obtain ⟨q, hq⟩ : ∃ q : Nat, pickI nodes l = q := ⟨(pickI nodes l).toNat, by omega⟩
      have hql : q < l.length := by have := (pickI_bound nodes l).2; omega
      have HQ := Lib.hid hq
      have HCH := Lib.hid (chooseOf_some HC.out hp)
      have hp2 : ¬ (q : Int) < 0 := by omega
      have q0 : (0 : Int) ≤ q := by omega
      have q1 : (q : Int) < l.length := by omega
      have HQL := Lib.hid hql
      clear hp hq hql
      obtain ⟨ad, rfl, -⟩ := Ld_cell HL.out HQL.out
      go_enter Tryd.func6, Tryd.ntmps6
      go_wp2_with (first
        | (go_at_call 17; refine (check_calls _ _ _ _ _ nodes l HR.out HL.out HWF.out).mono ?_; rintro e w1 ⟨v, rfl, hv, hb⟩; rw [HC.out] at hv; obtain rfl := hv; have HB := Aside0.mk hb; clear hb)
        | (go_at_call 18; refine (pick2_calls _ _ _ _ _ nodes l (Kd.C_below HR.out HB.out) (kLd.C_below HL.out HB.out) HM.out HG.out).mono ?_; rintro e w2 ⟨rfl, hb⟩; have HB2 := Aside0.mk (below_step HB.out hb); clear hb; rw [HQ.out]; obtain ⟨_, e2, b0, -⟩ := Ld_cell (kLd.C_below HL.out HB2.out) HQL.out; cases e2))
      go_ret3
      rw [HCH.out, HQ.out]
      exact ⟨_, rfl, rfl, HB2.out⟩
  · have HC := Lib.hid (chooseOf_bad hc)
    have HBAD := Lib.hid hc
    clear hc
    go_enter Tryd.func6, Tryd.ntmps6
    go_wp2_with (go_at_call 17; refine (check_calls _ _ _ _ _ nodes l HR.out HL.out HWF.out).mono ?_; rintro e w1 ⟨v, rfl, hv, hb⟩; have HV := Aside0.mk hv; obtain ⟨t, u, rfl⟩ := hv.bad HBAD.out; have HB := Aside0.mk hb; clear hb hv)
    go_ret3
    rw [HC.out]
    exact ⟨_, rfl, HV.out, HB.out⟩
set_option maxRecDepth 100000 in
theorem sums2_calls (w : World) (A B : Option Addr) (c d : Nat) (nodes : List Int) (l : List Ld) (hr : (Kd.int .i64).C w A nodes.length nodes) (hl : kLd.C w B l.length l) (hwf : ∀ x ∈ l, (Lit.int .i64 x.sub).wf = true) (hN : nodes.length ≤ 1000) :
    Calls Tryd.prog 10 #[.slice A nodes.length c, .slice B l.length d] w fun e w' => ∃ u v, e = .returned (.tuple #[u, v]) ∧ IsEr w' w.heap.size (chk nodes l) v ∧
      (chk nodes l = .ok → (Kd.int .i64).R 3 w' w.heap.size (fun _ => True) u (sumsOf nodes l)) ∧ (chk nodes l ≠ .ok → u = .slice none 0 0) ∧ Below w.heap.size w w' := by
  have HR := Lib.hid hr
  have HL := Lib.hid hl
  have HWF := Lib.hid hwf
  have HM := Lib.hid hN
  clear hr hl hwf hN
  by_cases hc : chk nodes l = .ok
  · have HG := Lib.hid (chk_good.1 hc)
    have HC := Lib.hid hc
    clear hc
    go_enter Tryd.func10, Tryd.ntmps10
    go_wp2_with (first
      | (go_at_call 17; refine (check_calls _ _ _ _ _ nodes l HR.out HL.out HWF.out).mono ?_; rintro e w1 ⟨v, rfl, hv, hb⟩; rw [HC.out] at hv; obtain rfl := hv; have HB := Aside0.mk hb; clear hb)
      | (go_at_call 23; refine (sums_calls _ _ _ _ _ nodes l (Kd.C_below HR.out HB.out) (kLd.C_below HL.out HB.out) HG.out.nodup HM.out HG.out.fine).mono ?_; rintro e w2 ⟨S, hS, rfl, hR, hb⟩; have HS := Lib.hid hS; have HRR := Aside0.mk hR; have HB2 := Aside0.mk hb; clear hb hR hS))
    go_ret2
    rw [HC.out, ← HS.out]
    exact ⟨_, _, rfl, rfl, fun _ => Kd.R_lower HRR.out HB.out.size, fun h => absurd rfl h, below_step HB.out HB2.out⟩
  · have HBAD := Lib.hid hc
    clear hc
    go_enter Tryd.func10, Tryd.ntmps10
    go_wp2_with (go_at_call 17; refine (check_calls _ _ _ _ _ nodes l HR.out HL.out HWF.out).mono ?_; rintro e w1 ⟨v, rfl, hv, hb⟩; have HV := Aside0.mk hv; obtain ⟨t, u, rfl⟩ := hv.bad HBAD.out; have HB := Aside0.mk hb; clear hb hv)
    go_ret2
    exact ⟨_, _, rfl, HV.out, fun h => absurd h HBAD.out, fun _ => rfl, HB.out⟩
end Go.Proofs.YthgfodfkjlpegaaDoor
