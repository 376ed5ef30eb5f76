/- What a desk tells: New, State, Change, Decided, Waits, now. -/
import Derived.Test.YtmhfigkdeeldnaaDoorCmRep
import Derived.Test.YtmhfigkdeeldnaaDoorCmState
import Derived.Test.YtmhfigkdeeldnaaDoorClone
namespace Go.Proofs.YtmhfigkdeeldnaaDoor
open Go.RowKit Go.Proofs.YtmhfigkdeeldnaaDoorW.PrintWords Go.Proofs.YtmhfigkdeeldnaaDoorW.PrintLast Go.Proofs.YtmhfigkdeeldnaaDoorW.PrintMore
set_option linter.unusedVariables false
set_option linter.unusedSimpArgs false

set_option maxRecDepth 100000 in
theorem new_calls (w : World) : Calls Tryd.prog 6 #[] w fun e w' => ∃ p K, e = .returned (.pointer (some ⟨p, 0, none⟩)) ∧ IsDesk w' w.heap.size K Dk.new p ∧ Below w.heap.size w w' ∧ ∀ k, K k → w.heap.size ≤ k := by
  go_enter Tryd.func6, Tryd.ntmps6
  go_wp2
  go_ret
  refine ⟨_, (· = w.heap.size), rfl, ⟨none, 0, none, 0, none, 0, ?_, Kd.R_nil _ _ _ _ _, Kd.R_nil _ _ _ _ _, Kd.R_nil _ _ _ _ _, ?_, ?_, ?_, rfl, ?_⟩, below_alloc (Below.refl _ _) _, fun k hk => by omega⟩
  · simpa [Dk.new] using heap_alloc_new w (.cells #[.int .i64 0, .slice none 0 0, .slice none 0 0, .slice none 0 0] 55)
  · intro k h; simp [Value.ownBlock] at h
  · intro k h; simp [Value.ownBlock] at h
  · intro k h; simp [Value.ownBlock] at h
  · intro k hk; subst hk; simp
section
variable {w : World} {lo p : Nat} {K : Nat → Prop} {D : Dk}
set_option maxRecDepth 100000 in
theorem state_calls (hW : IsDesk w lo K D p) :
    Calls Tryd.prog 16 #[.pointer (some ⟨p, 0, none⟩)] w fun e w' => e = .returned (.int .i64 D.st) ∧ w = w' := by
  obtain ⟨Aw, cw, An, cn, Ad, cd, z⟩ := hW
  have c0 := blk_cell z.blk 0
  simp at c0
  clear z
  go_enter Tryd.func16, Tryd.ntmps16
  go_wp2
  go_ret
  exact ⟨rfl, rfl⟩
set_option maxRecDepth 100000 in
theorem change_calls (hW : IsDesk w lo K D p) :
    Calls Tryd.prog 17 #[.pointer (some ⟨p, 0, none⟩)] w fun e w' => e = .returned (.int .i64 D.dc.length) ∧ w = w' := by
  obtain ⟨Aw, cw, An, cn, Ad, cd, z⟩ := hW
  have c0 := blk_cell z.blk 3
  simp at c0
  clear z
  go_enter Tryd.func17, Tryd.ntmps17
  go_wp2
  go_ret
  exact ⟨rfl, rfl⟩
set_option maxRecDepth 100000 in
theorem waits_calls (hW : IsDesk w lo K D p) (hF : Fine D) :
    Calls Tryd.prog 18 #[.pointer (some ⟨p, 0, none⟩)] w fun e w' => ∃ v, e = .returned v ∧ (Kd.int .i64).R 3 w' w.heap.size (fun _ => True) v D.ws ∧ Below w.heap.size w w' := by
  obtain ⟨Aw, cw, An, cn, Ad, cd, z⟩ := hW
  have c0 := blk_cell z.blk 1
  simp at c0
  have HC := Lib.hid (Kd.R_reads' z.rw).2.2
  have h9 := Lib.hid hF.w9
  clear z hF
  go_enter Tryd.func18, Tryd.ntmps18
  go_wp2_with (go_at_call 29; refine (clone_calls _ _ _ D.ws HC.out (by have := h9.out; omega)).mono ?_; rintro e w1 ⟨v, rfl, hv, hb⟩; have HV := Aside0.mk hv; have HB := Aside0.mk hb; clear hv hb)
  go_ret
  exact ⟨_, rfl, HV.out, HB.out⟩
set_option maxRecDepth 100000 in
theorem decided_calls (hW : IsDesk w lo K D p) (hF : Fine D) (i : Int) :
    Calls Tryd.prog 19 #[.pointer (some ⟨p, 0, none⟩), .int .i64 i] w fun e w' => e = .returned (.int .i64 (D.at_ i)) ∧ w = w' := by
  obtain ⟨Aw, cw, An, cn, Ad, cd, z⟩ := hW
  have c0 := blk_cell z.blk 3
  simp at c0
  have HC := Lib.hid (Kd.R_reads' z.rd).2.2
  have dm : (D.dc.length : Int) ≤ 1000 := by have := hF.dm; omega
  clear z hF
  by_cases h1 : i < 1
  · have HD : Hid (D.at_ i = 0) := by unfold Hid Dk.at_; rw [if_neg (by omega)]
    go_enter Tryd.func19, Tryd.ntmps19
    go_wp2
    go_ret
    rw [HD.out]
    exact ⟨rfl, rfl⟩
  · by_cases h2 : (D.dc.length : Int) < i
    · have HD : Hid (D.at_ i = 0) := by unfold Hid Dk.at_; rw [if_neg (by omega)]
      go_enter Tryd.func19, Tryd.ntmps19
      go_wp2
      go_ret
      rw [HD.out]
      exact ⟨rfl, rfl⟩
    · obtain ⟨j, rfl⟩ : ∃ j : Nat, i = (j : Int) + 1 := ⟨(i - 1).toNat, by omega⟩
      have hj : j < D.dc.length := by omega
      have HD : Hid (D.at_ ((j : Int) + 1) = rd D.dc j) := by
        unfold Hid Dk.at_
        rw [if_pos (by omega)]
        congr 1
        omega
      obtain ⟨ad, rfl, hcell⟩ := C_cell HC.out hj
      have j0 : (0 : Int) ≤ j := by omega
      have j1 : (j : Int) < D.dc.length := by omega
      clear hj
      go_enter Tryd.func19, Tryd.ntmps19
      go_wp2
      go_ret
      rw [HD.out]
      exact ⟨rfl, rfl⟩
set_option maxRecDepth 100000 in
theorem now_calls (hW : IsDesk w lo K D p) (i : Int) (A : Option Addr) (c : Nat) (ss : List Int) (hs : (Kd.int .i64).C w A ss.length ss) :
    Calls Tryd.prog 33 #[.pointer (some ⟨p, 0, none⟩), .int .i64 i, .slice A ss.length c] w fun e w' => e = .returned (.bool (i == D.dc.length && decide (D.st ∈ ss))) ∧ w = w' := by
  obtain ⟨Aw, cw, An, cn, Ad, cd, z⟩ := hW
  have c0 := blk_cell z.blk 0
  have c3 := blk_cell z.blk 3
  simp at c0 c3
  have HS := Lib.hid hs
  clear z hs
  by_cases hi : i = D.dc.length
  · have hb : (i == (D.dc.length : Int)) = true := beq_iff_eq.2 hi
    have HB := Lib.hid hb
    clear hi
    go_enter Tryd.func33, Tryd.ntmps33
    go_wp2_with (go_at_call 39; refine (containsS_calls _ _ _ ss _ HS.out).mono ?_; rintro e w' ⟨rfl, rfl⟩)
    go_ret
    rw [HB.out, Bool.true_and]
    exact ⟨rfl, rfl⟩
  · have hb : (i == (D.dc.length : Int)) = false := beq_eq_false_iff_ne.2 hi
    have HB := Lib.hid hb
    clear hi
    go_enter Tryd.func33, Tryd.ntmps33
    go_wp2
    go_ret
    rw [HB.out, Bool.false_and]
    exact ⟨rfl, rfl⟩
end
end Go.Proofs.YtmhfigkdeeldnaaDoor
