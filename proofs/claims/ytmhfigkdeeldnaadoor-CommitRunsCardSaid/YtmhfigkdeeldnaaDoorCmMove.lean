/- What a desk does: Ready, Done, Recover; a nil desk. -/
import Derived.Test.YtmhfigkdeeldnaaDoorCmSay
namespace Go.Proofs.YtmhfigkdeeldnaaDoor
open Go.RowKit Go.Proofs.YtmhfigkdeeldnaaDoorW.PrintWords Go.Proofs.YtmhfigkdeeldnaaDoorW.PrintLast Go.Proofs.YtmhfigkdeeldnaaDoorW.PrintMore
set_option linter.unusedVariables false
set_option linter.unusedSimpArgs false
theorem Says.lits {w w1 : World} {lo : Nat} {K : Nat → Prop} {p : Nat} {D : Dk} {r : Int × Dk} {o : Obj} {e : Ending} (k : Says (w.alloc o) lo K p r e w1) (h : IsDesk w lo K D p) : Says w lo K p r e w1 := ⟨k.1, k.2.lits h⟩
section
variable {w : World} {lo p : Nat} {K : Nat → Prop} {D : Dk}
set_option maxRecDepth 100000 in
theorem ready_calls (hW : IsDesk w lo K D p) (hF : Fine D) (i node : Int) :
    Calls Tryd.prog 13 #[.pointer (some ⟨p, 0, none⟩), .int .i64 i, .int .i64 node] w (Says w lo K p (D.readyR i node)) := by
  have HW := Lib.hid hW
  have HF := Lib.hid hF
  have hlit := Lib.hid (IsDesk.stay hW (below_alloc (Below.refl _ _) (.cells #[.int .i64 1] 47)))
  by_cases h : D.st = 1 ∧ i = D.dc.length
  · have hb : (i == (D.dc.length : Int) && decide (D.st ∈ [(1 : Int)])) = true := by simp [h.1, h.2]
    have HB := Lib.hid hb
    have HR := Lib.hid (show D.readyR i node = D.sayR node from if_pos h)
    have H0 := Lib.hid (show D.st ≠ 0 by omega)
    clear hb hW hF h
    go_enter Tryd.func13, Tryd.ntmps13
    go_wp2_with (first
      | (go_at_call 33; refine (now_calls hlit.out _ _ _ [1] (lit_at _ _ [1] (by simp) (by simp) rfl rfl)).mono ?_; rintro e w' ⟨rfl, rfl⟩; rw [HB.out])
      | (go_at_call 34; refine (say_calls hlit.out HF.out node H0.out).mono ?_; intro e w1 h1; obtain rfl := h1.1; have H1 := Lib.hid h1; clear h1))
    go_ret
    rw [HR.out]
    exact H1.out.lits HW.out
  · have hb : (i == (D.dc.length : Int) && decide (D.st ∈ [(1 : Int)])) = false := by
      rw [Bool.and_eq_false_iff]
      by_cases h1 : i = D.dc.length
      · right; simp; omega
      · left; simpa using h1
    have HB := Lib.hid hb
    have HR := Lib.hid (show D.readyR i node = (21, D) from if_neg h)
    clear hb hW hF h
    go_enter Tryd.func13, Tryd.ntmps13
    go_wp2_with (first
      | (go_at_call 33; refine (now_calls hlit.out _ _ _ [1] (lit_at _ _ [1] (by simp) (by simp) rfl rfl)).mono ?_; rintro e w' ⟨rfl, rfl⟩; rw [HB.out]))
    go_ret
    rw [HR.out]
    exact ⟨rfl, (Leaves.refl hlit.out).lits HW.out⟩
set_option maxRecDepth 100000 in
theorem done_calls (hW : IsDesk w lo K D p) (hF : Fine D) (i node : Int) :
    Calls Tryd.prog 14 #[.pointer (some ⟨p, 0, none⟩), .int .i64 i, .int .i64 node] w (Says w lo K p (D.doneR i node)) := by
  have HW := Lib.hid hW
  have HF := Lib.hid hF
  have hlit := Lib.hid (IsDesk.stay hW (below_alloc (Below.refl _ _) (.cells #[.int .i64 2, .int .i64 3] 47)))
  by_cases h : (D.st = 2 ∨ D.st = 3) ∧ i = D.dc.length
  · have hb : (i == (D.dc.length : Int) && decide (D.st ∈ [(2 : Int), 3])) = true := by simp [h.1, h.2]
    have HB := Lib.hid hb
    have HR := Lib.hid (show D.doneR i node = D.sayR node from if_pos h)
    have H0 := Lib.hid (show D.st ≠ 0 by omega)
    clear hb hW hF h
    go_enter Tryd.func14, Tryd.ntmps14
    go_wp2_with (first
      | (go_at_call 33; refine (now_calls hlit.out _ _ _ [2, 3] (lit_at _ _ [2, 3] (by simp) (by simp) rfl rfl)).mono ?_; rintro e w' ⟨rfl, rfl⟩; rw [HB.out])
      | (go_at_call 34; refine (say_calls hlit.out HF.out node H0.out).mono ?_; intro e w1 h1; obtain rfl := h1.1; have H1 := Lib.hid h1; clear h1))
    go_ret
    rw [HR.out]
    exact H1.out.lits HW.out
  · have hb : (i == (D.dc.length : Int) && decide (D.st ∈ [(2 : Int), 3])) = false := by
      rw [Bool.and_eq_false_iff]
      by_cases h1 : i = D.dc.length
      · right; simp; omega
      · left; simpa using h1
    have HB := Lib.hid hb
    have HR := Lib.hid (show D.doneR i node = (21, D) from if_neg h)
    clear hb hW hF h
    go_enter Tryd.func14, Tryd.ntmps14
    go_wp2_with (first
      | (go_at_call 33; refine (now_calls hlit.out _ _ _ [2, 3] (lit_at _ _ [2, 3] (by simp) (by simp) rfl rfl)).mono ?_; rintro e w' ⟨rfl, rfl⟩; rw [HB.out]))
    go_ret
    rw [HR.out]
    exact ⟨rfl, (Leaves.refl hlit.out).lits HW.out⟩
set_option maxRecDepth 100000 in
theorem recover_calls (hW : IsDesk w lo K D p) (hF : Fine D) :
    Calls Tryd.prog 11 #[.pointer (some ⟨p, 0, none⟩)] w fun e w' => e = .returned (.tuple #[]) ∧ Leaves w lo K p D.recoverR w' := by
  have HW := Lib.hid hW
  have HF := Lib.hid hF
  obtain ⟨_, _, _, _, _, _, z⟩ := hW
  have c0 := blk_cell z.blk 0
  simp at c0
  clear z
  by_cases h : D.st = 1
  · have HR := Lib.hid (show D.recoverR = D.decide 3 from if_pos h)
    have HD := Lib.hid (hF.d0 (by omega))
    rw [h] at c0
    clear hF h
    go_enter Tryd.func11, Tryd.ntmps11
    go_wp2_with (first
      | (go_at_call 30; refine (decide_calls HW.out HF.out HD.out 3).mono ?_; rintro e w1 ⟨rfl, h1⟩; have H1 := Lib.hid h1; clear h1))
    go_end0
    rw [HR.out]
    exact ⟨rfl, H1.out⟩
  · have HR := Lib.hid (show D.recoverR = D from if_neg h)
    have hb : (D.st == 1) = false := by simpa using h
    clear hF h
    go_enter Tryd.func11, Tryd.ntmps11
    go_wp2
    go_end0
    rw [HR.out]
    exact ⟨rfl, Leaves.refl HW.out⟩
end
end Go.Proofs.YtmhfigkdeeldnaaDoor
