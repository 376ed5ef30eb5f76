/- The document's example of a change. -/
import Derived.Test.YtmhfigkdeeldnaaDoorCmBegin
namespace Go.Proofs.YtmhfigkdeeldnaaDoor
open Go.RowKit Go.Proofs.YtmhfigkdeeldnaaDoorW.PrintWords Go.Proofs.YtmhfigkdeeldnaaDoorW.PrintLast Go.Proofs.YtmhfigkdeeldnaaDoorW.PrintMore
set_option linter.unusedVariables false
set_option linter.unusedSimpArgs false

/-- A desk that the law has made. -/
structure Live (w W : World) (lo : Nat) (K : Nat → Prop) (D : Dk) (p : Nat) : Prop where
  desk : IsDesk W lo K D p
  fine : Fine D
  below : Below w.heap.size w W
  low : w.heap.size ≤ lo
theorem Live.step {w W W' : World} {lo p : Nat} {K : Nat → Prop} {D D' : Dk} (h : Live w W lo K D p) (k : Leaves W lo K p D' W') (hF : Fine D') : ∃ K', Live w W' lo K' D' p ∧ Moved W W' lo K K' := by
  obtain ⟨K', h1, h2⟩ := k
  exact ⟨K', ⟨h1, hF, h.below.trans (h2.below.mono h.low), h.low⟩, h2⟩
theorem Live.stay {w W W' : World} {lo p : Nat} {K : Nat → Prop} {D : Dk} (h : Live w W lo K D p) (hb : Below W.heap.size W W') : Live w W' lo K D p :=
  ⟨h.desk.stay hb, h.fine, h.below.trans (hb.mono h.below.size), h.low⟩
theorem Live.alloc {w W : World} {lo p : Nat} {K : Nat → Prop} {D : Dk} (h : Live w W lo K D p) (o : Obj) : Live w (W.alloc o) lo K D p := h.stay (below_alloc (Below.refl _ _) o)
theorem Live.drewN {w W : World} {lo p : Nat} {K : Nat → Prop} {D : Dk} (h : Live w W lo K D p) (m : Nat) : Live w (W.drewN m) lo K D p := h.stay (pw_below_drewN (Below.refl _ _) _)
theorem up01 : Up [0, 1] := by
  intro j hj
  have : j = 0 ∨ j = 1 := by simp at hj; omega
  rcases this with rfl | rfl <;> simp [okB, rd]
theorem aw1 : Dk.new.beginR [0, 1] = (1, 0, ⟨1, [0, 1], [0, 1], [0]⟩) := by rw [Dk.beginR_ok rfl (by simp) up01]; rfl
theorem aw2 : (⟨1, [0, 1], [0, 1], [0]⟩ : Dk).readyR 1 0 = (0, ⟨1, [1], [0, 1], [0]⟩) := by rfl
theorem aw3 : (⟨1, [1], [0, 1], [0]⟩ : Dk).recoverR = ⟨3, [0, 1], [0, 1], [3]⟩ := by rfl
theorem aw4 : (⟨3, [0, 1], [0, 1], [3]⟩ : Dk).doneR 1 0 = (0, ⟨3, [1], [0, 1], [3]⟩) := by rfl
theorem aw5 : (⟨3, [1], [0, 1], [3]⟩ : Dk).doneR 1 1 = (0, ⟨0, [], [], [3]⟩) := by rfl
theorem aw6 : (⟨0, [], [], [3]⟩ : Dk).at_ 1 = 3 := by rfl
set_option maxRecDepth 100000 in
set_option maxHeartbeats 1000000 in
theorem awake_calls (w : World) : Calls Tryd.prog 5 #[] w fun e w' => e = .returned (.bool true) ∧ Below w.heap.size w w' := by
  go_enter Tryd.func5, Tryd.ntmps5
  go_wp2_with fail
  refine (new_calls _).mono ?_
  rintro e w1 ⟨p, K1, rfl, hW, hB, hK⟩
  have L1 := Aside0.mk (show Live w w1 w.heap.size K1 Dk.new p from ⟨hW, Fine.new, hB, Nat.le_refl _⟩)
  obtain ⟨lo, L1⟩ : ∃ lo, Aside0 (Live w w1 lo K1 Dk.new p) := ⟨_, L1⟩
  clear hW hB hK
  go_wp2_with fail
  refine (begin_calls (L1.out.alloc _).desk Fine.new (by simp [Dk.new]) _ _ [0, 1] (lit_at _ _ [0, 1] (by simp) (by simp) rfl rfl) (by simp)).mono ?_
  rintro e w2 ⟨he, hl⟩
  rw [aw1] at he hl
  obtain rfl : e = .returned (.tuple #[.int .i64 1, .nilIface]) := he
  obtain ⟨K2, h2, _⟩ := (L1.out.alloc _).step hl (aw1 ▸ (Fine.new.beginR (by simp [Dk.new]) [0, 1]))
  have L2 := Aside0.mk h2
  clear hl h2 L1
  go_wp2_with fail
  refine (ready_calls L2.out.desk L2.out.fine 1 0).mono ?_
  rintro e w3 ⟨he, hl⟩
  rw [aw2] at he hl
  obtain rfl : e = .returned .nilIface := he
  obtain ⟨K3, h3, _⟩ := L2.out.step hl (aw2 ▸ (L2.out.fine.readyR 1 0))
  have L3 := Aside0.mk h3
  clear hl h3 L2
  go_wp2_with fail
  refine (recover_calls L3.out.desk L3.out.fine).mono ?_
  rintro e w4 ⟨rfl, hl⟩
  rw [aw3] at hl
  obtain ⟨K4, h4, _⟩ := L3.out.step hl (aw3 ▸ L3.out.fine.recoverR)
  have L4 := Aside0.mk h4
  clear hl h4 L3
  go_wp2_with fail
  refine (state_calls L4.out.desk).mono ?_
  rintro e w' ⟨rfl, rfl⟩
  go_wp2_with fail
  refine (done_calls L4.out.desk L4.out.fine 1 0).mono ?_
  rintro e w5 ⟨he, hl⟩
  rw [aw4] at he hl
  obtain rfl : e = .returned .nilIface := he
  obtain ⟨K5, h5, _⟩ := L4.out.step hl (aw4 ▸ (L4.out.fine.doneR 1 0))
  have L5 := Aside0.mk h5
  clear hl h5 L4
  go_wp2_with fail
  refine (done_calls L5.out.desk L5.out.fine 1 1).mono ?_
  rintro e w6 ⟨he, hl⟩
  rw [aw5] at he hl
  obtain rfl : e = .returned .nilIface := he
  obtain ⟨K6, h6, _⟩ := L5.out.step hl (aw5 ▸ (L5.out.fine.doneR 1 1))
  have L6 := Aside0.mk h6
  clear hl h6 L5
  go_wp2_with fail
  refine (state_calls L6.out.desk).mono ?_
  rintro e w' ⟨rfl, rfl⟩
  go_wp2_with fail
  refine (decided_calls L6.out.desk L6.out.fine 1).mono ?_
  rintro e w' ⟨rfl, rfl⟩
  rw [aw6]
  go_wp2_with fail
  refine (change_calls L6.out.desk).mono ?_
  rintro e w' ⟨rfl, rfl⟩
  go_wp2
  go_ret
  exact ⟨rfl, L6.out.below⟩
end Go.Proofs.YtmhfigkdeeldnaaDoor
