/- CommitOnce: what stands behind each call, in plain lists. -/
import Derived.Test.YtmhfigkdeeldnaaDoorCmBegin
namespace Go.Proofs.YtmhfigkdeeldnaaDoor
open Go.RowKit Go.Proofs.YtmhfigkdeeldnaaDoorW.PrintWords Go.Proofs.YtmhfigkdeeldnaaDoorW.PrintLast Go.Proofs.YtmhfigkdeeldnaaDoorW.PrintMore
set_option linter.unusedVariables false
set_option linter.unusedSimpArgs false

theorem drops_nodup {node : Int} {xs : List Int} (h : xs.Nodup) : (drops node xs).Nodup := h.filter _
theorem drops_less {node : Int} {xs : List Int} (h : xs.Nodup) (hm : node ∈ xs) : (drops node xs).length + 1 = xs.length := by
  have e : drops node xs = xs.erase node := by
    rw [List.Nodup.erase_eq_filter h]
    rfl
  rw [e, List.length_erase_of_mem hm]
  have := List.length_pos_of_mem hm
  omega
theorem rd_set (l : List Int) (i j : Nat) (v : Int) (hj : j < l.length) : rd (l.set i v) j = if i = j then v else rd l j := by
  simp only [rd, List.getD_eq_getElem?_getD, Int.toNat_natCast]
  by_cases e : i = j
  · subst e
    simp [hj]
  · rw [List.getElem?_set_ne e, if_neg e]
theorem rd_app_l (l m : List Int) (i : Nat) (h : i < l.length) : rd (l ++ m) i = rd l i := by
  simp only [rd, List.getD_eq_getElem?_getD, Int.toNat_natCast]
  rw [List.getElem?_append_left h]
theorem rd_app_last (l : List Int) (x : Int) : rd (l ++ [x]) l.length = x := by
  simp [rd, List.getD_eq_getElem?_getD]

structure OnceI (D : Dk) (r n : Int) : Prop where
  fine : Fine D
  nd : D.ns.Nodup
  wnd : D.ws.Nodup
  ask : D.st = 1 → D.dc ≠ [] ∧ rd D.dc (D.dc.length - 1 : Nat) = 0 ∧ r + D.ws.length = n
  going : D.dc ≠ [] → rd D.dc (D.dc.length - 1 : Nat) = 2 → n ≤ r
/-- What was decided stays. -/
def Chg (wl : List Int) (D : Dk) : Prop := wl.length = D.dc.length ∧ ∀ i, i < wl.length → rd wl i ≠ 0 → rd D.dc i = rd wl i
theorem Chg.refl (D : Dk) : Chg D.dc D := ⟨rfl, fun _ _ _ => rfl⟩
theorem OnceI.new : OnceI Dk.new 0 0 := ⟨Fine.new, by simp [Dk.new], by simp [Dk.new], by simp [Dk.new], by simp [Dk.new]⟩

section
variable {D : Dk} {r n : Int}
theorem OnceI.decide_ (h : OnceI D r n) (h1 : D.st = 1) {s : Int} (h2 : s = 2 → n ≤ r) (hs : s = 2 ∨ s = 3) : OnceI (D.decide s) r n ∧ Chg D.dc (D.decide s) ∧ rd (D.decide s).dc (D.dc.length - 1 : Nat) = s := by
  obtain ⟨hne, h0, hw⟩ := h.ask h1
  have hl := List.length_pos_iff.2 hne
  have hlast : rd (D.decide s).dc (D.dc.length - 1 : Nat) = s := by
    show rd (D.dc.set (D.dc.length - 1) s) (D.dc.length - 1 : Nat) = s
    rw [rd_set _ _ _ _ (by omega), if_pos rfl]
  refine ⟨⟨h.fine.decide (by omega) (by omega) hne, h.nd, h.nd, fun h4 => by exfalso; have : s = 1 := h4; omega, fun _ h5 => ?_⟩, ⟨by simp [Dk.decide], fun i hi hz => ?_⟩, hlast⟩
  · have e : (D.decide s).dc.length = D.dc.length := by simp [Dk.decide]
    rw [e, hlast] at h5
    exact h2 h5
  · show rd (D.dc.set (D.dc.length - 1) s) i = _
    rw [rd_set _ _ _ _ hi, if_neg]
    rintro rfl
    exact hz h0
theorem OnceI.say_ (h : OnceI D r n) {node : Int} (hm : node ∈ D.ws) (h0 : D.st ≠ 0) :
    (D.st = 1 → OnceI (D.say node) (r + 1) n) ∧ (D.st ≠ 1 → OnceI (D.say node) r n) ∧ Chg D.dc (D.say node) ∧ (D.st ≠ 1 → (D.say node).dc = D.dc) := by
  have hlen := drops_less h.wnd hm
  by_cases hd : drops node D.ws = []
  · by_cases h1 : D.st = 1
    · have e : D.say node = (D.drop node).decide 2 := by unfold Dk.say; rw [if_neg (by simp [hd]), if_pos h1]; rfl
      have e2 : (D.drop node).decide 2 = D.decide 2 := rfl
      obtain ⟨hne, hl0, hw⟩ := h.ask h1
      rw [hd] at hlen
      simp at hlen
      have h' : OnceI { D with ws := [] } (r + 1) n := by
        refine ⟨⟨h.fine.s0, h.fine.s3, by simp, h.fine.n9, h.fine.d0, h.fine.dm⟩, h.nd, List.nodup_nil, fun _ => ⟨hne, hl0, by simp; omega⟩, fun hn h2 => by have := h.going hn h2; omega⟩
      obtain ⟨a, b, c⟩ := h'.decide_ (s := 2) h1 (fun _ => by omega) (.inl rfl)
      rw [e, e2]
      exact ⟨fun _ => a, fun hc => absurd h1 hc, b, fun hc => absurd h1 hc⟩
    · have e : D.say node = { st := 0, ws := [], ns := [], dc := D.dc } := by unfold Dk.say; rw [if_neg (by simp [hd]), if_neg h1]
      rw [e]
      exact ⟨fun hc => absurd hc h1, fun _ => ⟨⟨by simp, by simp, by simp, by simp, by simp, h.fine.dm⟩, by simp, by simp, by simp, h.going⟩, ⟨rfl, fun _ _ _ => rfl⟩, fun _ => rfl⟩
  · have e : D.say node = D.drop node := if_pos hd
    have hF : Fine (D.drop node) := ⟨h.fine.s0, h.fine.s3, Nat.le_trans (drops_len _ _) h.fine.w9, h.fine.n9, h.fine.d0, h.fine.dm⟩
    rw [e]
    refine ⟨fun h1 => ?_, fun h1 => ?_, ⟨rfl, fun _ _ _ => rfl⟩, fun _ => rfl⟩
    · obtain ⟨hne, hl0, hw⟩ := h.ask h1
      exact ⟨hF, h.nd, drops_nodup h.wnd, fun _ => ⟨hne, hl0, by show r + 1 + ((drops node D.ws).length : Int) = n; omega⟩, fun hn h2 => by have := h.going hn h2; omega⟩
    · exact ⟨hF, h.nd, drops_nodup h.wnd, fun hc => absurd hc h1, h.going⟩
theorem sayR_cases (D : Dk) (node : Int) : (D.sayR node = (12, D)) ∨ (D.sayR node = (9, D)) ∨ (node ∈ D.ws ∧ D.sayR node = (0, D.say node)) := by
  unfold Dk.sayR
  by_cases h1 : node ∈ D.ns
  · rw [if_neg (by simpa using h1)]
    by_cases h2 : node ∈ D.ws
    · rw [if_neg (by simpa using h2)]; exact .inr (.inr ⟨h2, rfl⟩)
    · rw [if_pos h2]; exact .inr (.inl rfl)
  · rw [if_pos h1]; exact .inl rfl
theorem once_ready (h : OnceI D r n) (i node : Int) :
    ((D.readyR i node).1 = 0 → OnceI (D.readyR i node).2 (r + 1) n) ∧ ((D.readyR i node).1 ≠ 0 → OnceI (D.readyR i node).2 r n) ∧ Chg D.dc (D.readyR i node).2 := by
  unfold Dk.readyR
  split
  · rename_i h1
    rcases sayR_cases D node with e | e | ⟨hm, e⟩
    · rw [e]; exact ⟨fun hc => by simp at hc, fun _ => h, Chg.refl D⟩
    · rw [e]; exact ⟨fun hc => by simp at hc, fun _ => h, Chg.refl D⟩
    · rw [e]
      obtain ⟨a, b, c, d⟩ := h.say_ hm (by omega)
      exact ⟨fun _ => a h1.1, fun hc => absurd rfl hc, c⟩
  · exact ⟨fun hc => by simp at hc, fun _ => h, Chg.refl D⟩
theorem at_last {D : Dk} {i : Int} (hi : i = D.dc.length) (hne : D.dc ≠ []) : D.at_ i = rd D.dc (D.dc.length - 1 : Nat) := by
  have hl := List.length_pos_iff.2 hne
  unfold Dk.at_
  rw [if_pos (by omega)]
  congr 1
  omega
theorem once_done (h : OnceI D r n) (i node : Int) :
    OnceI (D.doneR i node).2 r n ∧ Chg D.dc (D.doneR i node).2 ∧ ((D.doneR i node).1 = 0 → (D.doneR i node).2.at_ i = 2 → n ≤ r) := by
  unfold Dk.doneR
  split
  · rename_i h1
    rcases sayR_cases D node with e | e | ⟨hm, e⟩
    · rw [e]; exact ⟨h, Chg.refl D, fun hc => by simp at hc⟩
    · rw [e]; exact ⟨h, Chg.refl D, fun hc => by simp at hc⟩
    · rw [e]
      obtain ⟨a, b, c, d⟩ := h.say_ hm (by omega)
      have hdc := d (by omega)
      have hne := h.fine.d0 (by omega)
      refine ⟨b (by omega), c, fun _ h2 => h.going hne ?_⟩
      rw [at_last (by rw [hdc]; exact h1.2) (by rw [hdc]; exact hne), hdc] at h2
      exact h2
  · exact ⟨h, Chg.refl D, fun hc => by simp at hc⟩
theorem once_cancel (h : OnceI D r n) (i : Int) : OnceI (D.cancelR i).2 r n ∧ Chg D.dc (D.cancelR i).2 ∧ ((D.cancelR i).1 = 0 → (D.cancelR i).2.at_ i = 3) := by
  unfold Dk.cancelR
  split
  · rename_i h1
    obtain ⟨a, b, c⟩ := h.decide_ (s := 3) h1.1 (fun hc => by omega) (.inr rfl)
    obtain ⟨hne, _, _⟩ := h.ask h1.1
    refine ⟨a, b, fun _ => ?_⟩
    have e : (D.decide 3).dc.length = D.dc.length := by simp [Dk.decide]
    rw [at_last (by rw [e]; exact h1.2) (fun hc => hne (by rw [← List.length_eq_zero_iff, ← e, hc]; rfl)), e, c]
  · exact ⟨h, Chg.refl D, fun hc => by simp at hc⟩
theorem once_recover (h : OnceI D r n) : OnceI D.recoverR r n ∧ Chg D.dc D.recoverR := by
  unfold Dk.recoverR
  split
  · rename_i h1
    obtain ⟨a, b, c⟩ := h.decide_ (s := 3) h1 (fun hc => by omega) (.inr rfl)
    exact ⟨a, b⟩
  · exact ⟨h, Chg.refl D⟩
theorem once_begin (h : OnceI D r n) (hd : D.dc.length < 1000) (xs : List Int) :
    ((D.beginR xs).2.1 = 0 ∧ (D.beginR xs).1 = (D.dc.length : Int) + 1 ∧ (D.beginR xs).2.2.dc = D.dc ++ [0] ∧ OnceI (D.beginR xs).2.2 0 xs.length) ∨ (((D.beginR xs).2.1 = 21 ∨ (D.beginR xs).2.1 = 1) ∧ (D.beginR xs).2.2 = D) := by
  by_cases h0 : D.st = 0
  · by_cases hx : xs = [] ∨ ¬ Up xs
    · rw [Dk.beginR_arg h0 hx]; exact .inr ⟨.inr rfl, rfl⟩
    · rw [not_or, Classical.not_not] at hx
      rw [Dk.beginR_ok h0 hx.1 hx.2]
      refine .inl ⟨rfl, rfl, rfl, h.fine.begin_ hx.2.nine hd, hx.2.nodup, hx.2.nodup, fun _ => ⟨by simp [Dk.begin_], ?_, by simp [Dk.begin_]⟩, fun _ h2 => ?_⟩
      · show rd (D.dc ++ [0]) ((D.dc ++ [0]).length - 1 : Nat) = 0
        rw [List.length_append]
        exact rd_app_last _ _
      · exfalso
        have e : rd (D.begin_ xs).dc ((D.begin_ xs).dc.length - 1 : Nat) = 0 := by
          show rd (D.dc ++ [0]) ((D.dc ++ [0]).length - 1 : Nat) = 0
          rw [List.length_append]
          exact rd_app_last _ _
        rw [e] at h2
        omega
  · rw [Dk.beginR_busy h0]; exact .inr ⟨.inl rfl, rfl⟩
end
end Go.Proofs.YtmhfigkdeeldnaaDoor
