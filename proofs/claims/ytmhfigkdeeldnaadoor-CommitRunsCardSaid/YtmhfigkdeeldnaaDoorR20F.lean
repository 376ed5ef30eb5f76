/- The desk and the document's desk side by side: they answer alike. -/
import Derived.Test.YtmhfigkdeeldnaaDoorR20E
namespace Go.Proofs.YtmhfigkdeeldnaaDoor
open Go.RowKit Go.Proofs.YtmhfigkdeeldnaaDoorW.PrintWords Go.Proofs.YtmhfigkdeeldnaaDoorW.PrintLast Go.Proofs.YtmhfigkdeeldnaaDoorW.PrintMore
set_option linter.unusedVariables false
set_option linter.unusedSimpArgs false
theorem len_sub : ∀ {l m : List Int}, l.Nodup → (∀ x ∈ l, x ∈ m) → l.length ≤ m.length
  | [], _, _, _ => Nat.zero_le _
  | a :: l, m, hn, hs => by
    have ha : a ∈ m := hs a (by simp)
    have hn' := List.nodup_cons.1 hn
    have h1 : ∀ x ∈ l, x ∈ m.erase a := by
      intro x hx
      have hne : x ≠ a := fun e => hn'.1 (e ▸ hx)
      exact (List.mem_erase_of_ne hne).2 (hs x (List.mem_cons_of_mem _ hx))
    have h2 := len_sub hn'.2 h1
    rw [List.length_erase_of_mem ha] at h2
    have : 0 < m.length := List.length_pos_of_mem ha
    simp; omega
def RD.cancelM (M : RD) (i : Int) : Int × RD := if M.st = 1 ∧ i = M.dc.length then (0, M.decide 3) else (21, M)
open Classical in
noncomputable def RD.beginM (M : RD) (xs : List Int) : Int × Int × RD := if M.st ≠ 0 then (0, 21, M) else if xs = [] ∨ ¬ Up xs then (0, 1, M) else ((M.dc.length : Int) + 1, 0, ⟨1, xs, [], M.dc ++ [0]⟩)
structure Rel (D : Dk) (M : RD) : Prop where
  st : D.st = M.st
  ns : D.ns = M.ns
  dc : D.dc = M.dc
  ws : D.ws = waitsOf M.ns M.said
  nn : M.ns.Nodup
  sn : M.said.Nodup
  ss : ∀ x ∈ M.said, x ∈ M.ns
  fine : Fine D
theorem Rel.mf {D : Dk} {M : RD} (h : Rel D M) : MFine M := by
  have h9 : M.ns.length ≤ 9 := by rw [← h.ns]; exact h.fine.n9
  exact ⟨h9, Nat.le_trans (len_sub h.sn h.ss) h9, by rw [← h.dc]; exact h.fine.dm, by rw [← h.dc, ← h.st]; exact h.fine.d0⟩
theorem mem_waits {ns said : List Int} {x : Int} : x ∈ waitsOf ns said ↔ x ∈ ns ∧ x ∉ said := by unfold waitsOf; simp
theorem waits_full {ns said : List Int} (hn : ns.Nodup) (hs : said.Nodup) (hss : ∀ x ∈ said, x ∈ ns) : waitsOf ns said = [] ↔ said.length = ns.length := by
  constructor
  · intro h
    have h1 := len_sub hs hss
    have h2 := len_sub hn (m := said) (fun x hx => by
      by_cases hc : x ∈ said
      · exact hc
      · have : x ∈ waitsOf ns said := mem_waits.2 ⟨hx, hc⟩
        rw [h] at this
        simp at this)
    omega
  · intro h
    rw [List.eq_nil_iff_forall_not_mem]
    intro x hx
    obtain ⟨h1, h2⟩ := mem_waits.1 hx
    have h3 : (x :: said).Nodup := List.nodup_cons.2 ⟨h2, hs⟩
    have h4 := len_sub h3 (m := ns) (fun y hy => by
      rcases List.mem_cons.1 hy with rfl | hy
      · exact h1
      · exact hss y hy)
    simp at h4
    omega
theorem drops_waits (ns said : List Int) (node : Int) : drops node (waitsOf ns said) = waitsOf ns (said ++ [node]) := by
  unfold drops waitsOf
  rw [List.filter_filter]
  congr 1
  funext x
  rw [Bool.eq_iff_iff]
  simp
  constructor
  · rintro ⟨h1, h2⟩; exact ⟨h2, h1⟩
  · rintro ⟨h1, h2⟩; exact ⟨h2, h1⟩
theorem waits_nil (ns : List Int) : waitsOf ns [] = ns := by unfold waitsOf; simp
section
variable {D : Dk} {M : RD}
theorem Rel.new : Rel Dk.new ⟨0, [], [], []⟩ := ⟨rfl, rfl, rfl, rfl, List.nodup_nil, List.nodup_nil, by simp, Fine.new⟩
theorem Rel.decide_ (h : Rel D M) {s : Int} (h0 : 0 ≤ s) (h3 : s ≤ 3) (hd : D.dc ≠ []) : Rel (D.decide s) (M.decide s) :=
  ⟨rfl, h.ns, by show D.dc.set _ s = M.dc.set _ s; rw [h.dc], by show D.ns = waitsOf M.ns []; rw [waits_nil, h.ns], h.nn, List.nodup_nil, by simp [RD.decide], h.fine.decide h0 h3 hd⟩
theorem Rel.say_ (h : Rel D M) (node : Int) (h0 : D.st ≠ 0) :
    (D.sayR node).1 = (M.sayM node).1 ∧ ((M.sayM node).1 ≠ 0 → (D.sayR node).2 = D ∧ (M.sayM node).2 = M) ∧
    ((M.sayM node).1 = 0 → (RD.full (M.sayM node) = false → Rel (D.sayR node).2 (M.sayM node).2) ∧ (RD.full (M.sayM node) = true → (D.st = 1 → Rel (D.sayR node).2 ((M.sayM node).2.decide 2)) ∧ (D.st ≠ 1 → Rel (D.sayR node).2 ⟨0, [], [], M.dc⟩))) := by
  by_cases h1 : node ∈ M.ns
  · by_cases h2 : node ∈ M.said
    · have e1 : M.sayM node = (9, M) := by unfold RD.sayM; rw [if_neg (by simpa using h1), if_pos h2]
      have e2 : D.sayR node = (9, D) := by
        unfold Dk.sayR
        rw [if_neg (by rw [h.ns]; simpa using h1), if_pos (by rw [h.ws, mem_waits]; rintro ⟨_, h3⟩; exact h3 h2)]
      rw [e1, e2]
      exact ⟨rfl, fun _ => ⟨rfl, rfl⟩, fun hc => by simp at hc⟩
    · have e1 : M.sayM node = (0, { M with said := M.said ++ [node] }) := by unfold RD.sayM; rw [if_neg (by simpa using h1), if_neg h2]
      have hw : node ∈ D.ws := by rw [h.ws, mem_waits]; exact ⟨h1, h2⟩
      have e2 : D.sayR node = (0, D.say node) := by
        unfold Dk.sayR
        rw [if_neg (by rw [h.ns]; simpa using h1), if_neg (by simpa using hw)]
      rw [e1, e2]
      have hs' : (M.said ++ [node]).Nodup := by
        rw [List.nodup_append]
        exact ⟨h.sn, by simp, fun a ha b hb e => by simp at hb; subst hb; exact h2 (e ▸ ha)⟩
      have hss' : ∀ x ∈ M.said ++ [node], x ∈ M.ns := by
        intro x hx
        rcases List.mem_append.1 hx with hx | hx
        · exact h.ss x hx
        · simp at hx; subst hx; exact h1
      have hd : drops node D.ws = waitsOf M.ns (M.said ++ [node]) := by rw [h.ws, drops_waits]
      have hfull : RD.full (0, { M with said := M.said ++ [node] }) = decide ((M.said ++ [node]).length = M.ns.length) := by
        unfold RD.full
        simp
        rfl
      refine ⟨rfl, fun hc => absurd rfl hc, fun _ => ⟨fun hf => ?_, fun hf => ⟨fun hst => ?_, fun hst => ?_⟩⟩⟩
      · rw [hfull, decide_eq_false_iff_not] at hf
        have hne : drops node D.ws ≠ [] := by rw [hd]; intro hc; exact hf ((waits_full h.nn hs' hss').1 hc)
        have e : D.say node = D.drop node := if_pos hne
        show Rel (D.say node) _
        have hfi := h.fine.say node
        rw [e] at hfi ⊢
        exact ⟨h.st, h.ns, h.dc, hd, h.nn, hs', hss', hfi⟩
      · rw [hfull, decide_eq_true_iff] at hf
        have hnil : drops node D.ws = [] := by rw [hd]; exact (waits_full h.nn hs' hss').2 hf
        have e : D.say node = D.decide 2 := by unfold Dk.say; rw [if_neg (by simp [hnil]), if_pos hst]
        show Rel (D.say node) _
        rw [e]
        exact ⟨rfl, h.ns, by show D.dc.set _ 2 = M.dc.set _ 2; rw [h.dc], by show D.ns = waitsOf M.ns []; rw [waits_nil, h.ns], h.nn, List.nodup_nil, by simp [RD.decide], h.fine.decide (by omega) (by omega) (h.fine.d0 h0)⟩
      · rw [hfull, decide_eq_true_iff] at hf
        have hnil : drops node D.ws = [] := by rw [hd]; exact (waits_full h.nn hs' hss').2 hf
        have e : D.say node = { st := 0, ws := [], ns := [], dc := D.dc } := by unfold Dk.say; rw [if_neg (by simp [hnil]), if_neg hst]
        show Rel (D.say node) _
        have hfi := h.fine.say node
        rw [e] at hfi ⊢
        exact ⟨rfl, rfl, h.dc, rfl, List.nodup_nil, List.nodup_nil, by simp, hfi⟩
  · have e1 : M.sayM node = (12, M) := by unfold RD.sayM; rw [if_pos h1]
    have e2 : D.sayR node = (12, D) := by unfold Dk.sayR; rw [if_pos (by rw [h.ns]; exact h1)]
    rw [e1, e2]
    exact ⟨rfl, fun _ => ⟨rfl, rfl⟩, fun hc => by simp at hc⟩
theorem Rel.ready (h : Rel D M) (i node : Int) : (D.readyR i node).1 = (M.readyM i node).1 ∧ Rel (D.readyR i node).2 (M.readyM i node).2 := by
  unfold Dk.readyR RD.readyM
  rw [h.st, h.dc]
  by_cases hc : M.st = 1 ∧ i = M.dc.length
  · rw [if_pos hc, if_pos hc]
    obtain ⟨a, b, c⟩ := h.say_ node (by rw [h.st]; omega)
    cases hf : RD.full (M.sayM node) with
    | true =>
      have h0 : (M.sayM node).1 = 0 := by unfold RD.full at hf; simp at hf; exact hf.1
      rw [if_pos rfl]
      exact ⟨a.trans h0, ((c h0).2 hf).1 (by rw [h.st]; exact hc.1)⟩
    | false =>
      rw [if_neg (by decide)]
      refine ⟨a, ?_⟩
      by_cases h0 : (M.sayM node).1 = 0
      · exact (c h0).1 hf
      · obtain ⟨b1, b2⟩ := b h0
        rw [b1, b2]; exact h
  · rw [if_neg hc, if_neg hc]
    exact ⟨rfl, h⟩
theorem Rel.done (h : Rel D M) (i node : Int) : (D.doneR i node).1 = (M.doneM i node).1 ∧ Rel (D.doneR i node).2 (M.doneM i node).2 := by
  unfold Dk.doneR RD.doneM
  rw [h.st, h.dc]
  by_cases hc : (M.st = 2 ∨ M.st = 3) ∧ i = M.dc.length
  · rw [if_pos hc, if_pos hc]
    obtain ⟨a, b, c⟩ := h.say_ node (by rw [h.st]; omega)
    cases hf : RD.full (M.sayM node) with
    | true =>
      have h0 : (M.sayM node).1 = 0 := by unfold RD.full at hf; simp at hf; exact hf.1
      rw [if_pos rfl]
      exact ⟨a.trans h0, ((c h0).2 hf).2 (by rw [h.st]; omega)⟩
    | false =>
      rw [if_neg (by decide)]
      refine ⟨a, ?_⟩
      by_cases h0 : (M.sayM node).1 = 0
      · exact (c h0).1 hf
      · obtain ⟨b1, b2⟩ := b h0
        rw [b1, b2]; exact h
  · rw [if_neg hc, if_neg hc]
    exact ⟨rfl, h⟩
theorem Rel.cancel (h : Rel D M) (i : Int) : (D.cancelR i).1 = (M.cancelM i).1 ∧ Rel (D.cancelR i).2 (M.cancelM i).2 := by
  unfold Dk.cancelR RD.cancelM
  rw [h.st, h.dc]
  by_cases hc : M.st = 1 ∧ i = M.dc.length
  · rw [if_pos hc, if_pos hc]
    exact ⟨rfl, h.decide_ (by omega) (by omega) (h.fine.d0 (by rw [h.st]; omega))⟩
  · rw [if_neg hc, if_neg hc]
    exact ⟨rfl, h⟩
theorem Rel.recover (h : Rel D M) : Rel D.recoverR M.recoverM := by
  unfold Dk.recoverR RD.recoverM
  rw [h.st]
  by_cases hc : M.st = 1
  · rw [if_pos hc, if_pos hc]
    exact h.decide_ (by omega) (by omega) (h.fine.d0 (by rw [h.st]; omega))
  · rw [if_neg hc, if_neg hc]
    exact h
theorem Rel.begin_ (h : Rel D M) (hd : D.dc.length < 1000) (xs : List Int) : (D.beginR xs).1 = (M.beginM xs).1 ∧ (D.beginR xs).2.1 = (M.beginM xs).2.1 ∧ Rel (D.beginR xs).2.2 (M.beginM xs).2.2 := by
  unfold Dk.beginR RD.beginM
  rw [h.st, h.dc]
  by_cases h0 : M.st ≠ 0
  · rw [if_pos h0, if_pos h0]
    exact ⟨rfl, rfl, h⟩
  · rw [if_neg h0, if_neg h0]
    by_cases hx : xs = [] ∨ ¬ Up xs
    · rw [if_pos hx, if_pos hx]
      exact ⟨rfl, rfl, h⟩
    · rw [if_neg hx, if_neg hx]
      rw [not_or, Classical.not_not] at hx
      refine ⟨rfl, rfl, rfl, rfl, by show D.dc ++ [0] = M.dc ++ [0]; rw [h.dc], by show xs = waitsOf xs []; rw [waits_nil], hx.2.nodup, List.nodup_nil, by simp, h.fine.begin_ hx.2.nine hd⟩
theorem Rel.len1 (h : Rel D M) : M.dc.length = D.dc.length := by rw [h.dc]
theorem Rel.at_ (h : Rel D M) (i : Int) : D.at_ i = (if 1 ≤ i ∧ i ≤ M.dc.length then Go.Proofs.YtmhfigkdeeldnaaDoorW.PrintWords.rd M.dc ((i - 1).toNat : Nat) else 0) := by unfold Dk.at_; rw [h.dc]
end
/-! ### The calls, whatever they are handed -/
section
variable {w : World} {base : Nat} {ok : Nat → Prop} {v : Value} {M : RD}
theorem refReady_calls (h : RdR w base ok v M) (hF : MFine M) (hok : ∀ k, w.heap.size ≤ k → ok k) (hb : base ≤ w.heap.size) (i node : Int) :
    Calls Tryd.prog 21 #[v, .int .i64 i, .int .i64 node] w (PostR w base ok (M.readyM i node)) := by
  obtain ⟨An, cn, As, cs, Ad, cd, rfl, h⟩ := h
  obtain ⟨st, ns, said, dc⟩ := M
  by_cases h1 : st = 1
  · subst h1
    by_cases h2 : i = (dc.length : Int)
    · subst h2
      exact refReady_goes h hF hok hb node
    · have e : RD.readyM ⟨1, ns, said, dc⟩ i node = (21, ⟨1, ns, said, dc⟩) := if_neg (by rintro ⟨_, h3⟩; exact h2 h3)
      rw [e]
      refine (refReady_other w An As Ad ns.length cn said.length cs dc.length cd i node (by simpa using h2)).mono ?_
      rintro e w' ⟨rfl, hb'⟩
      exact ⟨An, cn, As, cs, Ad, cd, rfl, h.below hb', hb'⟩
  · have e : RD.readyM ⟨st, ns, said, dc⟩ i node = (21, ⟨st, ns, said, dc⟩) := if_neg (by rintro ⟨h3, _⟩; exact h1 h3)
    rw [e]
    refine (refReady_state w st An As Ad ns.length cn said.length cs dc.length cd i node (by simpa using h1)).mono ?_
    rintro e w' ⟨rfl, hb'⟩
    exact ⟨An, cn, As, cs, Ad, cd, rfl, h.below hb', hb'⟩
theorem refDone_calls (h : RdR w base ok v M) (hF : MFine M) (hok : ∀ k, w.heap.size ≤ k → ok k) (hb : base ≤ w.heap.size) (i node : Int) :
    Calls Tryd.prog 22 #[v, .int .i64 i, .int .i64 node] w (PostR w base ok (M.doneM i node)) := by
  obtain ⟨An, cn, As, cs, Ad, cd, rfl, h⟩ := h
  obtain ⟨st, ns, said, dc⟩ := M
  by_cases h1 : st = 2 ∨ st = 3
  · by_cases h2 : i = (dc.length : Int)
    · subst h2
      rcases h1 with rfl | rfl
      · exact refDone_goes2 h hF hok hb node
      · exact refDone_goes3 h hF hok hb node
    · have e : RD.doneM ⟨st, ns, said, dc⟩ i node = (21, ⟨st, ns, said, dc⟩) := if_neg (by rintro ⟨_, h3⟩; exact h2 h3)
      rw [e]
      rcases h1 with rfl | rfl
      · refine (refDone_other2 w An As Ad ns.length cn said.length cs dc.length cd i node (by simpa using h2)).mono ?_
        rintro e w' ⟨rfl, hb'⟩
        exact ⟨An, cn, As, cs, Ad, cd, rfl, h.below hb', hb'⟩
      · refine (refDone_other3 w An As Ad ns.length cn said.length cs dc.length cd i node (by simpa using h2)).mono ?_
        rintro e w' ⟨rfl, hb'⟩
        exact ⟨An, cn, As, cs, Ad, cd, rfl, h.below hb', hb'⟩
  · have e : RD.doneM ⟨st, ns, said, dc⟩ i node = (21, ⟨st, ns, said, dc⟩) := if_neg (by rintro ⟨h3, _⟩; exact h1 h3)
    rw [e]
    rw [not_or] at h1
    refine (refDone_state w st An As Ad ns.length cn said.length cs dc.length cd i node (by simpa using h1.1) (by simpa using h1.2)).mono ?_
    rintro e w' ⟨rfl, hb'⟩
    exact ⟨An, cn, As, cs, Ad, cd, rfl, h.below hb', hb'⟩
theorem refCancel_calls (h : RdR w base ok v M) (hF : MFine M) (hok : ∀ k, w.heap.size ≤ k → ok k) (hb : base ≤ w.heap.size) (i : Int) :
    Calls Tryd.prog 23 #[v, .int .i64 i] w (PostR w base ok (M.cancelM i)) := by
  obtain ⟨An, cn, As, cs, Ad, cd, rfl, h⟩ := h
  obtain ⟨st, ns, said, dc⟩ := M
  by_cases h1 : st = 1
  · subst h1
    by_cases h2 : i = (dc.length : Int)
    · subst h2
      have e : RD.cancelM ⟨1, ns, said, dc⟩ dc.length = (0, RD.decide ⟨1, ns, said, dc⟩ 3) := if_pos ⟨rfl, rfl⟩
      rw [e]
      exact refCancel_goes h hF hok hb
    · have e : RD.cancelM ⟨1, ns, said, dc⟩ i = (21, ⟨1, ns, said, dc⟩) := if_neg (by rintro ⟨_, h3⟩; exact h2 h3)
      rw [e]
      refine (refCancel_other w An As Ad ns.length cn said.length cs dc.length cd i (by simpa using h2)).mono ?_
      rintro e w' ⟨rfl, hb'⟩
      exact ⟨An, cn, As, cs, Ad, cd, rfl, h.below hb', hb'⟩
  · have e : RD.cancelM ⟨st, ns, said, dc⟩ i = (21, ⟨st, ns, said, dc⟩) := if_neg (by rintro ⟨h3, _⟩; exact h1 h3)
    rw [e]
    refine (refCancel_state w st An As Ad ns.length cn said.length cs dc.length cd i (by simpa using h1)).mono ?_
    rintro e w' ⟨rfl, hb'⟩
    exact ⟨An, cn, As, cs, Ad, cd, rfl, h.below hb', hb'⟩
theorem refRecover_calls (h : RdR w base ok v M) (hF : MFine M) (hok : ∀ k, w.heap.size ≤ k → ok k) (hb : base ≤ w.heap.size) :
    Calls Tryd.prog 24 #[v] w (PostV w base ok M.recoverM) := by
  obtain ⟨An, cn, As, cs, Ad, cd, rfl, h⟩ := h
  obtain ⟨st, ns, said, dc⟩ := M
  by_cases h1 : st = 1
  · subst h1
    have e : RD.recoverM ⟨1, ns, said, dc⟩ = RD.decide ⟨1, ns, said, dc⟩ 3 := if_pos rfl
    rw [e]
    exact refRecover_goes h hF hok hb
  · have e : RD.recoverM ⟨st, ns, said, dc⟩ = ⟨st, ns, said, dc⟩ := if_neg h1
    rw [e]
    refine (refRecover_none w st An As Ad ns.length cn said.length cs dc.length cd (by simpa using h1)).mono ?_
    rintro e w' ⟨rfl, hb'⟩
    exact ⟨An, cn, As, cs, Ad, cd, rfl, h.below hb', hb'⟩
/-- What Begin answers. -/
def PostB (w : World) (base : Nat) (ok : Nat → Prop) (P : Int × Int × RD) (e : Ending) (w' : World) : Prop :=
  ∃ An cn As cs Ad cd, e = .returned (.tuple #[.agg #[.int .i64 P.2.2.st, .slice An P.2.2.ns.length cn, .slice As P.2.2.said.length cs, .slice Ad P.2.2.dc.length cd], .int .i64 P.1, eV P.2.1]) ∧ RdAt w' base ok P.2.2 An cn As cs Ad cd ∧ Below w.heap.size w w'
theorem refBegin_calls (h : RdR w base ok v M) (hF : MFine M) (hok : ∀ k, w.heap.size ≤ k → ok k) (hb : base ≤ w.heap.size) (A : Option Addr) (c : Nat) (xs : List Int) (hr : (Kd.int .i64).C w A xs.length xs) (hl : xs.length ≤ 50) :
    Calls Tryd.prog 20 #[v, .slice A xs.length c] w (PostB w base ok (M.beginM xs)) := by
  obtain ⟨An, cn, As, cs, Ad, cd, rfl, h⟩ := h
  obtain ⟨st, ns, said, dc⟩ := M
  unfold RD.beginM
  by_cases h0 : st = 0
  · subst h0
    rw [if_neg (by simp)]
    by_cases hx : xs = [] ∨ ¬ Up xs
    · rw [if_pos hx]
      refine (refBegin_arg w An As Ad A ns.length cn said.length cs dc.length cd c xs hr hl hx).mono ?_
      rintro e w' ⟨rfl, hb'⟩
      exact ⟨An, cn, As, cs, Ad, cd, rfl, h.below hb', hb'⟩
    · rw [if_neg hx]
      rw [not_or, Classical.not_not] at hx
      refine (refBegin_goes w An As Ad A ns.length cn said.length cs cd c xs dc hr (Kd.R_reads' h.rd).2.2 hl hF.dm hx.1 hx.2).mono ?_
      rintro e w' ⟨A2, k2, A3, k3, rfl, hr2, hr3, hb'⟩
      exact ⟨A2, k2, none, 0, A3, k3, rfl, ⟨new_row hr2 hok hb, Kd.R_nil _ _ _ _ _, new_row hr3 hok hb⟩, hb'⟩
  · rw [if_pos h0]
    refine (refBegin_busy w st An As Ad A ns.length cn said.length cs dc.length cd xs.length c (by simpa using h0)).mono ?_
    rintro e w' ⟨rfl, hb'⟩
    exact ⟨An, cn, As, cs, Ad, cd, rfl, h.below hb', hb'⟩
end
end Go.Proofs.YtmhfigkdeeldnaaDoor
