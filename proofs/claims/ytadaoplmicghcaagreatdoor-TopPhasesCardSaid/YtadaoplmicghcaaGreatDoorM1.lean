/- Words on lists; how a wave lies in memory, and what its functions do. -/
import Derived.Test.YtadaoplmicghcaaGreatDoorProg
import Derived.Test.YtadaoplmicghcaaGreatDoorWMore
import Derived.Test.YtadaoplmicghcaaGreatDoorWKept
import Derived.Test.YtadaoplmicghcaaGreatDoorWLast
import Derived.BigQuiet
import Derived.Deep.QuietTactic
import Derived.Deep.LoopGhost
import Derived.WalkSpells
import Derived.Lib.Hide
import Derived.Lib.SliceRun
import Derived.Maps.OwnSet
import Derived.WalkKit
import Derived.Deep.Draws
namespace Go.Proofs.YtadaoplmicghcaaGreatDoor.LC
set_option linter.unusedVariables false
set_option linter.unusedSimpArgs false
theorem length_le_of_subset {α : Type} [DecidableEq α] : ∀ {l m : List α}, l.Nodup → (∀ x ∈ l, x ∈ m) → l.length ≤ m.length
  | [], _, _, _ => Nat.zero_le _
  | a :: l, m, hn, hs => by
    have ha : a ∈ m := hs a (by simp)
    have hn' := List.nodup_cons.1 hn
    have h1 : ∀ x ∈ l, x ∈ m.erase a := by
      intro x hx
      have hne : x ≠ a := fun e => hn'.1 (e ▸ hx)
      exact (List.mem_erase_of_ne hne).2 (hs x (List.mem_cons_of_mem _ hx))
    have h2 := length_le_of_subset hn'.2 h1
    rw [List.length_erase_of_mem ha] at h2
    have : 0 < m.length := List.length_pos_of_mem ha
    simp; omega

theorem subset_of_length_le {α : Type} [DecidableEq α] {l m : List α} (hn : l.Nodup) (hs : ∀ x ∈ l, x ∈ m) (hl : m.length ≤ l.length) : ∀ x ∈ m, x ∈ l := by
  intro x hx
  by_cases hxl : x ∈ l
  · exact hxl
  · have h1 : ∀ y ∈ l, y ∈ m.erase x := by
      intro y hy
      have hne : y ≠ x := fun e => hxl (e ▸ hy)
      exact (List.mem_erase_of_ne hne).2 (hs y hy)
    have h2 := length_le_of_subset hn h1
    rw [List.length_erase_of_mem hx] at h2
    have : 0 < m.length := List.length_pos_of_mem hx
    omega
theorem length_eq_of_same {α : Type} [DecidableEq α] {l m : List α} (hn : l.Nodup) (hm : m.Nodup) (h : ∀ x, x ∈ l ↔ x ∈ m) : l.length = m.length :=
  Nat.le_antisymm (length_le_of_subset hn fun x hx => (h x).1 hx) (length_le_of_subset hm fun x hx => (h x).2 hx)
end Go.Proofs.YtadaoplmicghcaaGreatDoor.LC
namespace Go.Proofs.YtadaoplmicghcaaGreatDoor.WvTree
open LC
inductive Walk (E : Int → Int → Prop) : Int → Int → Nat → Prop
  | here (a : Int) : Walk E a a 0
  | step {a b c : Int} {n : Nat} : E a b → Walk E b c n → Walk E a c (n + 1)

theorem Walk.append {E : Int → Int → Prop} {a b c : Int} {n m : Nat} (h : Walk E a b n) (k : Walk E b c m) : Walk E a c (n + m) := by
  induction h with
  | here a => simpa using k
  | step e _ ih => have := Walk.step e (ih k); simpa [Nat.add_right_comm] using this
theorem Walk.rev {E : Int → Int → Prop} (hs : ∀ a b, E a b → E b a) {a b : Int} {n : Nat} (h : Walk E a b n) : Walk E b a n := by
  induction h with
  | here a => exact .here a
  | step e _ ih => exact ih.append (.step (hs _ _ e) (.here _))

theorem exists_least {P : Nat → Prop} (h : ∃ n, P n) : ∃ n, P n ∧ ∀ m, m < n → ¬ P m := by
  obtain ⟨n, hn⟩ := h
  induction n using Nat.strongRecOn with
  | _ n ih =>
    by_cases hm : ∃ m, m < n ∧ P m
    · obtain ⟨m, hlt, hp⟩ := hm
      exact ih m hlt hp
    · exact ⟨n, hn, fun m hlt hp => hm ⟨m, hlt, hp⟩⟩

open Classical in
noncomputable def least (P : Nat → Prop) : Nat := if h : ∃ n, P n then Classical.choose (exists_least h) else 0
theorem least_spec {P : Nat → Prop} (h : ∃ n, P n) : P (least P) ∧ ∀ m, m < least P → ¬ P m := by
  unfold least
  rw [dif_pos h]
  exact Classical.choose_spec (exists_least h)
theorem least_le {P : Nat → Prop} {n : Nat} (h : P n) : least P ≤ n := by
  have := (least_spec ⟨n, h⟩).2 n
  rcases Nat.lt_or_ge n (least P) with hlt | hge
  · exact absurd h (this hlt)
  · exact hge

/-- A distance to u. -/
theorem exists_dist {E : Int → Int → Prop} {ms : List Int} {u : Int} (hconn : ∀ a, a ∈ ms → ∃ n, Walk E a u n) :
    ∃ d : Int → Nat, ∀ a, a ∈ ms → a ≠ u → ∃ b, E a b ∧ d b < d a := by
  refine ⟨fun a => least (Walk E a u), fun a ha hne => ?_⟩
  have hl := (least_spec (hconn a ha)).1
  dsimp only
  generalize least (Walk E a u) = n at hl
  cases hl with
  | here => exact absurd rfl hne
  | step e h => exact ⟨_, e, Nat.lt_succ_of_le (least_le h)⟩

/-- Safety: who has begun and heard all has all others begun. -/
theorem all_begun {E : Int → Int → Prop} {ms : List Int} (hE : ∀ a b, E a b → b ∈ ms) (hconn : ∀ a b, a ∈ ms → b ∈ ms → ∃ n, Walk E a b n)
    {begun : Int → Prop} {sent heard : Int → Int → Prop} (hh : ∀ u w, heard u w → sent w u)
    (hs : ∀ u v, sent u v → begun u ∧ ∀ w, E u w → w ≠ v → heard u w)
    (hsym : ∀ a b, E a b → E b a)
    {u : Int} (hu : u ∈ ms) (hbu : begun u) (hdone : ∀ w, E u w → heard u w) : ∀ a, a ∈ ms → begun a := by
  obtain ⟨d, hd⟩ := exists_dist (fun a ha => hconn a u ha hu)
  have key : ∀ n a, d a = n → a ∈ ms → a ≠ u → ∃ b, E a b ∧ d b < d a ∧ sent a b := by
    intro n
    induction n using Nat.strongRecOn with
    | _ n ih =>
      intro a hda ha hne
      obtain ⟨b, hab, hlt⟩ := hd a ha hne
      refine ⟨b, hab, hlt, ?_⟩
      by_cases hbu' : b = u
      · subst hbu'
        exact hh _ _ (hdone a (hsym _ _ hab))
      · obtain ⟨c, hbc, hltc, hsc⟩ := ih (d b) (by omega) b rfl (hE _ _ hab) hbu'
        exact hh _ _ ((hs _ _ hsc).2 a (hsym _ _ hab) (fun e => by subst e; omega))
  intro a ha
  by_cases hau : a = u
  · subst hau; exact hbu
  · obtain ⟨b, _, _, hsb⟩ := key _ a rfl ha hau
    exact (hs _ _ hsb).1

/-- Liveness: all is told in the end. -/
theorem all_sent {E : Int → Int → Prop} {rank : Int → Int → Nat} (hr : ∀ u v w, E u v → E u w → w ≠ v → rank w u < rank u v)
    (hsym : ∀ a b, E a b → E b a)
    {sent heard : Int → Int → Prop} (hh : ∀ u w, sent w u → heard u w) (hc : ∀ u v, E u v → (∀ w, E u w → w ≠ v → heard u w) → sent u v) :
    ∀ u v, E u v → sent u v := by
  have key : ∀ n u v, rank u v = n → E u v → sent u v := by
    intro n
    induction n using Nat.strongRecOn with
    | _ n ih =>
      intro u v hn huv
      refine hc u v huv fun w huw hne => hh u w (ih (rank w u) ?_ w u rfl (hsym _ _ huw))
      have := hr u v w huv huw hne
      omega
  exact fun u v h => key _ u v rfl h

/-- The edges of links. -/
def Edge (links : List (Int × Int)) (a b : Int) : Prop := (a, b) ∈ links ∨ (b, a) ∈ links
theorem Edge.symm {links : List (Int × Int)} : ∀ a b, Edge links a b → Edge links b a := fun _ _ h => Or.symm h

theorem idxOf_inj {L : List Int} {a b : Int} (ha : a ∈ L) (hb : b ∈ L) (h : L.idxOf a = L.idxOf b) : a = b := by
  have h1 := List.idxOf_lt_length_of_mem ha
  have h2 := List.idxOf_lt_length_of_mem hb
  have e1 := List.getElem_idxOf h1
  have e2 := List.getElem_idxOf h2
  rw [← e1, ← e2]
  congr 1

section
variable {links : List (Int × Int)} {root : Int} {rest : List Int}

theorem walk_root (hn : (root :: rest).Nodup) (hpar : ∀ v, v ∈ rest → ∃ w, w ∈ root :: rest ∧ Edge links v w ∧ (root :: rest).idxOf w < (root :: rest).idxOf v) :
    ∀ v, v ∈ root :: rest → ∃ n, Walk (Edge links) v root n := by
  have key : ∀ n v, (root :: rest).idxOf v = n → v ∈ root :: rest → ∃ n, Walk (Edge links) v root n := by
    intro n
    induction n using Nat.strongRecOn with
    | _ n ih =>
      intro v hv hm
      rcases List.mem_cons.1 hm with e | hr
      · subst e; exact ⟨0, .here _⟩
      · obtain ⟨w, hw, hE, hlt⟩ := hpar v hr
        obtain ⟨m, hm'⟩ := ih _ (by omega) w rfl hw
        exact ⟨m + 1, .step hE hm'⟩
  exact fun v hv => key _ v rfl hv

theorem connected (hn : (root :: rest).Nodup) (hpar : ∀ v, v ∈ rest → ∃ w, w ∈ root :: rest ∧ Edge links v w ∧ (root :: rest).idxOf w < (root :: rest).idxOf v) :
    ∀ a b, a ∈ root :: rest → b ∈ root :: rest → ∃ n, Walk (Edge links) a b n := by
  intro a b ha hb
  obtain ⟨n, h⟩ := walk_root hn hpar a ha
  obtain ⟨m, k⟩ := walk_root hn hpar b hb
  exact ⟨_, h.append (k.rev Edge.symm)⟩

theorem exists_rank (hn : (root :: rest).Nodup) (hlt : ∀ a b, (a, b) ∈ links → a < b)
    (hlen : links.length ≤ rest.length)
    (hpar : ∀ v, v ∈ rest → ∃ w, w ∈ root :: rest ∧ Edge links v w ∧ (root :: rest).idxOf w < (root :: rest).idxOf v) :
    ∃ rank : Int → Int → Nat, ∀ u v w, Edge links u v → Edge links u w → w ≠ v → rank w u < rank u v := by
  have hch : ∃ par : Int → Int, ∀ v, v ∈ rest → par v ∈ root :: rest ∧ Edge links v (par v) ∧ (root :: rest).idxOf (par v) < (root :: rest).idxOf v := by
    refine ⟨fun v => if h : v ∈ rest then Classical.choose (hpar v h) else 0, fun v hv => ?_⟩
    simp only [hv, dif_pos]
    exact Classical.choose_spec (hpar v hv)
  obtain ⟨par, hp⟩ := hch
  generalize hL : root :: rest = L at *
  have hrL : ∀ v, v ∈ rest → v ∈ L := fun v hv => by rw [← hL]; exact List.mem_cons_of_mem _ hv
  have hrn : rest.Nodup := by rw [← hL] at hn; exact (List.nodup_cons.1 hn).2
  let lk : Int → Int × Int := fun v => (min v (par v), max v (par v))
  have hlk : ∀ v, v ∈ rest → lk v ∈ links := by
    intro v hv
    obtain ⟨_, hE, _⟩ := hp v hv
    rcases hE with h | h
    · have := hlt _ _ h
      have e : lk v = (v, par v) := by simp only [lk, Prod.mk.injEq]; omega
      rw [e]; exact h
    · have := hlt _ _ h
      have e : lk v = (par v, v) := by simp only [lk, Prod.mk.injEq]; omega
      rw [e]; exact h
  have hinj : ∀ v v', v ∈ rest → v' ∈ rest → lk v = lk v' → v = v' := by
    intro v v' hv hv' he
    obtain ⟨_, _, h1⟩ := hp v hv
    obtain ⟨_, _, h2⟩ := hp v' hv'
    simp only [lk, Prod.mk.injEq] at he
    by_cases hvv : v = v'
    · exact hvv
    · exfalso
      have e1 : v = par v' := by omega
      have e2 : v' = par v := by omega
      rw [← e2] at h1
      rw [← e1] at h2
      omega
  have hmn : (rest.map lk).Nodup := by
    have : ∀ l : List Int, l.Nodup → (∀ x, x ∈ l → x ∈ rest) → (l.map lk).Nodup := by
      intro l
      induction l with
      | nil => intros; simp
      | cons a l ih =>
        intro hn hs
        have hn' := List.nodup_cons.1 hn
        rw [List.map_cons, List.nodup_cons]
        refine ⟨fun hc => ?_, ih hn'.2 fun x hx => hs x (List.mem_cons_of_mem _ hx)⟩
        obtain ⟨x, hx, he⟩ := List.mem_map.1 hc
        have := hinj x a (hs x (List.mem_cons_of_mem _ hx)) (hs a (by simp)) he
        subst this
        exact hn'.1 hx
    exact this rest hrn fun _ h => h
  have hall : ∀ k, k ∈ links → k ∈ rest.map lk := subset_of_length_le hmn (fun x hx => by
    obtain ⟨v, hv, rfl⟩ := List.mem_map.1 hx
    exact hlk v hv) (by simpa using hlen)
  -- each edge is one of a member and its parent
  have hor : ∀ a b, Edge links a b → (a ∈ rest ∧ b = par a) ∨ (b ∈ rest ∧ a = par b) := by
    have aux : ∀ a b, (a, b) ∈ links → (a ∈ rest ∧ b = par a) ∨ (b ∈ rest ∧ a = par b) := by
      intro a b h
      obtain ⟨v, hv, he⟩ := List.mem_map.1 (hall _ h)
      simp only [lk, Prod.mk.injEq] at he
      by_cases hva : v = a
      · subst hva; exact .inl ⟨hv, by omega⟩
      · have : v = b := by omega
        subst this; exact .inr ⟨hv, by omega⟩
    intro a b h
    rcases h with h | h
    · exact aux a b h
    · exact (aux b a h).symm
  open Classical in
  refine ⟨fun u v => if u ∈ rest ∧ v = par u then L.length - L.idxOf u else L.length + L.idxOf v, fun u v w huv huw hne => ?_⟩
  have hix : ∀ x, x ∈ L → L.idxOf x < L.length := fun x hx => List.idxOf_lt_length_of_mem hx
  dsimp only
  by_cases hup : u ∈ rest ∧ v = par u
  · rw [if_pos hup]
    obtain ⟨hu, rfl⟩ := hup
    rcases hor u w huw with ⟨_, e⟩ | ⟨hw, e⟩
    · exact absurd e hne
    · rw [if_pos ⟨hw, e⟩]
      have h1 := (hp w hw).2.2
      rw [← e] at h1
      have := hix w (hrL w hw)
      omega
  · rw [if_neg hup]
    rcases hor u v huv with h | ⟨hv, e⟩
    · exact absurd h hup
    · have h1 := (hp v hv).2.2
      rw [← e] at h1
      rcases hor u w huw with ⟨hu, e2⟩ | ⟨hw, e2⟩
      · have hnd : ¬ (w ∈ rest ∧ u = par w) := by
          rintro ⟨hw, e3⟩
          have h2 := (hp w hw).2.2
          have h3 := (hp u hu).2.2
          rw [← e3] at h2
          rw [← e2] at h3
          omega
        rw [if_neg hnd]
        omega
      · rw [if_pos ⟨hw, e2⟩]
        have := hix u (by rw [e]; exact (hp v hv).1)
        omega
end
end Go.Proofs.YtadaoplmicghcaaGreatDoor.WvTree
namespace Go.Proofs.YtadaoplmicghcaaGreatDoor.WvSim
open LC WvTree
/-- Whom a node tells now. -/
def ready (near heard : List Int) (n : Int) : Bool := decide ((heard.length : Int) - (if n ∈ heard then 1 else 0) = (near.length : Int) - 1)
def tells (near heard told : List Int) (bg : Bool) : List Int := near.filter fun n => bg && (!decide (n ∈ told) && ready near heard n)

theorem ready_iff {near heard : List Int} (hn : near.Nodup) (hh : heard.Nodup) (hs : ∀ x, x ∈ heard → x ∈ near) {n : Int} (h : n ∈ near) :
    ready near heard n = true ↔ ∀ w, w ∈ near → w ≠ n → w ∈ heard := by
  have e1 : (heard.erase n).length = heard.length - (if n ∈ heard then 1 else 0) := by
    by_cases h' : n ∈ heard
    · rw [if_pos h', List.length_erase_of_mem h']
    · rw [if_neg h', List.erase_of_not_mem h']; rfl
  have e2 := List.length_erase_of_mem h
  have hp := List.length_pos_of_mem h
  have hle : (if n ∈ heard then 1 else 0) ≤ heard.length := by
    by_cases h' : n ∈ heard
    · rw [if_pos h']; exact List.length_pos_of_mem h'
    · rw [if_neg h']; omega
  have hmem : ∀ x, x ∈ heard.erase n → x ∈ near.erase n := by
    intro x hx
    have hne : x ≠ n := fun e => (List.Nodup.not_mem_erase hh) (e ▸ hx)
    exact (List.mem_erase_of_ne hne).2 (hs x (List.mem_of_mem_erase hx))
  have hk : ready near heard n = true ↔ (heard.erase n).length = (near.erase n).length := by
    unfold ready
    rw [decide_eq_true_iff, e1, e2]
    by_cases h' : n ∈ heard
    · simp only [if_pos h'] at hle ⊢; omega
    · simp only [if_neg h'] at hle ⊢; omega
  rw [hk]
  constructor
  · intro he w hw hne
    have := subset_of_length_le (hh.erase n) hmem (by omega) w ((List.mem_erase_of_ne hne).2 hw)
    exact List.mem_of_mem_erase this
  · intro ha
    refine length_eq_of_same (hh.erase n) (hn.erase n) fun x => ⟨hmem x, fun hx => ?_⟩
    have hne : x ≠ n := fun e => (List.Nodup.not_mem_erase hn) (e ▸ hx)
    exact (List.mem_erase_of_ne hne).2 (ha x (List.mem_of_mem_erase hx) hne)

theorem mem_tells {near heard told : List Int} {bg : Bool} {n : Int} : n ∈ tells near heard told bg ↔ n ∈ near ∧ bg = true ∧ n ∉ told ∧ ready near heard n = true := by
  unfold tells
  simp

def upd {α : Type} (f : Int → α) (u : Int) (x : α) : Int → α := fun v => if v = u then x else f v
theorem upd_same {α : Type} (f : Int → α) (u : Int) (x : α) : upd f u x u = x := by simp [upd]
theorem upd_other {α : Type} (f : Int → α) {u v : Int} (x : α) (h : v ≠ u) : upd f u x v = f v := by simp [upd, h]

structure St where
  heard : Int → List Int
  told : Int → List Int
  bg : Int → Bool
  todo : List (Int × Int)
  all : List (Int × Int)

structure Inv (E : Int → Int → Prop) (ms : List Int) (near : Int → List Int) (s : St) : Prop where
  hn : ∀ u, u ∈ ms → (s.heard u).Nodup
  tn : ∀ u, u ∈ ms → (s.told u).Nodup
  an : s.all.Nodup
  dn : s.todo.Nodup
  da : ∀ m, m ∈ s.todo → m ∈ s.all
  am : ∀ u v, (u, v) ∈ s.all ↔ u ∈ ms ∧ v ∈ s.told u
  hm : ∀ u w, u ∈ ms → (w ∈ s.heard u ↔ (w, u) ∈ s.all ∧ (w, u) ∉ s.todo)
  tm : ∀ u v, u ∈ ms → (v ∈ s.told u ↔ s.bg u = true ∧ v ∈ near u ∧ ∀ w, w ∈ near u → w ≠ v → w ∈ s.heard u)

def begin_ (near : Int → List Int) (s : St) (u : Int) : St :=
  let t := tells (near u) (s.heard u) (s.told u) true
  { heard := s.heard, told := upd s.told u (s.told u ++ t), bg := upd s.bg u true, todo := s.todo ++ t.map (fun v => (u, v)), all := s.all ++ t.map (fun v => (u, v)) }
def hear_ (near : Int → List Int) (s : St) (w u : Int) (todo1 : List (Int × Int)) : St :=
  let h := s.heard u ++ [w]
  let t := tells (near u) h (s.told u) (s.bg u)
  { heard := upd s.heard u h, told := upd s.told u (s.told u ++ t), bg := s.bg, todo := todo1 ++ t.map (fun v => (u, v)), all := s.all ++ t.map (fun v => (u, v)) }

section
variable {E : Int → Int → Prop} {ms : List Int} {near : Int → List Int} {s : St}

/-- The net: whose neighbours are whose. -/
structure Net (E : Int → Int → Prop) (ms : List Int) (near : Int → List Int) : Prop where
  nearN : ∀ u, u ∈ ms → (near u).Nodup
  isE : ∀ u v, u ∈ ms → (v ∈ near u ↔ E u v)
  sym : ∀ a b, E a b → E b a
  inMs : ∀ a b, E a b → a ∈ ms

theorem Inv.heard_near (N : Net E ms near) (h : Inv E ms near s) {u w : Int} (hu : u ∈ ms) (hw : w ∈ s.heard u) : w ∈ near u := by
  have h1 := ((h.hm u w hu).1 hw).1
  obtain ⟨hwm, ht⟩ := (h.am w u).1 h1
  have := ((h.tm w u hwm).1 ht).2.1
  exact (N.isE u w hu).2 (N.sym _ _ ((N.isE w u hwm).1 this))

theorem map_nodup {l : List Int} (u : Int) (h : l.Nodup) : (l.map (fun v => (u, v))).Nodup := by
  induction l with
  | nil => simp
  | cons a l ih =>
    have h' := List.nodup_cons.1 h
    rw [List.map_cons, List.nodup_cons]
    exact ⟨fun hc => by
      obtain ⟨x, hx, he⟩ := List.mem_map.1 hc
      simp only [Prod.mk.injEq] at he
      exact h'.1 (he.2 ▸ hx), ih h'.2⟩

/-- What tell does to the invariant: from a state in which all but 'tm' at u holds. -/
theorem told_step (N : Net E ms near) (h : Inv E ms near s) {u : Int} (hu : u ∈ ms) {hd : List Int} {b : Bool} (hdn : hd.Nodup) (hdE : ∀ x, x ∈ hd → x ∈ near u)
    (hmono : ∀ x, x ∈ s.heard u → x ∈ hd) (hb : s.bg u = true → b = true) (v : Int) :
    v ∈ s.told u ++ tells (near u) hd (s.told u) b ↔ b = true ∧ v ∈ near u ∧ ∀ w, w ∈ near u → w ≠ v → w ∈ hd := by
  rw [List.mem_append, mem_tells]
  constructor
  · rintro (ht | ⟨hv, hb', _, hr⟩)
    · obtain ⟨h1, h2, h3⟩ := (h.tm u v hu).1 ht
      exact ⟨hb h1, h2, fun w hw hne => hmono _ (h3 w hw hne)⟩
    · exact ⟨hb', hv, (ready_iff (N.nearN u hu) hdn hdE hv).1 hr⟩
  · rintro ⟨hb', hv, ha⟩
    by_cases ht : v ∈ s.told u
    · exact .inl ht
    · exact .inr ⟨hv, hb', ht, (ready_iff (N.nearN u hu) hdn hdE hv).2 ha⟩

theorem told_nodup (N : Net E ms near) (h : Inv E ms near s) {u : Int} (hu : u ∈ ms) (hd : List Int) (b : Bool) : (s.told u ++ tells (near u) hd (s.told u) b).Nodup := by
  rw [List.nodup_append]
  refine ⟨h.tn u hu, (N.nearN u hu).filter _, fun a ha c hc e => ?_⟩
  subst e
  exact (mem_tells.1 hc).2.2.1 ha

theorem tells_fresh (h : Inv E ms near s) {u : Int} (hd : List Int) (b : Bool) : ∀ m, m ∈ (tells (near u) hd (s.told u) b).map (fun v => (u, v)) → m ∉ s.all := by
  intro m hm hc
  obtain ⟨v, hv, rfl⟩ := List.mem_map.1 hm
  exact (mem_tells.1 hv).2.2.1 ((h.am u v).1 hc).2

theorem Inv.begin_ok (N : Net E ms near) (h : Inv E ms near s) {u : Int} (hu : u ∈ ms) (_hbg : s.bg u = false) : Inv E ms near (begin_ near s u) := by
  have hhn := h.hn u hu
  have hhE : ∀ x, x ∈ s.heard u → x ∈ near u := fun x hx => h.heard_near N hu hx
  have hf := tells_fresh h (u := u) (s.heard u) true
  have hstep := fun v => told_step N h hu (hd := s.heard u) (b := true) hhn hhE (fun _ hx => hx) (fun _ => rfl) v
  have hmn := map_nodup u ((N.nearN u hu).filter (fun n => true && (!decide (n ∈ s.told u) && ready (near u) (s.heard u) n)))
  constructor
  · exact h.hn
  · intro v hv
    by_cases e : v = u
    · subst e
      simp only [begin_, upd_same]
      exact told_nodup N h hu _ _
    · simp only [begin_, upd_other _ _ e]; exact h.tn v hv
  · simp only [begin_]
    rw [List.nodup_append]
    exact ⟨h.an, hmn, fun a ha c hc e => hf c hc (e ▸ ha)⟩
  · simp only [begin_]
    rw [List.nodup_append]
    exact ⟨h.dn, hmn, fun a ha c hc e => hf c hc (e ▸ h.da a ha)⟩
  · intro m hm
    simp only [begin_, List.mem_append] at hm ⊢
    exact hm.imp (h.da m) id
  · intro a b
    simp only [begin_, List.mem_append]
    by_cases e : a = u
    · subst e
      rw [upd_same, h.am, List.mem_append]
      simp only [List.mem_map, Prod.mk.injEq, true_and, exists_eq_right, hu]
    · rw [upd_other _ _ e, h.am]
      constructor
      · rintro (h1 | h1)
        · exact h1
        · obtain ⟨x, _, he⟩ := List.mem_map.1 h1
          simp only [Prod.mk.injEq] at he
          exact absurd he.1.symm e
      · exact .inl
  · intro a w ha
    simp only [begin_, List.mem_append]
    rw [h.hm a w ha]
    constructor
    · rintro ⟨h1, h2⟩
      exact ⟨.inl h1, fun hc => hc.elim h2 fun h3 => hf _ h3 h1⟩
    · rintro ⟨h1, h2⟩
      rcases h1 with h1 | h1
      · exact ⟨h1, fun hc => h2 (.inl hc)⟩
      · exact absurd (.inr h1) h2
  · intro a v ha
    simp only [begin_]
    by_cases e : a = u
    · subst e
      rw [upd_same, upd_same]
      exact hstep v
    · rw [upd_other _ _ e, upd_other _ _ e]; exact h.tm a v ha

theorem Inv.hear_facts (N : Net E ms near) (h : Inv E ms near s) {w u : Int} (hm : (w, u) ∈ s.todo) : u ∈ ms ∧ w ∈ near u ∧ w ∉ s.heard u := by
  have ha := h.da _ hm
  obtain ⟨hw, ht⟩ := (h.am w u).1 ha
  have hEw := (N.isE w u hw).1 ((h.tm w u hw).1 ht).2.1
  have hu := N.inMs _ _ (N.sym _ _ hEw)
  exact ⟨hu, (N.isE u w hu).2 (N.sym _ _ hEw), fun hc => ((h.hm u w hu).1 hc).2 hm⟩

theorem Inv.hear_ok (N : Net E ms near) (h : Inv E ms near s) {w u : Int} {todo1 : List (Int × Int)} (hm : (w, u) ∈ s.todo) (h1 : todo1.Nodup) (h2 : ∀ m, m ∈ todo1 ↔ m ∈ s.todo ∧ m ≠ (w, u)) : Inv E ms near (hear_ near s w u todo1) := by
  obtain ⟨hu, hwn, hwh⟩ := h.hear_facts N hm
  have hhn : (s.heard u ++ [w]).Nodup := by
    rw [List.nodup_append]
    exact ⟨h.hn u hu, by simp, fun a ha c hc e => by simp at hc; subst hc; exact hwh (e ▸ ha)⟩
  have hhE : ∀ x, x ∈ s.heard u ++ [w] → x ∈ near u := fun x hx => by
    rcases List.mem_append.1 hx with h3 | h3
    · exact h.heard_near N hu h3
    · simp at h3; subst h3; exact hwn
  have hf := tells_fresh h (u := u) (s.heard u ++ [w]) (s.bg u)
  have hstep := fun v => told_step N h hu (hd := s.heard u ++ [w]) (b := s.bg u) hhn hhE (fun _ hx => List.mem_append_left _ hx) (fun hb => hb) v
  have hmn := map_nodup u ((N.nearN u hu).filter (fun n => s.bg u && (!decide (n ∈ s.told u) && ready (near u) (s.heard u ++ [w]) n)))
  have hall := h.da _ hm
  constructor
  · intro a ha
    simp only [hear_]
    by_cases e : a = u
    · subst e; rw [upd_same]; exact hhn
    · rw [upd_other _ _ e]; exact h.hn a ha
  · intro v hv
    simp only [hear_]
    by_cases e : v = u
    · subst e
      rw [upd_same]
      exact told_nodup N h hu _ _
    · rw [upd_other _ _ e]; exact h.tn v hv
  · simp only [hear_]
    rw [List.nodup_append]
    exact ⟨h.an, hmn, fun a ha c hc e => hf c hc (e ▸ ha)⟩
  · simp only [hear_]
    rw [List.nodup_append]
    exact ⟨h1, hmn, fun a ha c hc e => hf c hc (e ▸ h.da a ((h2 a).1 ha).1)⟩
  · intro m hm'
    simp only [hear_, List.mem_append] at hm' ⊢
    exact hm'.imp (fun h3 => h.da m ((h2 m).1 h3).1) id
  · intro a b
    simp only [hear_, List.mem_append]
    by_cases e : a = u
    · subst e
      rw [upd_same, h.am, List.mem_append]
      simp only [List.mem_map, Prod.mk.injEq, true_and, exists_eq_right, hu]
    · rw [upd_other _ _ e, h.am]
      constructor
      · rintro (h1 | h1)
        · exact h1
        · obtain ⟨x, _, he⟩ := List.mem_map.1 h1
          simp only [Prod.mk.injEq] at he
          exact absurd he.1.symm e
      · exact .inl
  · intro a x ha
    simp only [hear_, List.mem_append]
    by_cases e : a = u
    · subst e
      rw [upd_same, List.mem_append, h.hm a x ha]
      constructor
      · rintro (⟨h3, h4⟩ | h3)
        · exact ⟨.inl h3, fun hc => hc.elim (fun h5 => h4 ((h2 _).1 h5).1) fun h5 => hf _ h5 h3⟩
        · simp at h3; subst h3
          exact ⟨.inl hall, fun hc => hc.elim (fun h5 => ((h2 _).1 h5).2 rfl) fun h5 => hf _ h5 hall⟩
      · rintro ⟨h3, h4⟩
        rcases h3 with h3 | h3
        · by_cases hx : x = w
          · subst hx; exact .inr (by simp)
          · exact .inl ⟨h3, fun hc => h4 (.inl ((h2 _).2 ⟨hc, by simp [hx]⟩))⟩
        · exact absurd (.inr h3) h4
    · rw [upd_other _ _ e, h.hm a x ha]
      constructor
      · rintro ⟨h3, h4⟩
        exact ⟨.inl h3, fun hc => hc.elim (fun h5 => h4 ((h2 _).1 h5).1) fun h5 => hf _ h5 h3⟩
      · rintro ⟨h3, h4⟩
        rcases h3 with h3 | h3
        · exact ⟨h3, fun hc => h4 (.inl ((h2 _).2 ⟨hc, by simp [e]⟩))⟩
        · exact absurd (.inr h3) h4
  · intro a v ha
    simp only [hear_]
    by_cases e : a = u
    · subst e
      rw [upd_same, upd_same]
      exact hstep v
    · rw [upd_other _ _ e, upd_other _ _ e]; exact h.tm a v ha

/-- At the beginning. -/
theorem Inv.start : Inv E ms near { heard := fun _ => [], told := fun _ => [], bg := fun _ => false, todo := [], all := [] } := by
  constructor <;> simp

/-- Safety. -/
theorem Inv.safe (N : Net E ms near) (h : Inv E ms near s) (hms2 : ∀ a b, E a b → b ∈ ms) (hconn : ∀ a b, a ∈ ms → b ∈ ms → ∃ n, Walk E a b n) {u : Int} (hu : u ∈ ms) (hb : s.bg u = true) (hl : (s.heard u).length = (near u).length) :
    ∀ a, a ∈ ms → s.bg a = true := by
  refine all_begun (E := E) (ms := ms) hms2 hconn (begun := fun a => s.bg a = true) (sent := fun a b => (a, b) ∈ s.all) (heard := fun a w => a ∈ ms ∧ w ∈ s.heard a) ?_ ?_ N.sym hu hb ?_
  · rintro a w ⟨ha, hw⟩
    exact ((h.hm a w ha).1 hw).1
  · intro a v hav
    obtain ⟨ha, ht⟩ := (h.am a v).1 hav
    obtain ⟨h1, _, h3⟩ := (h.tm a v ha).1 ht
    exact ⟨h1, fun w hw hne => ⟨ha, h3 w ((N.isE a w ha).2 hw) hne⟩⟩
  · intro w hw
    exact ⟨hu, subset_of_length_le (h.hn u hu) (fun x hx => h.heard_near N hu hx) (by omega) w ((N.isE u w hu).2 hw)⟩

/-- In the end. -/
theorem Inv.all_told (N : Net E ms near) (h : Inv E ms near s) (hms2 : ∀ a b, E a b → b ∈ ms) {rank : Int → Int → Nat} (hr : ∀ u v w, E u v → E u w → w ≠ v → rank w u < rank u v) (hbg : ∀ a, a ∈ ms → s.bg a = true) (ht : s.todo = []) :
    ∀ u v, E u v → (u, v) ∈ s.all := by
  refine all_sent (E := E) hr N.sym (sent := fun a b => (a, b) ∈ s.all) (heard := fun a w => a ∈ ms ∧ w ∈ s.heard a) ?_ ?_
  · intro a w hwa
    obtain ⟨hw, htw⟩ := (h.am w a).1 hwa
    have ha := hms2 _ _ ((N.isE w a hw).1 ((h.tm w a hw).1 htw).2.1)
    exact ⟨ha, (h.hm a w ha).2 ⟨hwa, by rw [ht]; simp⟩⟩
  · intro a v hav hall
    have ha := N.inMs _ _ hav
    exact (h.am a v).2 ⟨ha, (h.tm a v ha).2 ⟨hbg a ha, (N.isE a v ha).2 hav, fun w hw hne => (hall w ((N.isE a w ha).1 hw) hne).2⟩⟩

theorem Inv.all_done (N : Net E ms near) (h : Inv E ms near s) (hms2 : ∀ a b, E a b → b ∈ ms) {rank : Int → Int → Nat} (hr : ∀ u v w, E u v → E u w → w ≠ v → rank w u < rank u v) (hbg : ∀ a, a ∈ ms → s.bg a = true) (ht : s.todo = []) :
    ∀ u, u ∈ ms → (s.heard u).length = (near u).length := by
  intro u hu
  refine length_eq_of_same (h.hn u hu) (N.nearN u hu) fun x => ⟨fun hx => h.heard_near N hu hx, fun hx => ?_⟩
  refine (h.hm u x hu).2 ⟨h.all_told N hms2 hr hbg ht _ _ (N.sym _ _ ((N.isE u x hu).1 hx)), by rw [ht]; simp⟩
end
end Go.Proofs.YtadaoplmicghcaaGreatDoor.WvSim
namespace Go.Proofs.YtadaoplmicghcaaGreatDoor
open Go.RowKit Go.Proofs.YtadaoplmicghcaaGreatDoorW.PrintWords Go.Proofs.YtadaoplmicghcaaGreatDoorW.PrintLast Go.Proofs.YtadaoplmicghcaaGreatDoorW.PrintMore
set_option linter.unusedVariables false
set_option linter.unusedSimpArgs false

theorem info3 : (Tryz.prog.info? 3).map (fun i => (i.zero, i.size, i.bytes)) = some (some (.int .i64 0), 1, 8) := by kernel_rfl
theorem take_rd (l : List Int) (k : Nat) (h : k < l.length) : l.take (k + 1) = l.take k ++ [rd l k] := by
  rw [List.take_succ_eq_append_getElem h]
  simp [rd, List.getD_eq_getElem?_getD, List.getElem?_eq_getElem h]
theorem rd_get (l : List Int) (k : Nat) (h : k < l.length) : rd l k = l[k] := by
  simp [rd, List.getD_eq_getElem?_getD, List.getElem?_eq_getElem h]
theorem rd_mem (l : List Int) (k : Nat) (h : k < l.length) : rd l k ∈ l := by
  rw [rd_get l k h]
  exact List.getElem_mem h
theorem empty_row (W : World) (base : Nat) (ok : Nat → Prop) (hb : base ≤ W.heap.size) (hok : ok W.heap.size) (t : TypeId) : (Kd.int .i64).R t (W.alloc (.cells #[] t)) base ok (.slice (some ⟨W.heap.size, 0, none⟩) 0 0) [] :=
  Kd.R_of_own (enc := Value.int .i64) (by simpa [encs] using own_lit_of (enc := Value.int .i64) W base t [] hb (by simp)) (fun k hk => by simp [Value.ownBlock] at hk; exact hk ▸ hok)
theorem C_of_own {w : World} {base n c : Nat} {t : TypeId} {A : Option Addr} {xs : List Int} (h : w.ownsRow base t 1 (.slice A n c) n (encs (Value.int .i64) xs)) (hn : xs.length = n) : (Kd.int .i64).C w A n xs := by
  subst hn
  exact (Kd.R_reads' (Kd.R_of_own (ok := fun _ => True) h (fun _ _ => trivial) : (Kd.int .i64).R t w base (fun _ => True) (.slice A xs.length c) xs)).2.2
/-- A literal of numbers. -/
theorem lit_C (W : World) (t : TypeId) (xs : List Int) (hm : xs.length ≤ 9223372036854775807) : (Kd.int .i64).C (W.alloc (.cells (encs (Value.int .i64) xs).toArray t)) (some ⟨W.heap.size, 0, none⟩) xs.length xs :=
  C_of_own (own_lit_of (enc := Value.int .i64) W 0 t xs (Nat.zero_le _) hm) rfl
/-- .. in the goal's own spelling: '(lit_at _ _ XS (by simp) (by simp) rfl rfl)'. -/
theorem lit_at (W : World) (t : TypeId) (xs : List Int) {g n : Nat} {cs : Array Value} (hm : xs.length ≤ 9223372036854775807) (hg : W.heap.size = g) (hcs : cs = (encs (Value.int .i64) xs).toArray) (hn : xs.length = n) : (Kd.int .i64).C (W.alloc (.cells cs t)) (some ⟨g, 0, none⟩) n xs := by
  subst hg hcs hn
  exact lit_C W t xs hm
/-- One cell of a list that is read. -/
theorem C_cell {w : World} {A : Option Addr} {xs : List Int} (h : (Kd.int .i64).C w A xs.length xs) {k : Nat} (hk : k < xs.length) : ∃ ad, A = some ad ∧ w.cell? (ad.add k) = some (.int .i64 (rd xs k)) := by
  obtain ⟨ad, e, hc⟩ := Kd.at_int h k (by omega) (by omega)
  exact ⟨ad, e, by simpa using hc⟩
/-- append(s, x...) at lists of numbers, s a row of the call's own. -/
theorem app_rows {W : World} {ops : Array Oper} {rest : List Oper} {o : Oper} {a : Act} {Q : Exit → Act → World → Prop} (hi : Nat) (hgd : o.guard = none) (s x : Operand)
    (ho : o.op = .call { callee := .builtin .append, args := #[s, x], argTypes := #[22, 22] }) (v : Value) (xs ys : List Int) (A : Option Addr) (n c : Nat) (hs : a.eval s = v) (hx : a.eval x = .slice A n c)
    (HO : (Kd.int .i64).R 3 W hi (fun _ => True) v xs) (HR : (Kd.int .i64).C W A n ys) (hb : hi ≤ W.heap.size) (hl : (xs.length + n) * 8 ≤ 140737488355328)
    (h : ∀ v1 w1, (Kd.int .i64).R 3 w1 hi (fun _ => True) v1 (xs ++ ys) → Below hi W w1 → wpList Tryz.prog ops Q rest (a.put o.dst v1) w1) : wpList Tryz.prog ops Q (o :: rest) a W :=
  Kd.R_append_rows (Kd.int .i64) (w0 := W) hi hgd s x _ 3 (.int .i64 0) 8 ho Tryz.underlying22 info3 rfl (by decide) (by omega) v xs ys A n c (fun _ => True) (fun _ => False) hs hx HO HR (fun _ _ h => h) (fun _ hk => hk.elim) (fun _ _ => trivial) (Below.refl _ _) hb hl
    fun v1 w1 h1 h2 _ _ => h v1 w1 h1 h2
end Go.Proofs.YtadaoplmicghcaaGreatDoor
namespace Go.Proofs.YtadaoplmicghcaaGreatDoor
open Go.RowKit Go.Proofs.YtadaoplmicghcaaGreatDoorW.PrintWords Go.Proofs.YtadaoplmicghcaaGreatDoorW.PrintLast Go.Proofs.YtadaoplmicghcaaGreatDoorW.PrintMore
set_option linter.unusedVariables false
set_option linter.unusedSimpArgs false

def idx (xs : List Int) (n : Int) : Int := if n ∈ xs then (xs.idxOf n : Int) else -1
theorem idx_hit {xs : List Int} {k : Nat} (h : k < xs.length) (hno : rd xs k ∉ xs.take k) : idx xs (rd xs k) = k := by
  unfold idx
  rw [if_pos (rd_mem _ _ h)]
  have e : xs = xs.take k ++ rd xs k :: xs.drop (k + 1) := by
    conv => lhs; rw [← List.take_append_drop k xs, List.drop_eq_getElem_cons h, ← rd_get xs k h]
  have h2 : xs.idxOf (rd xs k) = k := by
    generalize hr : rd xs k = r at *
    rw [e, List.idxOf_append, if_neg hno]
    simp; omega
  omega
theorem idx_miss {xs : List Int} {n : Int} (h : n ∉ xs) : idx xs n = -1 := by unfold idx; rw [if_neg h]
theorem idx_nonneg (xs : List Int) (n : Int) : decide (idx xs n ≥ 0) = decide (n ∈ xs) := by
  unfold idx
  by_cases h : n ∈ xs
  · simp [h]
  · simp [h]
theorem idx_bound (xs : List Int) (n : Int) : -1 ≤ idx xs n ∧ idx xs n ≤ xs.length := by
  unfold idx
  by_cases h : n ∈ xs
  · rw [if_pos h]; have := List.idxOf_lt_length_of_mem h; omega
  · rw [if_neg h]; omega

set_option maxRecDepth 100000 in
theorem index_calls (w : World) (A : Option Addr) (c : Nat) (xs : List Int) (n : Int) (hr : (Kd.int .i64).C w A xs.length xs) :
    Calls Tryz.prog 62 #[.slice A xs.length c, .int .i64 n] w fun e w' => e = .returned (.int .i64 (idx xs n)) ∧ w = w' := by
  have HR := Lib.hid hr
  have hm : (xs.length : Int) ≤ 9223372036854775807 := by have := hr.2.1; omega
  clear hr
  go_enter Tryz.func62, Tryz.ntmps62
  go_wp2
  go_loop [8] (fun v => ∃ k : Nat, k ≤ xs.length ∧ v = .int .i64 k ∧ Hid (n ∉ xs.take k)) (fun v => xs.length - (intOf v).toNat)
  case atStart => exact ⟨0, Nat.zero_le _, rfl, by unfold Hid; simp⟩
  case round =>
    obtain ⟨k, hk, rfl, hno⟩ := hrel
    by_cases hlt : k < xs.length
    · obtain ⟨ad, rfl, hcell⟩ := C_cell HR.out hlt
      have HL := Lib.hid hlt
      have k0 : (0 : Int) ≤ k := by omega
      have k1 : (k : Int) < xs.length := by omega
      by_cases he : n = rd xs k
      · have hb : (n == rd xs k) = true := beq_iff_eq.2 he
        have HE := Lib.hid he
        clear he hlt
        go_wp2
        go_ret
        refine ⟨?_, rfl⟩
        have h1 := hno.out
        rw [HE.out] at h1 ⊢
        rw [idx_hit HL.out h1]
        rfl
      · have hb : (n == rd xs k) = false := beq_eq_false_iff_ne.2 he
        have HE := Lib.hid he
        clear he hlt
        go_wp2
        go_round
        case rel =>
          refine ⟨k + 1, by omega, by go_num, ?_⟩
          unfold Hid
          rw [take_rd _ _ HL.out, List.mem_append]
          rintro (h | h)
          · exact hno.out h
          · simp at h; exact HE.out h
        case measure => simp [intOf]; omega
    · have k1 : ¬ (k : Int) < xs.length := by omega
      have HK := Lib.hid (show k = xs.length by omega)
      clear hlt
      go_wp2
      go_ret
      have h1 := hno.out
      rw [HK.out, List.take_length] at h1
      rw [idx_miss h1]
      exact ⟨rfl, rfl⟩

theorem contains_calls (w : World) (A : Option Addr) (c : Nat) (xs : List Int) (n : Int) (hr : (Kd.int .i64).C w A xs.length xs) :
    Calls Tryz.prog 41 #[.slice A xs.length c, .int .i64 n] w fun e w' => e = .returned (.bool (decide (n ∈ xs))) ∧ w = w' := by
  have HR := Lib.hid hr
  clear hr
  go_enter Tryz.func41, Tryz.ntmps41
  go_wp2_with (go_at_call 62; refine (index_calls _ _ _ xs _ HR.out).mono ?_; rintro e w' ⟨rfl, rfl⟩)
  go_ret
  refine ⟨?_, rfl⟩
  rw [← idx_nonneg]
  rfl
end Go.Proofs.YtadaoplmicghcaaGreatDoor
namespace Go.Proofs.YtadaoplmicghcaaGreatDoor
open Go.RowKit Go.Proofs.YtadaoplmicghcaaGreatDoorW.PrintWords Go.Proofs.YtadaoplmicghcaaGreatDoorW.PrintLast Go.Proofs.YtadaoplmicghcaaGreatDoorW.PrintMore
set_option linter.unusedVariables false
set_option linter.unusedSimpArgs false
set_option maxRecDepth 100000 in
theorem clone_calls (w : World) (A : Option Addr) (c : Nat) (xs : List Int) (hr : (Kd.int .i64).C w A xs.length xs) (hl : xs.length * 8 ≤ 140737488351232) :
    Calls Tryz.prog 38 #[.slice A xs.length c] w fun e w' => ∃ v, e = .returned v ∧ (Kd.int .i64).R 3 w' w.heap.size (fun _ => True) v xs ∧ Below w.heap.size w w' := by
  have HR := Lib.hid hr
  have HL := Lib.hid hl
  clear hl
  cases A with
  | none =>
    have h0 : xs = [] := by
      rcases Nat.eq_zero_or_pos xs.length with h | h
      · exact List.eq_nil_of_length_eq_zero h
      · obtain ⟨ad, h, _⟩ := hr.2.2 h; cases h
    subst h0
    have heq := fun W => Lib.run_eql_slice_nil (P := Tryz.prog) W 22 3 none 0 c 0 0 Tryz.underlying22
    clear hr
    go_enter Tryz.func38, Tryz.ntmps38
    go_wp2
    go_ret
    exact ⟨_, rfl, Kd.R_nil _ _ _ _ _, Below.refl _ _⟩
  | some ad =>
    have heq := fun W => Lib.run_eql_slice_nil (P := Tryz.prog) W 22 3 (some ad) xs.length c 0 0 Tryz.underlying22
    clear hr
    go_enter Tryz.func38, Tryz.ntmps38
    go_wp2_with (first
      | (at_builtin; refine Kd.R_append_rows (Kd.int .i64) (w0 := w) w.heap.size rfl _ _ _ 3 (.int .i64 0) 8 rfl Tryz.underlying22 info3 rfl (by decide) (by omega) (.slice (some ⟨w.heap.size, 0, none⟩) 0 0) [] xs (some ad) xs.length c (fun _ => True) (fun _ => False) rfl rfl (empty_row w _ _ (Nat.le_refl _) trivial _) (Kd.C_alloc HR.out _) (fun _ _ h => h) (fun _ hk => hk.elim) (fun _ _ => trivial) (below_alloc (Below.refl _ _) _) (by simp) (by have := HL.out; simp; omega) ?_; intro v1 w1 ho hb hg hat; have HO := Aside0.mk ho; have HB := Aside0.mk hb; clear ho hb hg hat))
    go_ret
    exact ⟨_, rfl, by simpa using HO.out, HB.out⟩
end Go.Proofs.YtadaoplmicghcaaGreatDoor
namespace Go.Proofs.YtadaoplmicghcaaGreatDoor
open Go.RowKit Go.Proofs.YtadaoplmicghcaaGreatDoorW.PrintWords Go.Proofs.YtadaoplmicghcaaGreatDoorW.PrintLast Go.Proofs.YtadaoplmicghcaaGreatDoorW.PrintMore
set_option linter.unusedVariables false
set_option linter.unusedSimpArgs false
set_option maxRecDepth 100000 in
theorem has_calls (w : World) (A : Option Addr) (c : Nat) (xs : List Int) (n : Int) (hr : (Kd.int .i64).C w A xs.length xs) :
    Calls Tryz.prog 33 #[.slice A xs.length c, .int .i64 n] w fun e w' => e = .returned (.bool (decide (n ∈ xs))) ∧ w = w' := by
  have HR := Lib.hid hr
  have hm : (xs.length : Int) ≤ 9223372036854775807 := by have := hr.2.1; omega
  clear hr
  go_enter Tryz.func33, Tryz.ntmps33
  go_wp2
  go_loop [9] (fun v => ∃ k : Nat, k ≤ xs.length ∧ v = .int .i64 k ∧ Hid (n ∉ xs.take k)) (fun v => xs.length - (intOf v).toNat)
  case atStart => exact ⟨0, Nat.zero_le _, rfl, by unfold Hid; simp⟩
  case round =>
    obtain ⟨k, hk, rfl, hno⟩ := hrel
    by_cases hlt : k < xs.length
    · obtain ⟨ad, rfl, hcell⟩ := C_cell HR.out hlt
      have HL := Lib.hid hlt
      have k0 : (0 : Int) ≤ k := by omega
      have k1 : (k : Int) < xs.length := by omega
      by_cases he : n = rd xs k
      · have hb : (rd xs k == n) = true := beq_iff_eq.2 he.symm
        have HE := Lib.hid (show decide (n ∈ xs) = true by rw [he]; simpa using rd_mem xs k hlt)
        clear he hlt
        go_wp2
        go_ret
        rw [HE.out]
        exact ⟨rfl, rfl⟩
      · have hb : (rd xs k == n) = false := beq_eq_false_iff_ne.2 (fun e => he e.symm)
        have HE := Lib.hid he
        clear he hlt
        go_wp2
        go_round
        case rel =>
          refine ⟨k + 1, by omega, by go_num, ?_⟩
          unfold Hid
          rw [take_rd _ _ HL.out, List.mem_append]
          rintro (h | h)
          · exact hno.out h
          · simp at h; exact HE.out h
        case measure => simp [intOf]; omega
    · have k1 : ¬ (k : Int) < xs.length := by omega
      have HK := Lib.hid (show k = xs.length by omega)
      clear hlt
      go_wp2
      go_ret
      have h1 := hno.out
      rw [HK.out, List.take_length] at h1
      rw [decide_eq_false h1]
      exact ⟨rfl, rfl⟩
end Go.Proofs.YtadaoplmicghcaaGreatDoor
namespace Go.Proofs.YtadaoplmicghcaaGreatDoor
open Go.RowKit Go.Maps
set_option linter.unusedVariables false
set_option linter.unusedSimpArgs false

theorem keyedInt : Keyed Tryz.prog 3 := int_keyed Tryz.underlying3
theorem zeroInt (w : World) : (zeroValue 3).run Tryz.prog w = .ok (.int .i64 0) w := by kernel_rfl

/-- Block b is a map in which just the numbers of l stand, each with 1. -/
def Keys (w : World) (b : Nat) (l : List Int) : Prop :=
  ∃ D : DataW Unit, w.ownsMap Tryz.prog 3 (plainElem Tryz.prog 3) b l.length D ∧ Maps.size D = l.length ∧ (∀ x, Maps.has D (.int .i64 x) = decide (x ∈ l)) ∧ ∀ x, D.atKey (.int .i64 x) (.lit (.int .i64 0)) = .lit (.int .i64 (if x ∈ l then 1 else 0))

section
variable {w w1 : World} {b : Nat} {l : List Int}
theorem Keys.move (h : Keys w b l) (hm : w1.heap[b]? = w.heap[b]?) : Keys w1 b l := by
  obtain ⟨D, ⟨es, clock, hb, r⟩, hs⟩ := h
  exact ⟨D, ⟨es, clock, hm.trans hb, r⟩, hs⟩
theorem Keys.lt (h : Keys w b l) : b < w.heap.size := by
  obtain ⟨D, h, _⟩ := h
  exact h.lt
theorem Keys.obj (h : Keys w b l) : ∃ es clock, w.heap[b]? = some (.map es clock) := by
  obtain ⟨D, ⟨es, clock, hb, r⟩, hs⟩ := h
  exact ⟨es, clock, hb⟩
theorem Keys.drewN (h : Keys w b l) (n : Nat) : Keys (w.drewN n) b l := h.move rfl
theorem Keys.alloc (h : Keys w b l) (o : Obj) : Keys (w.alloc o) b l := h.move (Below.heap_alloc w o b h.lt)
theorem Keys.made (w : World) : Keys (w.alloc (.map #[] 0)) w.heap.size [] :=
  ⟨.map [], World.ownsMap_made _ _ _ _, rfl, fun x => rfl, fun x => rfl⟩
set_option maxRecDepth 100000 in
theorem Keys.look (h : Keys w b l) {x : Int} (hx : (Lit.int .i64 x).wf = true) : (Instr.lookup 93 (.map (some b)) (.int .i64 x) false).run Tryz.prog w = .ok (.int .i64 (if x ∈ l then 1 else 0)) w := by
  obtain ⟨D, h, _, _, ha⟩ := h
  obtain ⟨c, hr, hc, _⟩ := h.lookup_int keyedInt Tryz.underlying93 Tryz.underlying3 (zeroInt w) (keyOf_int_mk Tryz.underlying3 hx)
  rw [ha x] at hc
  have : c = (if x ∈ l then 1 else 0) := by
    injection hc with hc
    injection hc with _ hc
    exact hc.symm
  rw [hr, this]
set_option maxRecDepth 100000 in
theorem Keys.len (h : Keys w b l) (ty : TypeId) : (Builtin.len_ #[93] ty #[.map (some b)]).run Tryz.prog w = .ok (.int .i64 (l.length : Int)) w := by
  obtain ⟨D, h, hs, _⟩ := h
  rw [h.len Tryz.underlying93 ty, hs]
set_option maxRecDepth 100000 in
theorem Keys.put (h : Keys w b l) {x : Int} (hx : (Lit.int .i64 x).wf = true) (hnew : x ∉ l) (hl : l.length < maxLen) :
    ∃ w', (Instr.mapUpdate 93 (.map (some b)) (.int .i64 x) (.int .i64 1)).run Tryz.prog w = .ok () w' ∧ Keys w' b (l ++ [x]) ∧ w.grownBy w' (some b) := by
  obtain ⟨D, h, hs, hh, ha⟩ := h
  have hk : WideAt.IsKeyLit (.int .i64 x) := trivial
  obtain ⟨w', hr, ho, hg⟩ := h.update keyedInt Tryz.underlying93 hl (keyOf_int_mk Tryz.underlying3 hx) (plainElem_int (H := Unit) Tryz.underlying3 (a := 1) (by decide))
  have hno : Maps.has D (.int .i64 x) = false := by rw [hh]; simpa using hnew
  refine ⟨w', hr, ⟨_, by simpa using ho, ?_, fun y => ?_, fun y => ?_⟩, hg⟩
  · rw [size_put (h.tidy keyedInt), hno]
    simp [hs]
  · by_cases e : y = x
    · subst e
      rw [has_put_same h.isMap hk]
      simp
    · rw [has_put_other (by simpa using e), hh y]
      simp [e]
  · by_cases e : y = x
    · subst e
      rw [atKey_put_same h.isMap hk]
      simp
    · rw [atKey_put_other (by simpa using e), ha y]
      simp [e]
end

set_option maxRecDepth 100000 in
/-- At the operation: a new number goes into the set. -/
theorem wpList_putKey (w : World) {ops : Array Oper} {rest : List Oper} {o : Oper} {a : Act} {Q : Exit → Act → World → Prop}
    (hg : o.guard = none) (m x v : Operand) (hop : o.op = Op.mapUpdate 93 m x v) (b : Nat) (l : List Int) (n : Int)
    (hm : a.eval m = .map (some b)) (hx : a.eval x = .int .i64 n) (hv : a.eval v = .int .i64 1) (h : Keys w b l) (hwf : (Lit.int .i64 n).wf = true) (hnew : n ∉ l) (hl : l.length < maxLen)
    (hK : ∀ w', Keys w' b (l ++ [n]) → w.grownBy w' (some b) → wpList Tryz.prog ops Q rest (a.put o.dst undef) w') : wpList Tryz.prog ops Q (o :: rest) a w := by
  refine wpList_plain hg fun K' hK' => ?_
  obtain ⟨w', hrun, r1, r2⟩ := h.put hwf hnew hl
  unfold Oper.wp
  simp [execOp, hop, hm, hx, hv, hrun, Result.andThen]
  exact hK' _ _ (hK w' r1 r2)
end Go.Proofs.YtadaoplmicghcaaGreatDoor
namespace Go.Proofs.YtadaoplmicghcaaGreatDoor
open Go.RowKit Go.Maps Go.Proofs.YtadaoplmicghcaaGreatDoorW.PrintWords Go.Proofs.YtadaoplmicghcaaGreatDoorW.PrintLast Go.Proofs.YtadaoplmicghcaaGreatDoorW.PrintMore
set_option linter.unusedVariables false
set_option linter.unusedSimpArgs false

def In (lo hi k : Nat) : Prop := lo ≤ k ∧ k < hi

structure Nd where
  near : List Int
  heard : List Int
  told : List Int
  bg : Bool

structure Fine (nd : Nd) : Prop where
  nn : nd.near.Nodup
  nb : ∀ x, x ∈ nd.near → 0 ≤ x ∧ x < 8
  hn : nd.heard.Nodup
  hs : ∀ x, x ∈ nd.heard → x ∈ nd.near
  tn : nd.told.Nodup
  ts : ∀ x, x ∈ nd.told → x ∈ nd.near

theorem length_small {l : List Int} (h : l.Nodup) (hb : ∀ x, x ∈ l → 0 ≤ x ∧ x < 8) : l.length ≤ 8 :=
  LC.length_le_of_subset (m := [0, 1, 2, 3, 4, 5, 6, 7]) h fun x hx => by
    have := hb x hx
    simp only [List.mem_cons, List.not_mem_nil, or_false]
    omega
theorem Fine.near8 {nd : Nd} (h : Fine nd) : nd.near.length ≤ 8 := length_small h.nn h.nb
theorem Fine.heard8 {nd : Nd} (h : Fine nd) : nd.heard.length ≤ 8 := length_small h.hn fun x hx => h.nb x (h.hs x hx)
theorem Fine.told8 {nd : Nd} (h : Fine nd) : nd.told.length ≤ 8 := length_small h.tn fun x hx => h.nb x (h.ts x hx)

def IsWave (w : World) (lo hi : Nat) (nd : Nd) (p : Nat) : Prop :=
  ∃ (A : Option Addr) (c bh bt : Nat), w.heap[p]? = some (.cells #[.slice A nd.near.length c, .map (some bh), .map (some bt), .bool nd.bg] 95 (0, 0)) ∧
    (Kd.int .i64).R 3 w lo (In lo hi) (.slice A nd.near.length c) nd.near ∧ Keys w bh nd.heard ∧ Keys w bt nd.told ∧ bh ≠ bt ∧ In lo hi p ∧ In lo hi bh ∧ In lo hi bt

theorem IsWave.move {w w1 : World} {lo hi : Nat} {nd : Nd} {p : Nat} (h : IsWave w lo hi nd p) (hm : ∀ k, In lo hi k → w1.heap[k]? = w.heap[k]?) : IsWave w1 lo hi nd p := by
  obtain ⟨A, c, bh, bt, h1, h2, h3, h4, h5, h6, h7, h8⟩ := h
  exact ⟨A, c, bh, bt, (hm _ h6).trans h1, Kd.R_move h2 hm, h3.move (hm _ h7), h4.move (hm _ h8), h5, h6, h7, h8⟩
/-- A list that lies behind a range stays while the range alone is written. -/
theorem R_kept {α : Type} {d : Kd α} {e : Nat} {w w1 : World} {base lo hi : Nat} {ok : Nat → Prop} {v : Value} {xs : List α} (h : d.R e w base ok v xs) (hk : Kept w w1 (In lo hi)) (hhi : hi ≤ base) : d.R e w1 base ok v xs :=
  Kd.R_mono (Kd.R_move (Kd.R_bound h) (fun k hk' => hk.2 k hk'.2.2.1 (fun hin => by have := hin.2; have := hk'.2.1; omega))) (fun _ hk => hk.1)
theorem IsWave.drewN {w : World} {lo hi : Nat} {nd : Nd} {p : Nat} (h : IsWave w lo hi nd p) (m : Nat) : IsWave (w.drewN m) lo hi nd p := h.move fun _ _ => rfl
theorem IsWave.below {w w1 : World} {lo hi : Nat} {nd : Nd} {p : Nat} (h : IsWave w lo hi nd p) (hb : Below w.heap.size w w1) : IsWave w1 lo hi nd p := by
  obtain ⟨A, c, bh, bt, h1, h2, h3, h4, h5, h6, h7, h8⟩ := h
  exact ⟨A, c, bh, bt, (hb.block _ (blk_lt h1)).trans h1, Kd.R_below h2 hb, h3.move (hb.block _ h3.lt), h4.move (hb.block _ h4.lt), h5, h6, h7, h8⟩
theorem IsWave.alloc {w : World} {lo hi : Nat} {nd : Nd} {p : Nat} (h : IsWave w lo hi nd p) (o : Obj) : IsWave (w.alloc o) lo hi nd p := h.below (below_alloc (Below.refl _ _) o)
end Go.Proofs.YtadaoplmicghcaaGreatDoor
namespace Go.Proofs.YtadaoplmicghcaaGreatDoor
open Go.RowKit Go.Maps Go.Proofs.YtadaoplmicghcaaGreatDoorW.PrintWords Go.Proofs.YtadaoplmicghcaaGreatDoorW.PrintLast Go.Proofs.YtadaoplmicghcaaGreatDoorW.PrintMore WvSim
set_option linter.unusedVariables false
set_option linter.unusedSimpArgs false

def tellP (nd : Nd) (n : Int) : Bool := nd.bg && (!decide (n ∈ nd.told) && ready nd.near nd.heard n)
def out (nd : Nd) (k : Nat) : List Int := (nd.near.take k).filter (tellP nd)
theorem out_all (nd : Nd) : out nd nd.near.length = tells nd.near nd.heard nd.told nd.bg := by
  unfold out tells
  rw [List.take_length]
  rfl
theorem out_yes {nd : Nd} {k : Nat} (h : k < nd.near.length) (hp : tellP nd (rd nd.near k) = true) : out nd (k + 1) = out nd k ++ [rd nd.near k] := by
  unfold out
  rw [take_rd _ _ h, List.filter_append, List.filter_cons, if_pos hp, List.filter_nil]
theorem out_no {nd : Nd} {k : Nat} (h : k < nd.near.length) (hp : tellP nd (rd nd.near k) = false) : out nd (k + 1) = out nd k := by
  unfold out
  rw [take_rd _ _ h, List.filter_append, List.filter_cons, if_neg (by simp [hp]), List.filter_nil, List.append_nil]
theorem rd_not_out {nd : Nd} (hF : Fine nd) {k : Nat} (h : k < nd.near.length) : rd nd.near k ∉ out nd k := by
  intro hc
  have hm := (List.mem_filter.1 hc).1
  have hn := hF.nn
  rw [← List.take_append_drop k nd.near, List.nodup_append] at hn
  refine hn.2.2 _ hm (rd nd.near k) ?_ rfl
  have e : rd nd.near k = nd.near[k] := by simp [rd, List.getD_eq_getElem?_getD, List.getElem?_eq_getElem h]
  rw [e]
  exact List.mem_drop_iff_getElem.2 ⟨0, by omega, by simp⟩
theorem out_len (nd : Nd) (k : Nat) : (out nd k).length ≤ nd.near.length := by
  unfold out
  refine Nat.le_trans (List.length_filter_le _ _) ?_
  simp; omega

def TellPost (w : World) (lo hi p : Nat) (nd : Nd) (e : Ending) (w' : World) : Prop :=
  ∃ v, e = .returned v ∧ (Kd.int .i64).R 3 w' w.heap.size (fun _ => True) v (tells nd.near nd.heard nd.told nd.bg) ∧
    IsWave w' lo hi { nd with told := nd.told ++ tells nd.near nd.heard nd.told nd.bg } p ∧ Below lo w w' ∧ Kept w w' (In lo hi)

/-- What holds when tell is called. -/
structure Tell0 (w : World) (lo hi p bh bt : Nat) (A : Option Addr) (c : Nat) (nd : Nd) : Prop where
  h1 : w.heap[p]? = some (.cells #[.slice A nd.near.length c, .map (some bh), .map (some bt), .bool nd.bg] 95 (0, 0))
  h2 : (Kd.int .i64).R 3 w lo (In lo hi) (.slice A nd.near.length c) nd.near
  h3 : Keys w bh nd.heard
  h4 : Keys w bt nd.told
  h5 : bh ≠ bt
  h6 : In lo hi p
  h7 : In lo hi bh
  h8 : In lo hi bt
/-- In the midst of it. -/
structure TellW (w wr : World) (lo bt : Nat) (nd : Nd) (k : Nat) : Prop where
  h4 : Keys wr bt (nd.told ++ out nd k)
  same : ∀ i, i < w.heap.size → i ≠ bt → wr.heap[i]? = w.heap[i]?
  below : Below lo w wr
theorem TellW.drewN {w wr : World} {lo bt : Nat} {nd : Nd} {k : Nat} (h : TellW w wr lo bt nd k) (m : Nat) : TellW w (wr.drewN m) lo bt nd k :=
  ⟨h.h4.drewN m, h.same, pw_below_drewN h.below m⟩
section
variable {w wr : World} {lo hi p bh bt : Nat} {A : Option Addr} {c : Nat} {nd : Nd} {k : Nat}
theorem Tell0.ne (z : Tell0 w lo hi p bh bt A c nd) : p ≠ bt := by
  rintro rfl
  obtain ⟨es, clock, ho⟩ := z.h4.obj
  rw [z.h1] at ho
  cases ho
theorem TellW.blk (h : TellW w wr lo bt nd k) (z : Tell0 w lo hi p bh bt A c nd) : wr.heap[p]? = some (.cells #[.slice A nd.near.length c, .map (some bh), .map (some bt), .bool nd.bg] 95 (0, 0)) :=
  (h.same p (blk_lt z.h1) z.ne).trans z.h1
theorem TellW.near (h : TellW w wr lo bt nd k) (z : Tell0 w lo hi p bh bt A c nd) : (Kd.int .i64).R 3 wr lo (In lo hi) (.slice A nd.near.length c) nd.near := by
  refine Kd.R_mono (Kd.R_move (Kd.R_bound z.h2) (fun i hi => ?_)) (fun _ hk => hk.1)
  obtain ⟨_, _, hlt, q, _, cells, hc⟩ := hi
  refine h.same i hlt (fun e => ?_)
  subst e
  obtain ⟨es, clock, ho⟩ := z.h4.obj
  rw [hc] at ho
  cases ho
theorem TellW.heard (h : TellW w wr lo bt nd k) (z : Tell0 w lo hi p bh bt A c nd) : Keys wr bh nd.heard := z.h3.move (h.same bh z.h3.lt z.h5)
theorem TellW.put {w2 w3 : World} {n : Int} (h : TellW w wr lo bt nd k) (z : Tell0 w lo hi p bh bt A c nd)
    (hg : wr.grownBy w2 (some bt)) (hk : Keys w2 bt (nd.told ++ out nd k ++ [n])) (he : out nd (k + 1) = out nd k ++ [n]) (hb : Below w.heap.size w2 w3) : TellW w w3 lo bt nd (k + 1) := by
  have hbt := z.h4.lt
  have hlo : lo ≤ w.heap.size := by have := z.h8.1; omega
  refine ⟨?_, fun i hi hne => ?_, ?_⟩
  · rw [he, ← List.append_assoc]
    exact hk.move (hb.block bt hbt)
  · exact ((hb.block i hi).trans (hg.block i (Nat.lt_of_lt_of_le hi h.below.size) (fun e => by injection e with e; exact hne e))).trans (h.same i hi hne)
  · exact (h.below.grown hg (Nat.le_trans hlo h.below.size) (fun i e => by injection e with e; subst e; exact z.h8.1)).trans (hb.mono hlo)
theorem TellW.ends (h : TellW w wr lo bt nd nd.near.length) (z : Tell0 w lo hi p bh bt A c nd) :
    IsWave wr lo hi { nd with told := nd.told ++ tells nd.near nd.heard nd.told nd.bg } p ∧ Below lo w wr ∧ Kept w wr (In lo hi) := by
  refine ⟨⟨A, c, bh, bt, h.blk z, h.near z, h.heard z, ?_, z.h5, z.h6, z.h7, z.h8⟩, h.below, h.below.size, fun i hi hn => h.same i hi (fun e => hn (e ▸ z.h8))⟩
  rw [← out_all]
  exact h.h4
end
theorem grown_undrawn {w w1 : World} {m : Nat} {row : Option Nat} (h : (w.drewN m).grownBy w1 row) : w.grownBy w1 row := ⟨h.os, h.tape, h.output, h.size, h.block⟩
theorem R_past {α : Type} {d : Kd α} {e : Nat} {w w1 : World} {base b : Nat} {v : Value} {xs : List α} (h : d.R e w base (fun _ => True) v xs) (hg : w.grownBy w1 (some b)) (hb : b < base) : d.R e w1 base (fun _ => True) v xs :=
  Kd.R_mono (Kd.R_grown (Kd.R_bound h) hg (fun k hk e => by injection e with e; have := hk.2.1; omega)) (fun _ _ => trivial)

set_option maxHeartbeats 4000000 in
set_option maxRecDepth 100000 in
theorem tell_calls (w : World) (lo hi p : Nat) (nd : Nd) (hF : Fine nd) (hW : IsWave w lo hi nd p) :
    Calls Tryz.prog 40 #[.pointer (some ⟨p, 0, none⟩)] w (TellPost w lo hi p nd) := by
  obtain ⟨A, c, bh, bt, h1, h2, h3, h4, h5, h6, h7, h8⟩ := hW
  have Z : Hid (Tell0 w lo hi p bh bt A c nd) := ⟨h1, h2, h3, h4, h5, h6, h7, h8⟩
  have H0 : Hid (TellW w w lo bt nd 0) := ⟨by simpa [out] using h4, fun _ _ _ => rfl, Below.refl _ _⟩
  have c0 := blk_cell h1 0
  simp at c0
  have H1 := Lib.hid hF
  have n8 : (nd.near.length : Int) ≤ 8 := by have := hF.near8; omega
  have m8 : (nd.heard.length : Int) ≤ 8 := by have := hF.heard8; omega
  clear h1 h2 h3 h4 h5 h6 h7 h8 hF
  go_enter Tryz.func40, Tryz.ntmps40
  go_wp2
  go_loopw [3, 12] (fun v3 v12 wr => ∃ k : Nat, k ≤ nd.near.length ∧ v12 = .int .i64 k ∧ Aside0 (TellW w wr lo bt nd k) ∧ Aside0 ((Kd.int .i64).R 3 wr w.heap.size (fun _ => True) v3 (out nd k))) (fun _ v _ => nd.near.length - (intOf v).toNat)
  case atStart => exact ⟨0, Nat.zero_le _, rfl, ⟨H0.out⟩, ⟨Kd.R_nil _ _ _ _ _⟩⟩
  case round =>
    clear H0 c0
    obtain ⟨k, hk, rfl, HW, HR⟩ := hrel
    by_cases hlt : k < nd.near.length
    · obtain ⟨n, hn⟩ : ∃ n, n = rd nd.near k := ⟨_, rfl⟩
      have c0 := blk_cell (HW.out.blk Z.out) 0
      have c1 := blk_cell (HW.out.blk Z.out) 1
      have c2 := blk_cell (HW.out.blk Z.out) 2
      have c3 := blk_cell (HW.out.blk Z.out) 3
      simp at c0 c1 c2 c3
      obtain ⟨_, _, hC⟩ := Kd.R_reads' (HW.out.near Z.out)
      obtain ⟨ad, rfl, hcell⟩ := Kd.at_int hC k (by omega) (by omega)
      rw [← hn] at hcell
      have hnm : n ∈ nd.near := by rw [hn]; exact rd_mem _ _ hlt
      have hnb := H1.out.nb n hnm
      have hwf : (Lit.int .i64 n).wf = true := WalkArith.wf_i64 (by omega)
      simp only [Int.toNat_natCast] at hcell
      obtain ⟨q, hq⟩ : ∃ q : Int, q = if n ∈ nd.heard then 1 else 0 := ⟨_, rfl⟩
      have q0 : 0 ≤ q := by rw [hq]; split <;> omega
      have q1 : q ≤ 1 := by rw [hq]; split <;> omega
      have l1 := fun m => ((HW.out.heard Z.out).drewN m).look hwf
      rw [← hq] at l1
      have l2 := fun m ty => ((HW.out.heard Z.out).drewN m).len ty
      have l3 := fun m => (HW.out.h4.drewN m).look hwf
      have HQ := Lib.hid hq
      have HN := Lib.hid hn
      have k0 : (0 : Int) ≤ k := by omega
      have k1 : (k : Int) < nd.near.length := by omega
      clear hq hn hC hwf hnm
      have hno : tellP nd n = false → TellW w wr lo bt nd (k + 1) ∧ out nd (k + 1) = out nd k := by
        intro hf
        have e : out nd (k + 1) = out nd k := out_no hlt (by rw [← HN.out]; exact hf)
        exact ⟨⟨by rw [e]; exact HW.out.h4, HW.out.same, HW.out.below⟩, e⟩
      have hready : ready nd.near nd.heard n = ((nd.heard.length : Int) - q == (nd.near.length : Int) - 1) := by
        unfold ready
        rw [HQ.out, Bool.eq_iff_iff, decide_eq_true_iff, beq_iff_eq]
      by_cases hb : nd.bg = true
      · rw [hb] at c3
        by_cases ht : n ∈ nd.told
        · have hP : tellP nd n = false := by simp [tellP, ht]
          obtain ⟨HW1, e1⟩ := hno hP
          have HW2 := Lib.hid HW1
          have E1 := Lib.hid e1
          have l4 := fun m => l3 m
          simp only [List.mem_append, ht, true_or, if_true] at l4
          clear hno hb ht hP HW1 e1 l3 hready
          go_wp2
          go_quiet (fail)
          go_wp2
          go_roundw
          case rel => exact ⟨k + 1, by omega, by go_num, ⟨HW2.out.drewN _⟩, ⟨by rw [E1.out]; exact Kd.R_drewN HR.out _⟩⟩
          case measure => simp [intOf]; omega
        · have hno2 : n ∉ nd.told ++ out nd k := by
            rw [List.mem_append]
            rintro (h | h)
            · exact ht h
            · rw [HN.out] at h; exact rd_not_out H1.out hlt h
          have l4 := fun m => l3 m
          simp only [hno2, if_false] at l4
          by_cases hr : ready nd.near nd.heard n = true
          · have hP : tellP nd n = true := by simp [tellP, ht, hb, hr]
            have e1 : out nd (k + 1) = out nd k ++ [n] := by rw [HN.out] at hP ⊢; exact out_yes hlt hP
            rw [hready] at hr
            have E1 := Lib.hid e1
            have HNO := Lib.hid hno2
            have HWF := Lib.hid (WalkArith.wf_i64 (n := n) (by omega))
            clear hno hb ht hP e1 l3 hno2 hready
            have HL := Lib.hid (show (nd.told ++ out nd k).length ≤ 16 by have := H1.out.told8; have := H1.out.near8; have := out_len nd k; rw [List.length_append]; omega)
            have HL2 := Lib.hid (show (out nd k).length ≤ 8 by have := H1.out.near8; have := out_len nd k; omega)
            go_wp2
            go_quiet (fail)
            go_wp2_with (first
              | (at_mapUpdate; refine wpList_putKey _ rfl _ _ _ rfl bt (nd.told ++ out nd k) n rfl rfl rfl (HW.out.h4.drewN _) HWF.out HNO.out (by have := HL.out; unfold maxLen; omega) ?_; intro w2 hk2 hg2; have HK2 := Aside0.mk hk2; have HG2 := Aside0.mk hg2; have HS2 := Aside0.mk (Nat.le_trans HW.out.below.size hg2.size); have HR2 := Aside0.mk (R_past (Kd.R_drewN HR.out _) hg2 Z.out.h4.lt); clear hk2 hg2)
              | (at_builtin; refine Kd.R_append (Kd.int .i64) (w0 := w2) w.heap.size rfl _ _ _ 3 (.int .i64 0) 8 rfl Tryz.underlying22 info3 rfl (by decide) (by omega) u3 (out nd k) n [.int .i64 n] (fun _ => True) (fun _ => False) rfl rfl rfl (fun _ hk => hk.elim) (fun _ _ => trivial) HR2.out (Below.refl _ _) HS2.out (by have := HL2.out; omega) ?_; intro v3 w3 ho hb hg hat; have HO3 := Aside0.mk ho; have HB3 := Aside0.mk hb; clear ho hb hg hat))
            go_roundw
            case rel => exact ⟨k + 1, by omega, by go_num, ⟨HW.out.put Z.out (grown_undrawn HG2.out) HK2.out E1.out HB3.out⟩, ⟨by rw [E1.out]; exact HO3.out⟩⟩
            case measure => simp [intOf]; omega
          · have hP : tellP nd n = false := by simp [tellP, hr]
            obtain ⟨HW1, e1⟩ := hno hP
            have HW2 := Lib.hid HW1
            have E1 := Lib.hid e1
            rw [hready] at hr
            replace hr := Bool.eq_false_iff.mpr hr
            clear hno hb ht hP HW1 e1 l3 hno2 hready
            go_wp2
            go_quiet (fail)
            go_wp2
            go_roundw
            case rel => exact ⟨k + 1, by omega, by go_num, ⟨HW2.out.drewN _⟩, ⟨by rw [E1.out]; exact Kd.R_drewN HR.out _⟩⟩
            case measure => simp [intOf]; omega
      · replace hb := Bool.eq_false_iff.mpr hb
        rw [hb] at c3
        have hP : tellP nd n = false := by simp [tellP, hb]
        obtain ⟨HW1, e1⟩ := hno hP
        have HW2 := Lib.hid HW1
        have E1 := Lib.hid e1
        clear hno hb hP HW1 e1 l3 hready
        go_wp2
        go_quiet (fail)
        go_wp2
        go_roundw
        case rel => exact ⟨k + 1, by omega, by go_num, ⟨HW2.out.drewN _⟩, ⟨by rw [E1.out]; exact Kd.R_drewN HR.out _⟩⟩
        case measure => simp [intOf]; omega
    · have hk2 : k = nd.near.length := by omega
      have k1 : ¬ (k : Int) < nd.near.length := by omega
      have HK := Lib.hid hk2
      clear hk2 hlt
      go_wp2
      go_ret
      refine ⟨_, rfl, ?_, ?_⟩
      · have := HR.out; rw [HK.out, out_all] at this; exact this
      · have h := HW.out
        rw [HK.out] at h
        exact h.ends Z.out
end Go.Proofs.YtadaoplmicghcaaGreatDoor
namespace Go.Proofs.YtadaoplmicghcaaGreatDoor
open Go.RowKit Go.Maps Go.Proofs.YtadaoplmicghcaaGreatDoorW.PrintWords Go.Proofs.YtadaoplmicghcaaGreatDoorW.PrintLast Go.Proofs.YtadaoplmicghcaaGreatDoorW.PrintMore WvSim
set_option linter.unusedVariables false
set_option linter.unusedSimpArgs false

theorem isWave_iff {w : World} {lo hi : Nat} {nd : Nd} {p : Nat} : IsWave w lo hi nd p ↔ ∃ A c bh bt, Tell0 w lo hi p bh bt A c nd :=
  ⟨fun ⟨A, c, bh, bt, h1, h2, h3, h4, h5, h6, h7, h8⟩ => ⟨A, c, bh, bt, h1, h2, h3, h4, h5, h6, h7, h8⟩,
   fun ⟨A, c, bh, bt, z⟩ => ⟨A, c, bh, bt, z.h1, z.h2, z.h3, z.h4, z.h5, z.h6, z.h7, z.h8⟩⟩

/-- What Begin and Hear leave: whom to tell, and the wave behind it. -/
def SaysPost (w : World) (lo hi p : Nat) (nd : Nd) (e : Ending) (w' : World) : Prop :=
  ∃ v, e = .returned (.tuple #[v, .nilIface]) ∧ (Kd.int .i64).R 3 w' w.heap.size (fun _ => True) v (tells nd.near nd.heard nd.told nd.bg) ∧
    IsWave w' lo hi { nd with told := nd.told ++ tells nd.near nd.heard nd.told nd.bg } p ∧ Below lo w w' ∧ Kept w w' (In lo hi)

section
variable {w w2 : World} {lo hi p bh bt : Nat} {A : Option Addr} {c : Nat} {nd : Nd}
theorem Tell0.begun (z : Tell0 w lo hi p bh bt A c nd) : Tell0 (w.setCell ⟨p, 3, none⟩ (.bool true)) lo hi p bh bt A c { nd with bg := true } := by
  have hb : ∀ i, i ≠ p → (w.setCell ⟨p, 3, none⟩ (.bool true)).heap[i]? = w.heap[i]? := fun i hi => Below.heap_setCell w _ _ i hi
  have hne : bh ≠ p := by
    rintro rfl
    obtain ⟨es, clock, ho⟩ := z.h3.obj
    rw [z.h1] at ho
    cases ho
  refine ⟨?_, ?_, z.h3.move (hb _ hne), z.h4.move (hb _ z.ne.symm), z.h5, z.h6, z.h7, z.h8⟩
  · have := blk_set z.h1 3 (.bool true)
    simpa using this
  · refine Kd.R_mono (Kd.R_move (Kd.R_bound z.h2) (fun i hi => ?_)) (fun _ hk => hk.1)
    obtain ⟨_, _, hlt, q, hq, cells, hc⟩ := hi
    refine hb i (fun e => ?_)
    subst e
    rw [z.h1] at hc
    injection hc with hc
    injection hc with _ hc
    have : q = 3 := by simpa [Kd.int, Kd.scalar] using hq
    rw [this] at hc
    exact absurd hc (by decide)
theorem Tell0.below_set (z : Tell0 w lo hi p bh bt A c nd) (u : Value) : Below lo w (w.setCell ⟨p, 3, none⟩ u) := (Below.refl lo w).setCell z.h6.1 u
theorem Tell0.kept_set (z : Tell0 w lo hi p bh bt A c nd) (u : Value) : Kept w (w.setCell ⟨p, 3, none⟩ u) (In lo hi) :=
  ⟨by simp [World.setCell], fun i _ hn => Below.heap_setCell w _ _ i (fun e => hn (e ▸ z.h6))⟩
theorem Tell0.hear {n : Int} (z : Tell0 w lo hi p bh bt A c nd) (hg : w.grownBy w2 (some bh)) (hk : Keys w2 bh (nd.heard ++ [n])) : Tell0 w2 lo hi p bh bt A c { nd with heard := nd.heard ++ [n] } := by
  obtain ⟨es, clock, ho⟩ := z.h3.obj
  have hne : p ≠ bh := by
    rintro rfl
    rw [z.h1] at ho
    cases ho
  have hb : ∀ i, i < w.heap.size → i ≠ bh → w2.heap[i]? = w.heap[i]? := fun i hi hne => hg.block i hi (fun e => by injection e with e; exact hne e)
  refine ⟨(hb p (blk_lt z.h1) hne).trans z.h1, ?_, hk, z.h4.move (hb bt z.h4.lt z.h5.symm), z.h5, z.h6, z.h7, z.h8⟩
  refine Kd.R_mono (Kd.R_move (Kd.R_bound z.h2) (fun i hi => ?_)) (fun _ hk => hk.1)
  obtain ⟨_, _, hlt, q, hq, cells, hc⟩ := hi
  refine hb i hlt (fun e => ?_)
  subst e
  rw [ho] at hc
  cases hc
theorem Fine.begun (h : Fine nd) : Fine { nd with bg := true } := ⟨h.nn, h.nb, h.hn, h.hs, h.tn, h.ts⟩
theorem Fine.hear {n : Int} (h : Fine nd) (hm : n ∈ nd.near) (hn : n ∉ nd.heard) : Fine { nd with heard := nd.heard ++ [n] } := by
  refine ⟨h.nn, h.nb, ?_, ?_, h.tn, h.ts⟩
  · rw [List.nodup_append]
    exact ⟨h.hn, by simp, fun a ha b hb e => by simp at hb; subst hb; exact hn (e ▸ ha)⟩
  · intro x hx
    rcases List.mem_append.1 hx with hx | hx
    · exact h.hs x hx
    · simp at hx; subst hx; exact hm
theorem Fine.tell (h : Fine nd) : Fine { nd with told := nd.told ++ tells nd.near nd.heard nd.told nd.bg } := by
  refine ⟨h.nn, h.nb, h.hn, h.hs, ?_, ?_⟩
  · rw [List.nodup_append]
    exact ⟨h.tn, h.nn.filter _, fun a ha b hb e => by subst e; exact (mem_tells.1 hb).2.2.1 ha⟩
  · intro x hx
    rcases List.mem_append.1 hx with hx | hx
    · exact h.ts x hx
    · exact (mem_tells.1 hx).1
end

set_option maxRecDepth 100000 in
theorem begin_nil (w : World) : Calls Tryz.prog 12 #[.pointer none] w fun e w' => e = .returned (.tuple #[.slice none 0 0, .iface 28 (.int .i64 19)]) ∧ w = w' := by
  go_enter Tryz.func12, Tryz.ntmps12
  go_wp2
  go_ret2
  exact ⟨rfl, rfl⟩
set_option maxRecDepth 100000 in
theorem begin_again (w : World) (lo hi p : Nat) (nd : Nd) (hW : IsWave w lo hi nd p) (hb : nd.bg = true) :
    Calls Tryz.prog 12 #[.pointer (some ⟨p, 0, none⟩)] w fun e w' => e = .returned (.tuple #[.slice none 0 0, .iface 28 (.int .i64 21)]) ∧ w = w' := by
  obtain ⟨A, c, bh, bt, z⟩ := isWave_iff.1 hW
  have c3 := blk_cell z.h1 3
  simp [hb] at c3
  clear hW z hb
  go_enter Tryz.func12, Tryz.ntmps12
  go_wp2
  go_ret2
  exact ⟨rfl, rfl⟩
set_option maxRecDepth 100000 in
theorem begin_calls (w : World) (lo hi p : Nat) (nd : Nd) (hF : Fine nd) (hW : IsWave w lo hi nd p) (hb : nd.bg = false) :
    Calls Tryz.prog 12 #[.pointer (some ⟨p, 0, none⟩)] w (SaysPost w lo hi p { nd with bg := true }) := by
  obtain ⟨A, c, bh, bt, z⟩ := isWave_iff.1 hW
  have c3 := blk_cell z.h1 3
  have f3 := blk_frozen z.h1 3
  simp [hb] at c3
  have Z := Lib.hid z
  have HF := Lib.hid hF
  clear hW z hb hF
  go_enter Tryz.func12, Tryz.ntmps12
  go_wp2_with (go_at_call 40; refine (tell_calls _ lo hi p _ HF.out.begun (isWave_iff.2 ⟨A, c, bh, bt, Z.out.begun⟩)).mono ?_; rintro e w1 ⟨v, rfl, hv, hw, hb1, hk1⟩; have HV := Aside0.mk hv; have HW := Aside0.mk hw; have HB := Aside0.mk hb1; have HK := Aside0.mk hk1; clear hv hw hb1 hk1)
  go_ret2
  refine ⟨_, rfl, ?_, HW.out, (Z.out.below_set _).trans HB.out, (Z.out.kept_set _).then_ HK.out (fun k hk => .inl hk)⟩
  have := HV.out
  simpa [World.setCell] using this

set_option maxRecDepth 100000 in
theorem hear_nil (w : World) (n : Int) : Calls Tryz.prog 14 #[.pointer none, .int .i64 n] w fun e w' => e = .returned (.tuple #[.slice none 0 0, .iface 28 (.int .i64 19)]) ∧ w = w' := by
  go_enter Tryz.func14, Tryz.ntmps14
  go_wp2
  go_ret2
  exact ⟨rfl, rfl⟩
set_option maxRecDepth 100000 in
theorem hear_none (w : World) (lo hi p : Nat) (nd : Nd) (n : Int) (hW : IsWave w lo hi nd p) (hn : n ∉ nd.near) :
    Calls Tryz.prog 14 #[.pointer (some ⟨p, 0, none⟩), .int .i64 n] w fun e w' => e = .returned (.tuple #[.slice none 0 0, .iface 28 (.int .i64 12)]) ∧ w = w' := by
  obtain ⟨A, c, bh, bt, z⟩ := isWave_iff.1 hW
  have c0 := blk_cell z.h1 0
  simp at c0
  have hC := Aside0.mk (Kd.R_reads' z.h2).2.2
  have hd : decide (n ∈ nd.near) = false := by simpa using hn
  clear hW z hn
  go_enter Tryz.func14, Tryz.ntmps14
  go_wp2_with (go_at_call 41; refine (contains_calls _ _ _ nd.near _ hC.out).mono ?_; rintro e w1 ⟨rfl, rfl⟩)
  go_ret2
  exact ⟨rfl, rfl⟩
set_option maxRecDepth 100000 in
theorem hear_again (w : World) (lo hi p : Nat) (nd : Nd) (n : Int) (hF : Fine nd) (hW : IsWave w lo hi nd p) (hn : n ∈ nd.heard) :
    Calls Tryz.prog 14 #[.pointer (some ⟨p, 0, none⟩), .int .i64 n] w fun e w' => e = .returned (.tuple #[.slice none 0 0, .iface 28 (.int .i64 9)]) ∧ w = w' := by
  obtain ⟨A, c, bh, bt, z⟩ := isWave_iff.1 hW
  have c0 := blk_cell z.h1 0
  have c1 := blk_cell z.h1 1
  simp at c0 c1
  have hC := Aside0.mk (Kd.R_reads' z.h2).2.2
  have hm := hF.hs n hn
  have hd : decide (n ∈ nd.near) = true := by simpa using hm
  have hb := hF.nb n hm
  have hl := z.h3.look (WalkArith.wf_i64 (n := n) (by omega))
  rw [if_pos hn] at hl
  clear hW z hn hF hm
  go_enter Tryz.func14, Tryz.ntmps14
  go_wp2_with (go_at_call 41; refine (contains_calls _ _ _ nd.near _ hC.out).mono ?_; rintro e w1 ⟨rfl, rfl⟩)
  go_ret2
  exact ⟨rfl, rfl⟩
set_option maxRecDepth 100000 in
theorem hear_calls (w : World) (lo hi p : Nat) (nd : Nd) (n : Int) (hF : Fine nd) (hW : IsWave w lo hi nd p) (hm : n ∈ nd.near) (hn : n ∉ nd.heard) :
    Calls Tryz.prog 14 #[.pointer (some ⟨p, 0, none⟩), .int .i64 n] w (SaysPost w lo hi p { nd with heard := nd.heard ++ [n] }) := by
  obtain ⟨A, c, bh, bt, z⟩ := isWave_iff.1 hW
  have c0 := blk_cell z.h1 0
  have c1 := blk_cell z.h1 1
  simp at c0 c1
  have hC := Aside0.mk (Kd.R_reads' z.h2).2.2
  have hd : decide (n ∈ nd.near) = true := by simpa using hm
  have hb := hF.nb n hm
  have HWF := Lib.hid (WalkArith.wf_i64 (n := n) (by omega))
  have hl := z.h3.look HWF.out
  rw [if_neg hn] at hl
  have Z := Lib.hid z
  have HF := Lib.hid hF
  have HM := Lib.hid hm
  have HN := Lib.hid hn
  clear hW z hn hF hm
  go_enter Tryz.func14, Tryz.ntmps14
  go_wp2_with (first
    | (go_at_call 41; refine (contains_calls _ _ _ nd.near _ hC.out).mono ?_; rintro e w1 ⟨rfl, rfl⟩)
    | (at_mapUpdate; refine wpList_putKey _ rfl _ _ _ rfl bh nd.heard n rfl rfl rfl Z.out.h3 HWF.out HN.out (by have := HF.out.heard8; unfold maxLen; omega) ?_; intro w2 hk2 hg2; have Z2 := Aside0.mk (Z.out.hear hg2 hk2); have HG2 := Aside0.mk hg2; clear hk2 hg2 hl c0 c1)
    | (go_at_call 40; refine (tell_calls _ lo hi p _ (HF.out.hear HM.out HN.out) (isWave_iff.2 ⟨A, c, bh, bt, Z2.out⟩)).mono ?_; rintro e w3 ⟨v, rfl, hv, hw, hb1, hk1⟩; have HV := Aside0.mk hv; have HW := Aside0.mk hw; have HB := Aside0.mk hb1; have HK := Aside0.mk hk1; clear hv hw hb1 hk1))
  go_ret2
  have hlo := Z.out.h7.1
  have hlt := Z.out.h3.lt
  refine ⟨_, rfl, ?_, HW.out, ((Below.refl lo w).grown HG2.out (by omega) (fun k e => by injection e with e; omega)).trans HB.out,
    Kept.then_ ⟨HG2.out.size, fun i hi hn => HG2.out.block i hi (fun e => by injection e with e; subst e; exact hn Z.out.h7)⟩ HK.out (fun k hk => .inl hk)⟩
  exact Kd.R_lower HV.out HG2.out.size
set_option maxRecDepth 100000 in
theorem done_nil (w : World) : Calls Tryz.prog 15 #[.pointer none] w fun e w' => e = .returned (.bool false) ∧ Drawn0 w w' := by
  go_enter Tryz.func15, Tryz.ntmps15
  go_wp2
  go_quiet (fail)
  go_wp2
  go_ret
  exact ⟨rfl, ⟨⟨_, rfl⟩⟩⟩
set_option maxRecDepth 100000 in
theorem done_calls (w : World) (lo hi p : Nat) (nd : Nd) (hF : Fine nd) (hW : IsWave w lo hi nd p) :
    Calls Tryz.prog 15 #[.pointer (some ⟨p, 0, none⟩)] w fun e w' => e = .returned (.bool (nd.bg && nd.heard.length == nd.near.length)) ∧ Drawn0 w w' := by
  obtain ⟨A, c, bh, bt, z⟩ := isWave_iff.1 hW
  have c0 := blk_cell z.h1 0
  have c1 := blk_cell z.h1 1
  have c3 := blk_cell z.h1 3
  simp at c0 c1 c3
  have l2 := fun m ty => (z.h3.drewN m).len ty
  by_cases hb : nd.bg = true
  · rw [hb] at c3 ⊢
    clear hW z hF
    go_enter Tryz.func15, Tryz.ntmps15
    go_wp2
    go_quiet (fail)
    go_wp2
    go_ret
    refine ⟨?_, ⟨⟨_, rfl⟩⟩⟩
    have e : (((nd.heard.length : Int) == (nd.near.length : Int)) : Bool) = (true && nd.heard.length == nd.near.length) := by
      rw [Bool.eq_iff_iff]
      simp
      omega
    rw [← e]
    first
      | rfl
      | (simp; done)
  · replace hb := Bool.eq_false_iff.mpr hb
    rw [hb] at c3 ⊢
    clear hW z hF
    go_enter Tryz.func15, Tryz.ntmps15
    go_wp2
    go_quiet (fail)
    go_wp2
    go_ret
    exact ⟨rfl, ⟨⟨_, rfl⟩⟩⟩
end Go.Proofs.YtadaoplmicghcaaGreatDoor
namespace Go.Proofs.YtadaoplmicghcaaGreatDoor
open Go.RowKit Go.Maps Go.Proofs.YtadaoplmicghcaaGreatDoorW.PrintWords Go.Proofs.YtadaoplmicghcaaGreatDoorW.PrintLast Go.Proofs.YtadaoplmicghcaaGreatDoorW.PrintMore
set_option linter.unusedVariables false
set_option linter.unusedSimpArgs false

def okAt (xs : List Int) (j : Nat) : Prop := 0 ≤ rd xs j ∧ rd xs j < 8 ∧ (0 < j → rd xs (j - 1 : Nat) < rd xs j)
def Rises (xs : List Int) : Prop := ∀ j, j < xs.length → okAt xs j
theorem Rises.lt {xs : List Int} (h : Rises xs) : ∀ i j, i < j → j < xs.length → rd xs i < rd xs j := by
  intro i j hij
  induction j with
  | zero => omega
  | succ j ih =>
    intro hj
    have h1 := (h (j + 1) hj).2.2 (by omega)
    simp only [Nat.add_sub_cancel] at h1
    rcases Nat.lt_or_ge i j with hlt | hge
    · have := ih hlt (by omega); omega
    · have : i = j := by omega
      subst this; exact h1
theorem Rises.nodup {xs : List Int} (h : Rises xs) : xs.Nodup := by
  rw [List.nodup_iff_pairwise_ne, List.pairwise_iff_getElem]
  intro i j hi hj hij e
  have := h.lt i j hij hj
  rw [rd_get xs i hi, rd_get xs j hj] at this
  omega
theorem Rises.bound {xs : List Int} (h : Rises xs) : ∀ x, x ∈ xs → 0 ≤ x ∧ x < 8 := by
  intro x hx
  obtain ⟨i, hi, rfl⟩ := List.mem_iff_getElem.1 hx
  have := h i hi
  unfold okAt at this
  rw [rd_get xs i hi] at this
  exact ⟨this.1, this.2.1⟩
theorem Rises.fine {xs : List Int} (h : Rises xs) : Fine ⟨xs, [], [], false⟩ := ⟨h.nodup, h.bound, List.nodup_nil, by simp, List.nodup_nil, by simp⟩

def NewPost (w : World) (xs : List Int) (e : Ending) (w' : World) : Prop :=
  (Rises xs → ∃ p, e = .returned (.tuple #[.pointer (some ⟨p, 0, none⟩), .nilIface]) ∧ IsWave w' w.heap.size w'.heap.size ⟨xs, [], [], false⟩ p ∧ Below w.heap.size w w') ∧
  (¬ Rises xs → e = .returned (.tuple #[.pointer none, .iface 28 (.int .i64 1)]) ∧ w = w')
theorem NewPost.no {w : World} {xs : List Int} {k : Nat} (hk : k < xs.length) (h : ¬ okAt xs k) : NewPost w xs (.returned (.tuple #[.pointer none, .iface 28 (.int .i64 1)])) w :=
  ⟨fun hr => absurd (hr k hk) h, fun _ => ⟨rfl, rfl⟩⟩

set_option maxRecDepth 100000 in
set_option maxHeartbeats 1000000 in
theorem new_calls (w : World) (A : Option Addr) (c : Nat) (xs : List Int) (hr : (Kd.int .i64).C w A xs.length xs) (hl : xs.length * 8 ≤ 140737488351232) :
    Calls Tryz.prog 7 #[.slice A xs.length c] w (NewPost w xs) := by
  have HR := Lib.hid hr
  have HL := Lib.hid hl
  have hm : (xs.length : Int) ≤ 9223372036854775807 := by have := hr.2.1; omega
  have hmm := @run_makeMap Tryz.prog
  clear hr hl
  go_enter Tryz.func7, Tryz.ntmps7
  go_wp2
  go_loop [8] (fun v => ∃ k : Nat, k ≤ xs.length ∧ v = .int .i64 k ∧ Hid (∀ j, j < k → okAt xs j)) (fun v => xs.length - (intOf v).toNat)
  case atStart => exact ⟨0, Nat.zero_le _, rfl, fun j hj => by omega⟩
  case round =>
    obtain ⟨k, hk, rfl, hok⟩ := hrel
    by_cases hlt : k < xs.length
    · obtain ⟨ad, rfl, hcell⟩ := C_cell HR.out hlt
      have HLT := Lib.hid hlt
      have k0 : (0 : Int) ≤ k := by omega
      have k1 : (k : Int) < xs.length := by omega
      obtain ⟨n, hn⟩ : ∃ n, n = rd xs k := ⟨_, rfl⟩
      rw [← hn] at hcell
      have HN := Lib.hid hn
      clear hlt hn
      by_cases h0 : n < 0
      · have HF := Lib.hid (show ¬ okAt xs k by unfold okAt; rw [← HN.out]; omega)
        go_wp2
        go_ret2
        exact NewPost.no HLT.out HF.out
      · by_cases h8 : 8 ≤ n
        · have HF := Lib.hid (show ¬ okAt xs k by unfold okAt; rw [← HN.out]; omega)
          go_wp2
          go_ret2
          exact NewPost.no HLT.out HF.out
        · by_cases hk0 : k = 0
          · have HF := Lib.hid (show okAt xs k by unfold okAt; rw [← HN.out]; omega)
            have kz : (k : Int) ≤ 0 := by omega
            clear hk0
            go_wp2
            go_round
            case rel =>
              refine ⟨k + 1, by have := HLT.out; omega, by go_num, ?_⟩
              intro j hj
              obtain rfl : j = k := by omega
              exact HF.out
            case measure => simp [intOf]; omega
          · have hlt2 : k - 1 < xs.length := by have := HLT.out; omega
            obtain ⟨_, e, hcell2⟩ := C_cell HR.out hlt2
            cases e
            have kp : (0 : Int) < k := by omega
            obtain ⟨m, hm2⟩ : ∃ m, m = rd xs (k - 1 : Nat) := ⟨_, rfl⟩
            rw [← hm2] at hcell2
            have HM := Lib.hid hm2
            have hK : ((k : Int) - 1).toNat = k - 1 := by omega
            have HK0 := Lib.hid hk0
            clear hm2 hlt2 hk0
            by_cases hp : n ≤ m
            · have HF := Lib.hid (show ¬ okAt xs k by unfold okAt; rw [← HN.out, ← HM.out]; omega)
              go_wp2
              go_ret2
              exact NewPost.no HLT.out HF.out
            · have HF := Lib.hid (show okAt xs k by unfold okAt; rw [← HN.out, ← HM.out]; omega)
              go_wp2
              go_round
              case rel =>
                refine ⟨k + 1, by have := HLT.out; omega, by go_num, ?_⟩
                intro j hj
                by_cases e : j = k
                · subst e; exact HF.out
                · exact hok.out j (by omega)
              case measure => simp [intOf]; omega
    · have k1 : ¬ (k : Int) < xs.length := by omega
      have HK := Lib.hid (show k = xs.length by omega)
      clear hlt
      go_wp2_with (go_at_call 38; refine (clone_calls _ _ _ xs HR.out HL.out).mono ?_; rintro e w1 ⟨v, rfl, hv, hb⟩; obtain ⟨A1, c1, rfl⟩ := Kd.R_slice hv; have HV := Aside0.mk hv; have HB := Aside0.mk hb; clear hv hb)
      go_ret2
      have hrise : Rises xs := by intro j hj; exact hok.out j (by rw [HK.out]; exact hj)
      refine ⟨fun _ => ?_, fun h => absurd hrise h⟩
      have hs := HB.out.size
      refine ⟨w1.heap.size + 1 + 1, rfl, ⟨A1, c1, w1.heap.size, w1.heap.size + 1, ?_, ?_, ?_, ?_, by omega, ?_, ?_, ?_⟩, ?_⟩
      · have := heap_alloc_new ((w1.alloc (.map #[] 0)).alloc (.map #[] 0)) (.cells #[.slice A1 xs.length c1, .map (some w1.heap.size), .map (some (w1.heap.size + 1)), .bool false] 95)
        simpa using this
      · have h1 := Kd.R_alloc (Kd.R_alloc (Kd.R_alloc HV.out (.map #[] 0)) (.map #[] 0)) (.cells #[.slice A1 xs.length c1, .map (some w1.heap.size), .map (some (w1.heap.size + 1)), .bool false] 95)
        exact Kd.R_mono (Kd.R_bound h1) (fun k hk => ⟨hk.2.1, hk.2.2.1⟩)
      · exact ((Keys.made w1).alloc _).alloc _
      · have := (Keys.made (w1.alloc (.map #[] 0))).alloc (.cells #[.slice A1 xs.length c1, .map (some w1.heap.size), .map (some (w1.heap.size + 1)), .bool false] 95)
        simpa using this
      · unfold In; simp; omega
      · unfold In; simp; omega
      · unfold In; simp; omega
      · exact below_alloc (below_alloc (below_alloc HB.out _) _) _
end Go.Proofs.YtadaoplmicghcaaGreatDoor
