/- Plain mathematics, with no program in sight: lists without repeats, trees as lists of links, and the wave in a tree: safety (who has begun and heard all has all others begun) and the end (all is told, all are done). -/
namespace Go.Proofs.Ytpnokpoikhpiiaa.LC
set_option linter.unusedVariables false
set_option linter.unusedSimpArgs false
theorem length_le_of_subset {α : Type} [DecidableEq α] : ∀ {l m : List α}, l.Nodup → (∀ x ∈ l, x ∈ m) → l.length ≤ m.length
  | [], _, _, _ => Nat.zero_le _
  | a :: l, m, hn, hs => by
    have ha : a ∈ m := hs a (by simp)
    have hn' := List.nodup_cons.1 hn
    have h1 : ∀ x ∈ l, x ∈ m.erase a := by
      intro x hx
      have hne : x ≠ a := fun e => hn'.1 (e ▸ hx)
      exact (List.mem_erase_of_ne hne).2 (hs x (List.mem_cons_of_mem _ hx))
    have h2 := length_le_of_subset hn'.2 h1
    rw [List.length_erase_of_mem ha] at h2
    have : 0 < m.length := List.length_pos_of_mem ha
    simp; omega

theorem subset_of_length_le {α : Type} [DecidableEq α] {l m : List α} (hn : l.Nodup) (hs : ∀ x ∈ l, x ∈ m) (hl : m.length ≤ l.length) : ∀ x ∈ m, x ∈ l := by
  intro x hx
  by_cases hxl : x ∈ l
  · exact hxl
  · have h1 : ∀ y ∈ l, y ∈ m.erase x := by
      intro y hy
      have hne : y ≠ x := fun e => hxl (e ▸ hy)
      exact (List.mem_erase_of_ne hne).2 (hs y hy)
    have h2 := length_le_of_subset hn h1
    rw [List.length_erase_of_mem hx] at h2
    have : 0 < m.length := List.length_pos_of_mem hx
    omega
theorem length_eq_of_same {α : Type} [DecidableEq α] {l m : List α} (hn : l.Nodup) (hm : m.Nodup) (h : ∀ x, x ∈ l ↔ x ∈ m) : l.length = m.length :=
  Nat.le_antisymm (length_le_of_subset hn fun x hx => (h x).1 hx) (length_le_of_subset hm fun x hx => (h x).2 hx)
end Go.Proofs.Ytpnokpoikhpiiaa.LC
namespace Go.Proofs.Ytpnokpoikhpiiaa.WvTree
open LC
inductive Walk (E : Int → Int → Prop) : Int → Int → Nat → Prop
  | here (a : Int) : Walk E a a 0
  | step {a b c : Int} {n : Nat} : E a b → Walk E b c n → Walk E a c (n + 1)

theorem Walk.append {E : Int → Int → Prop} {a b c : Int} {n m : Nat} (h : Walk E a b n) (k : Walk E b c m) : Walk E a c (n + m) := by
  induction h with
  | here a => simpa using k
  | step e _ ih => have := Walk.step e (ih k); simpa [Nat.add_right_comm] using this
theorem Walk.rev {E : Int → Int → Prop} (hs : ∀ a b, E a b → E b a) {a b : Int} {n : Nat} (h : Walk E a b n) : Walk E b a n := by
  induction h with
  | here a => exact .here a
  | step e _ ih => exact ih.append (.step (hs _ _ e) (.here _))

theorem exists_least {P : Nat → Prop} (h : ∃ n, P n) : ∃ n, P n ∧ ∀ m, m < n → ¬ P m := by
  obtain ⟨n, hn⟩ := h
  induction n using Nat.strongRecOn with
  | _ n ih =>
    by_cases hm : ∃ m, m < n ∧ P m
    · obtain ⟨m, hlt, hp⟩ := hm
      exact ih m hlt hp
    · exact ⟨n, hn, fun m hlt hp => hm ⟨m, hlt, hp⟩⟩

open Classical in
noncomputable def least (P : Nat → Prop) : Nat := if h : ∃ n, P n then Classical.choose (exists_least h) else 0
theorem least_spec {P : Nat → Prop} (h : ∃ n, P n) : P (least P) ∧ ∀ m, m < least P → ¬ P m := by
  unfold least
  rw [dif_pos h]
  exact Classical.choose_spec (exists_least h)
theorem least_le {P : Nat → Prop} {n : Nat} (h : P n) : least P ≤ n := by
  have := (least_spec ⟨n, h⟩).2 n
  rcases Nat.lt_or_ge n (least P) with hlt | hge
  · exact absurd h (this hlt)
  · exact hge

/-- A distance to u. -/
theorem exists_dist {E : Int → Int → Prop} {ms : List Int} {u : Int} (hconn : ∀ a, a ∈ ms → ∃ n, Walk E a u n) :
    ∃ d : Int → Nat, ∀ a, a ∈ ms → a ≠ u → ∃ b, E a b ∧ d b < d a := by
  refine ⟨fun a => least (Walk E a u), fun a ha hne => ?_⟩
  have hl := (least_spec (hconn a ha)).1
  dsimp only
  generalize least (Walk E a u) = n at hl
  cases hl with
  | here => exact absurd rfl hne
  | step e h => exact ⟨_, e, Nat.lt_succ_of_le (least_le h)⟩

/-- Safety: who has begun and heard all has all others begun. -/
theorem all_begun {E : Int → Int → Prop} {ms : List Int} (hE : ∀ a b, E a b → b ∈ ms) (hconn : ∀ a b, a ∈ ms → b ∈ ms → ∃ n, Walk E a b n)
    {begun : Int → Prop} {sent heard : Int → Int → Prop} (hh : ∀ u w, heard u w → sent w u)
    (hs : ∀ u v, sent u v → begun u ∧ ∀ w, E u w → w ≠ v → heard u w)
    (hsym : ∀ a b, E a b → E b a)
    {u : Int} (hu : u ∈ ms) (hbu : begun u) (hdone : ∀ w, E u w → heard u w) : ∀ a, a ∈ ms → begun a := by
  obtain ⟨d, hd⟩ := exists_dist (fun a ha => hconn a u ha hu)
  have key : ∀ n a, d a = n → a ∈ ms → a ≠ u → ∃ b, E a b ∧ d b < d a ∧ sent a b := by
    intro n
    induction n using Nat.strongRecOn with
    | _ n ih =>
      intro a hda ha hne
      obtain ⟨b, hab, hlt⟩ := hd a ha hne
      refine ⟨b, hab, hlt, ?_⟩
      by_cases hbu' : b = u
      · subst hbu'
        exact hh _ _ (hdone a (hsym _ _ hab))
      · obtain ⟨c, hbc, hltc, hsc⟩ := ih (d b) (by omega) b rfl (hE _ _ hab) hbu'
        exact hh _ _ ((hs _ _ hsc).2 a (hsym _ _ hab) (fun e => by subst e; omega))
  intro a ha
  by_cases hau : a = u
  · subst hau; exact hbu
  · obtain ⟨b, _, _, hsb⟩ := key _ a rfl ha hau
    exact (hs _ _ hsb).1

/-- Liveness: all is told in the end. -/
theorem all_sent {E : Int → Int → Prop} {rank : Int → Int → Nat} (hr : ∀ u v w, E u v → E u w → w ≠ v → rank w u < rank u v)
    (hsym : ∀ a b, E a b → E b a)
    {sent heard : Int → Int → Prop} (hh : ∀ u w, sent w u → heard u w) (hc : ∀ u v, E u v → (∀ w, E u w → w ≠ v → heard u w) → sent u v) :
    ∀ u v, E u v → sent u v := by
  have key : ∀ n u v, rank u v = n → E u v → sent u v := by
    intro n
    induction n using Nat.strongRecOn with
    | _ n ih =>
      intro u v hn huv
      refine hc u v huv fun w huw hne => hh u w (ih (rank w u) ?_ w u rfl (hsym _ _ huw))
      have := hr u v w huv huw hne
      omega
  exact fun u v h => key _ u v rfl h

/-- The edges of links. -/
def Edge (links : List (Int × Int)) (a b : Int) : Prop := (a, b) ∈ links ∨ (b, a) ∈ links
theorem Edge.symm {links : List (Int × Int)} : ∀ a b, Edge links a b → Edge links b a := fun _ _ h => Or.symm h

theorem idxOf_inj {L : List Int} {a b : Int} (ha : a ∈ L) (hb : b ∈ L) (h : L.idxOf a = L.idxOf b) : a = b := by
  have h1 := List.idxOf_lt_length_of_mem ha
  have h2 := List.idxOf_lt_length_of_mem hb
  have e1 := List.getElem_idxOf h1
  have e2 := List.getElem_idxOf h2
  rw [← e1, ← e2]
  congr 1

section
variable {links : List (Int × Int)} {root : Int} {rest : List Int}

theorem walk_root (hn : (root :: rest).Nodup) (hpar : ∀ v, v ∈ rest → ∃ w, w ∈ root :: rest ∧ Edge links v w ∧ (root :: rest).idxOf w < (root :: rest).idxOf v) :
    ∀ v, v ∈ root :: rest → ∃ n, Walk (Edge links) v root n := by
  have key : ∀ n v, (root :: rest).idxOf v = n → v ∈ root :: rest → ∃ n, Walk (Edge links) v root n := by
    intro n
    induction n using Nat.strongRecOn with
    | _ n ih =>
      intro v hv hm
      rcases List.mem_cons.1 hm with e | hr
      · subst e; exact ⟨0, .here _⟩
      · obtain ⟨w, hw, hE, hlt⟩ := hpar v hr
        obtain ⟨m, hm'⟩ := ih _ (by omega) w rfl hw
        exact ⟨m + 1, .step hE hm'⟩
  exact fun v hv => key _ v rfl hv

theorem connected (hn : (root :: rest).Nodup) (hpar : ∀ v, v ∈ rest → ∃ w, w ∈ root :: rest ∧ Edge links v w ∧ (root :: rest).idxOf w < (root :: rest).idxOf v) :
    ∀ a b, a ∈ root :: rest → b ∈ root :: rest → ∃ n, Walk (Edge links) a b n := by
  intro a b ha hb
  obtain ⟨n, h⟩ := walk_root hn hpar a ha
  obtain ⟨m, k⟩ := walk_root hn hpar b hb
  exact ⟨_, h.append (k.rev Edge.symm)⟩

theorem exists_rank (hn : (root :: rest).Nodup) (hlt : ∀ a b, (a, b) ∈ links → a < b)
    (hlen : links.length ≤ rest.length)
    (hpar : ∀ v, v ∈ rest → ∃ w, w ∈ root :: rest ∧ Edge links v w ∧ (root :: rest).idxOf w < (root :: rest).idxOf v) :
    ∃ rank : Int → Int → Nat, ∀ u v w, Edge links u v → Edge links u w → w ≠ v → rank w u < rank u v := by
  have hch : ∃ par : Int → Int, ∀ v, v ∈ rest → par v ∈ root :: rest ∧ Edge links v (par v) ∧ (root :: rest).idxOf (par v) < (root :: rest).idxOf v := by
    refine ⟨fun v => if h : v ∈ rest then Classical.choose (hpar v h) else 0, fun v hv => ?_⟩
    simp only [hv, dif_pos]
    exact Classical.choose_spec (hpar v hv)
  obtain ⟨par, hp⟩ := hch
  generalize hL : root :: rest = L at *
  have hrL : ∀ v, v ∈ rest → v ∈ L := fun v hv => by rw [← hL]; exact List.mem_cons_of_mem _ hv
  have hrn : rest.Nodup := by rw [← hL] at hn; exact (List.nodup_cons.1 hn).2
  let lk : Int → Int × Int := fun v => (min v (par v), max v (par v))
  have hlk : ∀ v, v ∈ rest → lk v ∈ links := by
    intro v hv
    obtain ⟨_, hE, _⟩ := hp v hv
    rcases hE with h | h
    · have := hlt _ _ h
      have e : lk v = (v, par v) := by simp only [lk, Prod.mk.injEq]; omega
      rw [e]; exact h
    · have := hlt _ _ h
      have e : lk v = (par v, v) := by simp only [lk, Prod.mk.injEq]; omega
      rw [e]; exact h
  have hinj : ∀ v v', v ∈ rest → v' ∈ rest → lk v = lk v' → v = v' := by
    intro v v' hv hv' he
    obtain ⟨_, _, h1⟩ := hp v hv
    obtain ⟨_, _, h2⟩ := hp v' hv'
    simp only [lk, Prod.mk.injEq] at he
    by_cases hvv : v = v'
    · exact hvv
    · exfalso
      have e1 : v = par v' := by omega
      have e2 : v' = par v := by omega
      rw [← e2] at h1
      rw [← e1] at h2
      omega
  have hmn : (rest.map lk).Nodup := by
    have : ∀ l : List Int, l.Nodup → (∀ x, x ∈ l → x ∈ rest) → (l.map lk).Nodup := by
      intro l
      induction l with
      | nil => intros; simp
      | cons a l ih =>
        intro hn hs
        have hn' := List.nodup_cons.1 hn
        rw [List.map_cons, List.nodup_cons]
        refine ⟨fun hc => ?_, ih hn'.2 fun x hx => hs x (List.mem_cons_of_mem _ hx)⟩
        obtain ⟨x, hx, he⟩ := List.mem_map.1 hc
        have := hinj x a (hs x (List.mem_cons_of_mem _ hx)) (hs a (by simp)) he
        subst this
        exact hn'.1 hx
    exact this rest hrn fun _ h => h
  have hall : ∀ k, k ∈ links → k ∈ rest.map lk := subset_of_length_le hmn (fun x hx => by
    obtain ⟨v, hv, rfl⟩ := List.mem_map.1 hx
    exact hlk v hv) (by simpa using hlen)
  -- each edge is one of a member and its parent
  have hor : ∀ a b, Edge links a b → (a ∈ rest ∧ b = par a) ∨ (b ∈ rest ∧ a = par b) := by
    have aux : ∀ a b, (a, b) ∈ links → (a ∈ rest ∧ b = par a) ∨ (b ∈ rest ∧ a = par b) := by
      intro a b h
      obtain ⟨v, hv, he⟩ := List.mem_map.1 (hall _ h)
      simp only [lk, Prod.mk.injEq] at he
      by_cases hva : v = a
      · subst hva; exact .inl ⟨hv, by omega⟩
      · have : v = b := by omega
        subst this; exact .inr ⟨hv, by omega⟩
    intro a b h
    rcases h with h | h
    · exact aux a b h
    · exact (aux b a h).symm
  open Classical in
  refine ⟨fun u v => if u ∈ rest ∧ v = par u then L.length - L.idxOf u else L.length + L.idxOf v, fun u v w huv huw hne => ?_⟩
  have hix : ∀ x, x ∈ L → L.idxOf x < L.length := fun x hx => List.idxOf_lt_length_of_mem hx
  dsimp only
  by_cases hup : u ∈ rest ∧ v = par u
  · rw [if_pos hup]
    obtain ⟨hu, rfl⟩ := hup
    rcases hor u w huw with ⟨_, e⟩ | ⟨hw, e⟩
    · exact absurd e hne
    · rw [if_pos ⟨hw, e⟩]
      have h1 := (hp w hw).2.2
      rw [← e] at h1
      have := hix w (hrL w hw)
      omega
  · rw [if_neg hup]
    rcases hor u v huv with h | ⟨hv, e⟩
    · exact absurd h hup
    · have h1 := (hp v hv).2.2
      rw [← e] at h1
      rcases hor u w huw with ⟨hu, e2⟩ | ⟨hw, e2⟩
      · have hnd : ¬ (w ∈ rest ∧ u = par w) := by
          rintro ⟨hw, e3⟩
          have h2 := (hp w hw).2.2
          have h3 := (hp u hu).2.2
          rw [← e3] at h2
          rw [← e2] at h3
          omega
        rw [if_neg hnd]
        omega
      · rw [if_pos ⟨hw, e2⟩]
        have := hix u (by rw [e]; exact (hp v hv).1)
        omega
end
end Go.Proofs.Ytpnokpoikhpiiaa.WvTree
namespace Go.Proofs.Ytpnokpoikhpiiaa.WvSim
open LC WvTree
/-- Whom a node tells now. -/
def ready (near heard : List Int) (n : Int) : Bool := decide ((heard.length : Int) - (if n ∈ heard then 1 else 0) = (near.length : Int) - 1)
def tells (near heard told : List Int) (bg : Bool) : List Int := near.filter fun n => bg && (!decide (n ∈ told) && ready near heard n)

theorem ready_iff {near heard : List Int} (hn : near.Nodup) (hh : heard.Nodup) (hs : ∀ x, x ∈ heard → x ∈ near) {n : Int} (h : n ∈ near) :
    ready near heard n = true ↔ ∀ w, w ∈ near → w ≠ n → w ∈ heard := by
  have e1 : (heard.erase n).length = heard.length - (if n ∈ heard then 1 else 0) := by
    by_cases h' : n ∈ heard
    · rw [if_pos h', List.length_erase_of_mem h']
    · rw [if_neg h', List.erase_of_not_mem h']; rfl
  have e2 := List.length_erase_of_mem h
  have hp := List.length_pos_of_mem h
  have hle : (if n ∈ heard then 1 else 0) ≤ heard.length := by
    by_cases h' : n ∈ heard
    · rw [if_pos h']; exact List.length_pos_of_mem h'
    · rw [if_neg h']; omega
  have hmem : ∀ x, x ∈ heard.erase n → x ∈ near.erase n := by
    intro x hx
    have hne : x ≠ n := fun e => (List.Nodup.not_mem_erase hh) (e ▸ hx)
    exact (List.mem_erase_of_ne hne).2 (hs x (List.mem_of_mem_erase hx))
  have hk : ready near heard n = true ↔ (heard.erase n).length = (near.erase n).length := by
    unfold ready
    rw [decide_eq_true_iff, e1, e2]
    by_cases h' : n ∈ heard
    · simp only [if_pos h'] at hle ⊢; omega
    · simp only [if_neg h'] at hle ⊢; omega
  rw [hk]
  constructor
  · intro he w hw hne
    have := subset_of_length_le (hh.erase n) hmem (by omega) w ((List.mem_erase_of_ne hne).2 hw)
    exact List.mem_of_mem_erase this
  · intro ha
    refine length_eq_of_same (hh.erase n) (hn.erase n) fun x => ⟨hmem x, fun hx => ?_⟩
    have hne : x ≠ n := fun e => (List.Nodup.not_mem_erase hn) (e ▸ hx)
    exact (List.mem_erase_of_ne hne).2 (ha x (List.mem_of_mem_erase hx) hne)

theorem mem_tells {near heard told : List Int} {bg : Bool} {n : Int} : n ∈ tells near heard told bg ↔ n ∈ near ∧ bg = true ∧ n ∉ told ∧ ready near heard n = true := by
  unfold tells
  simp

def upd {α : Type} (f : Int → α) (u : Int) (x : α) : Int → α := fun v => if v = u then x else f v
theorem upd_same {α : Type} (f : Int → α) (u : Int) (x : α) : upd f u x u = x := by simp [upd]
theorem upd_other {α : Type} (f : Int → α) {u v : Int} (x : α) (h : v ≠ u) : upd f u x v = f v := by simp [upd, h]

structure St where
  heard : Int → List Int
  told : Int → List Int
  bg : Int → Bool
  todo : List (Int × Int)
  all : List (Int × Int)

structure Inv (E : Int → Int → Prop) (ms : List Int) (near : Int → List Int) (s : St) : Prop where
  hn : ∀ u, u ∈ ms → (s.heard u).Nodup
  tn : ∀ u, u ∈ ms → (s.told u).Nodup
  an : s.all.Nodup
  dn : s.todo.Nodup
  da : ∀ m, m ∈ s.todo → m ∈ s.all
  am : ∀ u v, (u, v) ∈ s.all ↔ u ∈ ms ∧ v ∈ s.told u
  hm : ∀ u w, u ∈ ms → (w ∈ s.heard u ↔ (w, u) ∈ s.all ∧ (w, u) ∉ s.todo)
  tm : ∀ u v, u ∈ ms → (v ∈ s.told u ↔ s.bg u = true ∧ v ∈ near u ∧ ∀ w, w ∈ near u → w ≠ v → w ∈ s.heard u)

def begin_ (near : Int → List Int) (s : St) (u : Int) : St :=
  let t := tells (near u) (s.heard u) (s.told u) true
  { heard := s.heard, told := upd s.told u (s.told u ++ t), bg := upd s.bg u true, todo := s.todo ++ t.map (fun v => (u, v)), all := s.all ++ t.map (fun v => (u, v)) }
def hear_ (near : Int → List Int) (s : St) (w u : Int) (todo1 : List (Int × Int)) : St :=
  let h := s.heard u ++ [w]
  let t := tells (near u) h (s.told u) (s.bg u)
  { heard := upd s.heard u h, told := upd s.told u (s.told u ++ t), bg := s.bg, todo := todo1 ++ t.map (fun v => (u, v)), all := s.all ++ t.map (fun v => (u, v)) }

section
variable {E : Int → Int → Prop} {ms : List Int} {near : Int → List Int} {s : St}

/-- The net: whose neighbours are whose. -/
structure Net (E : Int → Int → Prop) (ms : List Int) (near : Int → List Int) : Prop where
  nearN : ∀ u, u ∈ ms → (near u).Nodup
  isE : ∀ u v, u ∈ ms → (v ∈ near u ↔ E u v)
  sym : ∀ a b, E a b → E b a
  inMs : ∀ a b, E a b → a ∈ ms

theorem Inv.heard_near (N : Net E ms near) (h : Inv E ms near s) {u w : Int} (hu : u ∈ ms) (hw : w ∈ s.heard u) : w ∈ near u := by
  have h1 := ((h.hm u w hu).1 hw).1
  obtain ⟨hwm, ht⟩ := (h.am w u).1 h1
  have := ((h.tm w u hwm).1 ht).2.1
  exact (N.isE u w hu).2 (N.sym _ _ ((N.isE w u hwm).1 this))

theorem map_nodup {l : List Int} (u : Int) (h : l.Nodup) : (l.map (fun v => (u, v))).Nodup := by
  induction l with
  | nil => simp
  | cons a l ih =>
    have h' := List.nodup_cons.1 h
    rw [List.map_cons, List.nodup_cons]
    exact ⟨fun hc => by
      obtain ⟨x, hx, he⟩ := List.mem_map.1 hc
      simp only [Prod.mk.injEq] at he
      exact h'.1 (he.2 ▸ hx), ih h'.2⟩

/-- What tell does to the invariant: from a state in which all but 'tm' at u holds. -/
theorem told_step (N : Net E ms near) (h : Inv E ms near s) {u : Int} (hu : u ∈ ms) {hd : List Int} {b : Bool} (hdn : hd.Nodup) (hdE : ∀ x, x ∈ hd → x ∈ near u)
    (hmono : ∀ x, x ∈ s.heard u → x ∈ hd) (hb : s.bg u = true → b = true) (v : Int) :
    v ∈ s.told u ++ tells (near u) hd (s.told u) b ↔ b = true ∧ v ∈ near u ∧ ∀ w, w ∈ near u → w ≠ v → w ∈ hd := by
  rw [List.mem_append, mem_tells]
  constructor
  · rintro (ht | ⟨hv, hb', _, hr⟩)
    · obtain ⟨h1, h2, h3⟩ := (h.tm u v hu).1 ht
      exact ⟨hb h1, h2, fun w hw hne => hmono _ (h3 w hw hne)⟩
    · exact ⟨hb', hv, (ready_iff (N.nearN u hu) hdn hdE hv).1 hr⟩
  · rintro ⟨hb', hv, ha⟩
    by_cases ht : v ∈ s.told u
    · exact .inl ht
    · exact .inr ⟨hv, hb', ht, (ready_iff (N.nearN u hu) hdn hdE hv).2 ha⟩

theorem told_nodup (N : Net E ms near) (h : Inv E ms near s) {u : Int} (hu : u ∈ ms) (hd : List Int) (b : Bool) : (s.told u ++ tells (near u) hd (s.told u) b).Nodup := by
  rw [List.nodup_append]
  refine ⟨h.tn u hu, (N.nearN u hu).filter _, fun a ha c hc e => ?_⟩
  subst e
  exact (mem_tells.1 hc).2.2.1 ha

theorem tells_fresh (h : Inv E ms near s) {u : Int} (hd : List Int) (b : Bool) : ∀ m, m ∈ (tells (near u) hd (s.told u) b).map (fun v => (u, v)) → m ∉ s.all := by
  intro m hm hc
  obtain ⟨v, hv, rfl⟩ := List.mem_map.1 hm
  exact (mem_tells.1 hv).2.2.1 ((h.am u v).1 hc).2

theorem Inv.begin_ok (N : Net E ms near) (h : Inv E ms near s) {u : Int} (hu : u ∈ ms) (_hbg : s.bg u = false) : Inv E ms near (begin_ near s u) := by
  have hhn := h.hn u hu
  have hhE : ∀ x, x ∈ s.heard u → x ∈ near u := fun x hx => h.heard_near N hu hx
  have hf := tells_fresh h (u := u) (s.heard u) true
  have hstep := fun v => told_step N h hu (hd := s.heard u) (b := true) hhn hhE (fun _ hx => hx) (fun _ => rfl) v
  have hmn := map_nodup u ((N.nearN u hu).filter (fun n => true && (!decide (n ∈ s.told u) && ready (near u) (s.heard u) n)))
  constructor
  · exact h.hn
  · intro v hv
    by_cases e : v = u
    · subst e
      simp only [begin_, upd_same]
      exact told_nodup N h hu _ _
    · simp only [begin_, upd_other _ _ e]; exact h.tn v hv
  · simp only [begin_]
    rw [List.nodup_append]
    exact ⟨h.an, hmn, fun a ha c hc e => hf c hc (e ▸ ha)⟩
  · simp only [begin_]
    rw [List.nodup_append]
    exact ⟨h.dn, hmn, fun a ha c hc e => hf c hc (e ▸ h.da a ha)⟩
  · intro m hm
    simp only [begin_, List.mem_append] at hm ⊢
    exact hm.imp (h.da m) id
  · intro a b
    simp only [begin_, List.mem_append]
    by_cases e : a = u
    · subst e
      rw [upd_same, h.am, List.mem_append]
      simp only [List.mem_map, Prod.mk.injEq, true_and, exists_eq_right, hu]
    · rw [upd_other _ _ e, h.am]
      constructor
      · rintro (h1 | h1)
        · exact h1
        · obtain ⟨x, _, he⟩ := List.mem_map.1 h1
          simp only [Prod.mk.injEq] at he
          exact absurd he.1.symm e
      · exact .inl
  · intro a w ha
    simp only [begin_, List.mem_append]
    rw [h.hm a w ha]
    constructor
    · rintro ⟨h1, h2⟩
      exact ⟨.inl h1, fun hc => hc.elim h2 fun h3 => hf _ h3 h1⟩
    · rintro ⟨h1, h2⟩
      rcases h1 with h1 | h1
      · exact ⟨h1, fun hc => h2 (.inl hc)⟩
      · exact absurd (.inr h1) h2
  · intro a v ha
    simp only [begin_]
    by_cases e : a = u
    · subst e
      rw [upd_same, upd_same]
      exact hstep v
    · rw [upd_other _ _ e, upd_other _ _ e]; exact h.tm a v ha

theorem Inv.hear_facts (N : Net E ms near) (h : Inv E ms near s) {w u : Int} (hm : (w, u) ∈ s.todo) : u ∈ ms ∧ w ∈ near u ∧ w ∉ s.heard u := by
  have ha := h.da _ hm
  obtain ⟨hw, ht⟩ := (h.am w u).1 ha
  have hEw := (N.isE w u hw).1 ((h.tm w u hw).1 ht).2.1
  have hu := N.inMs _ _ (N.sym _ _ hEw)
  exact ⟨hu, (N.isE u w hu).2 (N.sym _ _ hEw), fun hc => ((h.hm u w hu).1 hc).2 hm⟩

theorem Inv.hear_ok (N : Net E ms near) (h : Inv E ms near s) {w u : Int} {todo1 : List (Int × Int)} (hm : (w, u) ∈ s.todo) (h1 : todo1.Nodup) (h2 : ∀ m, m ∈ todo1 ↔ m ∈ s.todo ∧ m ≠ (w, u)) : Inv E ms near (hear_ near s w u todo1) := by
  obtain ⟨hu, hwn, hwh⟩ := h.hear_facts N hm
  have hhn : (s.heard u ++ [w]).Nodup := by
    rw [List.nodup_append]
    exact ⟨h.hn u hu, by simp, fun a ha c hc e => by simp at hc; subst hc; exact hwh (e ▸ ha)⟩
  have hhE : ∀ x, x ∈ s.heard u ++ [w] → x ∈ near u := fun x hx => by
    rcases List.mem_append.1 hx with h3 | h3
    · exact h.heard_near N hu h3
    · simp at h3; subst h3; exact hwn
  have hf := tells_fresh h (u := u) (s.heard u ++ [w]) (s.bg u)
  have hstep := fun v => told_step N h hu (hd := s.heard u ++ [w]) (b := s.bg u) hhn hhE (fun _ hx => List.mem_append_left _ hx) (fun hb => hb) v
  have hmn := map_nodup u ((N.nearN u hu).filter (fun n => s.bg u && (!decide (n ∈ s.told u) && ready (near u) (s.heard u ++ [w]) n)))
  have hall := h.da _ hm
  constructor
  · intro a ha
    simp only [hear_]
    by_cases e : a = u
    · subst e; rw [upd_same]; exact hhn
    · rw [upd_other _ _ e]; exact h.hn a ha
  · intro v hv
    simp only [hear_]
    by_cases e : v = u
    · subst e
      rw [upd_same]
      exact told_nodup N h hu _ _
    · rw [upd_other _ _ e]; exact h.tn v hv
  · simp only [hear_]
    rw [List.nodup_append]
    exact ⟨h.an, hmn, fun a ha c hc e => hf c hc (e ▸ ha)⟩
  · simp only [hear_]
    rw [List.nodup_append]
    exact ⟨h1, hmn, fun a ha c hc e => hf c hc (e ▸ h.da a ((h2 a).1 ha).1)⟩
  · intro m hm'
    simp only [hear_, List.mem_append] at hm' ⊢
    exact hm'.imp (fun h3 => h.da m ((h2 m).1 h3).1) id
  · intro a b
    simp only [hear_, List.mem_append]
    by_cases e : a = u
    · subst e
      rw [upd_same, h.am, List.mem_append]
      simp only [List.mem_map, Prod.mk.injEq, true_and, exists_eq_right, hu]
    · rw [upd_other _ _ e, h.am]
      constructor
      · rintro (h1 | h1)
        · exact h1
        · obtain ⟨x, _, he⟩ := List.mem_map.1 h1
          simp only [Prod.mk.injEq] at he
          exact absurd he.1.symm e
      · exact .inl
  · intro a x ha
    simp only [hear_, List.mem_append]
    by_cases e : a = u
    · subst e
      rw [upd_same, List.mem_append, h.hm a x ha]
      constructor
      · rintro (⟨h3, h4⟩ | h3)
        · exact ⟨.inl h3, fun hc => hc.elim (fun h5 => h4 ((h2 _).1 h5).1) fun h5 => hf _ h5 h3⟩
        · simp at h3; subst h3
          exact ⟨.inl hall, fun hc => hc.elim (fun h5 => ((h2 _).1 h5).2 rfl) fun h5 => hf _ h5 hall⟩
      · rintro ⟨h3, h4⟩
        rcases h3 with h3 | h3
        · by_cases hx : x = w
          · subst hx; exact .inr (by simp)
          · exact .inl ⟨h3, fun hc => h4 (.inl ((h2 _).2 ⟨hc, by simp [hx]⟩))⟩
        · exact absurd (.inr h3) h4
    · rw [upd_other _ _ e, h.hm a x ha]
      constructor
      · rintro ⟨h3, h4⟩
        exact ⟨.inl h3, fun hc => hc.elim (fun h5 => h4 ((h2 _).1 h5).1) fun h5 => hf _ h5 h3⟩
      · rintro ⟨h3, h4⟩
        rcases h3 with h3 | h3
        · exact ⟨h3, fun hc => h4 (.inl ((h2 _).2 ⟨hc, by simp [e]⟩))⟩
        · exact absurd (.inr h3) h4
  · intro a v ha
    simp only [hear_]
    by_cases e : a = u
    · subst e
      rw [upd_same, upd_same]
      exact hstep v
    · rw [upd_other _ _ e, upd_other _ _ e]; exact h.tm a v ha

/-- At the beginning. -/
theorem Inv.start : Inv E ms near { heard := fun _ => [], told := fun _ => [], bg := fun _ => false, todo := [], all := [] } := by
  constructor <;> simp

/-- Safety. -/
theorem Inv.safe (N : Net E ms near) (h : Inv E ms near s) (hms2 : ∀ a b, E a b → b ∈ ms) (hconn : ∀ a b, a ∈ ms → b ∈ ms → ∃ n, Walk E a b n) {u : Int} (hu : u ∈ ms) (hb : s.bg u = true) (hl : (s.heard u).length = (near u).length) :
    ∀ a, a ∈ ms → s.bg a = true := by
  refine all_begun (E := E) (ms := ms) hms2 hconn (begun := fun a => s.bg a = true) (sent := fun a b => (a, b) ∈ s.all) (heard := fun a w => a ∈ ms ∧ w ∈ s.heard a) ?_ ?_ N.sym hu hb ?_
  · rintro a w ⟨ha, hw⟩
    exact ((h.hm a w ha).1 hw).1
  · intro a v hav
    obtain ⟨ha, ht⟩ := (h.am a v).1 hav
    obtain ⟨h1, _, h3⟩ := (h.tm a v ha).1 ht
    exact ⟨h1, fun w hw hne => ⟨ha, h3 w ((N.isE a w ha).2 hw) hne⟩⟩
  · intro w hw
    exact ⟨hu, subset_of_length_le (h.hn u hu) (fun x hx => h.heard_near N hu hx) (by omega) w ((N.isE u w hu).2 hw)⟩

/-- In the end. -/
theorem Inv.all_told (N : Net E ms near) (h : Inv E ms near s) (hms2 : ∀ a b, E a b → b ∈ ms) {rank : Int → Int → Nat} (hr : ∀ u v w, E u v → E u w → w ≠ v → rank w u < rank u v) (hbg : ∀ a, a ∈ ms → s.bg a = true) (ht : s.todo = []) :
    ∀ u v, E u v → (u, v) ∈ s.all := by
  refine all_sent (E := E) hr N.sym (sent := fun a b => (a, b) ∈ s.all) (heard := fun a w => a ∈ ms ∧ w ∈ s.heard a) ?_ ?_
  · intro a w hwa
    obtain ⟨hw, htw⟩ := (h.am w a).1 hwa
    have ha := hms2 _ _ ((N.isE w a hw).1 ((h.tm w a hw).1 htw).2.1)
    exact ⟨ha, (h.hm a w ha).2 ⟨hwa, by rw [ht]; simp⟩⟩
  · intro a v hav hall
    have ha := N.inMs _ _ hav
    exact (h.am a v).2 ⟨ha, (h.tm a v ha).2 ⟨hbg a ha, (N.isE a v ha).2 hav, fun w hw hne => (hall w ((N.isE a w ha).1 hw) hne).2⟩⟩

theorem Inv.all_done (N : Net E ms near) (h : Inv E ms near s) (hms2 : ∀ a b, E a b → b ∈ ms) {rank : Int → Int → Nat} (hr : ∀ u v w, E u v → E u w → w ≠ v → rank w u < rank u v) (hbg : ∀ a, a ∈ ms → s.bg a = true) (ht : s.todo = []) :
    ∀ u, u ∈ ms → (s.heard u).length = (near u).length := by
  intro u hu
  refine length_eq_of_same (h.hn u hu) (N.nearN u hu) fun x => ⟨fun hx => h.heard_near N hu hx, fun hx => ?_⟩
  refine (h.hm u x hu).2 ⟨h.all_told N hms2 hr hbg ht _ _ (N.sym _ _ ((N.isE u x hu).1 hx)), by rw [ht]; simp⟩
end
end Go.Proofs.Ytpnokpoikhpiiaa.WvSim
