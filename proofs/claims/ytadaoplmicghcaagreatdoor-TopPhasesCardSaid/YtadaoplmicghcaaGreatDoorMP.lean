/- Plain words of TopPhases' loop; its memory. -/
import Derived.Test.YtadaoplmicghcaaGreatDoorM3
import Derived.Test.YtadaoplmicghcaaGreatDoorM4
import Derived.Deep.Slices
namespace Go.Proofs.YtadaoplmicghcaaGreatDoor.Ph
open Go.RowKit Go.Proofs.YtadaoplmicghcaaGreatDoorW.PrintWords Go.Proofs.YtadaoplmicghcaaGreatDoorW.PrintLast Go.Proofs.YtadaoplmicghcaaGreatDoorW.PrintMore
open WvTree WvSim
set_option linter.unusedVariables false
set_option linter.unusedSimpArgs false
/-- Is a member's wave done? -/
def dn (ls : List (Int × Int)) (s : St) (u : Int) : Bool := s.bg u && (s.heard u).length == (near15 ls u).length
/-- The members that are not ready. -/
def rest (ms : List Int) (R : Int → Bool) : List Int := ms.filter fun u => !R u
/-- The desk while it asks, and when all are ready. -/
def ask (ms : List Int) (R : Int → Bool) : Cm.Dk := if rest ms R = [] then ⟨2, ms, ms, [2]⟩ else ⟨1, rest ms R, ms, [0]⟩
section
variable {ms : List Int} {R R' : Int → Bool} {u : Int}
theorem rest_mem : u ∈ rest ms R ↔ u ∈ ms ∧ R u = false := by simp [rest]
theorem rest_congr (h : ∀ u, u ∈ ms → R u = R' u) : rest ms R = rest ms R' := List.filter_congr fun u hu => by rw [h u hu]
theorem ask_congr (h : ∀ u, u ∈ ms → R u = R' u) : ask ms R = ask ms R' := by unfold ask; rw [rest_congr h]
theorem ask_begin (h : ms ≠ []) : Cm.Dk.new.begin_ ms = ask ms (fun _ => false) := by
  have e : rest ms (fun _ => false) = ms := by simp [rest]
  unfold ask
  rw [e, if_neg h]
  rfl
theorem ask_on (hu : u ∈ ms) (hR : R u = false) : ask ms R = ⟨1, rest ms R, ms, [0]⟩ := by
  unfold ask
  rw [if_neg]
  intro h
  have := rest_mem.2 ⟨hu, hR⟩
  rw [h] at this
  cases this
theorem rest_drop : Cm.drops u (rest ms R) = rest ms (upd R u true) := by
  unfold Cm.drops rest
  rw [List.filter_filter]
  refine List.filter_congr fun x _ => ?_
  by_cases e : x = u
  · subst e; simp [upd]
  · simp [upd, e]
theorem ask_ready (hu : u ∈ ms) (hR : R u = false) : (ask ms R).readyR 1 u = (0, ask ms (upd R u true)) := by
  rw [ask_on hu hR]
  have hm : u ∈ rest ms R := rest_mem.2 ⟨hu, hR⟩
  unfold Cm.Dk.readyR
  rw [if_pos ⟨rfl, rfl⟩]
  unfold Cm.Dk.sayR
  rw [if_neg (by simpa using hu), if_neg (by simpa using hm)]
  congr 1
  unfold Cm.Dk.say ask
  simp only [rest_drop]
  by_cases e : rest ms (upd R u true) = []
  · rw [if_neg (by simpa using e), if_pos trivial, if_pos e]
    rfl
  · rw [if_pos (by simpa using e), if_neg e]
    unfold Cm.Dk.drop
    simp only [rest_drop]
theorem ask_st (ms : List Int) (R : Int → Bool) : ((ask ms R).st = 1 ∧ ∃ u, u ∈ ms ∧ R u = false) ∨ ((ask ms R).st = 2 ∧ (∀ u, u ∈ ms → R u = true) ∧ ask ms R = ⟨2, ms, ms, [2]⟩) := by
  by_cases e : rest ms R = []
  · right
    refine ⟨by unfold ask; rw [if_pos e], fun u hu => ?_, by unfold ask; rw [if_pos e]⟩
    by_cases hR : R u = true
    · exact hR
    · have := rest_mem.2 ⟨hu, by simpa using hR⟩
      rw [e] at this
      cases this
  · left
    obtain ⟨u, hu⟩ := List.exists_mem_of_ne_nil _ e
    exact ⟨by unfold ask; rw [if_neg e], u, rest_mem.1 hu⟩
theorem ask_recover (h : (ask ms R).st = 1) : (ask ms R).recoverR = ⟨3, ms, ms, [3]⟩ := by
  rcases ask_st ms R with ⟨_, u, hu, hR⟩ | ⟨h2, _⟩
  · rw [ask_on hu hR]
    rfl
  · rw [h2] at h
    cases h
theorem ask_fine (h8 : ms.length ≤ 8) : Cm.Fine (ask ms R) := by
  have h1 : (rest ms R).length ≤ ms.length := List.length_filter_le _ _
  unfold ask
  split
  · exact ⟨by simp, by simp, by simp; omega, by simp; omega, by simp, by simp⟩
  · exact ⟨by simp, by simp, by simp; omega, by simp; omega, by simp, by simp⟩
end
/-- A desk that has decided, when the first ones have done it. -/
def fin (st : Int) (ms : List Int) (j : Nat) : Cm.Dk := if j < ms.length then ⟨st, ms.drop j, ms, [st]⟩ else ⟨0, [], [], [st]⟩
section
variable {st : Int} {ms : List Int} {j : Nat}
theorem fin_zero (h : ms ≠ []) : fin st ms 0 = ⟨st, ms, ms, [st]⟩ := by
  unfold fin
  rw [if_pos (List.length_pos_iff.2 h), List.drop_zero]
theorem fin_all : fin st ms ms.length = ⟨0, [], [], [st]⟩ := by
  unfold fin
  rw [if_neg (Nat.lt_irrefl _)]
theorem fin_at : (fin st ms j).at_ 1 = st := by
  unfold fin
  split <;> simp [Cm.Dk.at_, rd]
theorem fin_fine (h : st = 2 ∨ st = 3) (h8 : ms.length ≤ 8) : Cm.Fine (fin st ms j) := by
  unfold fin
  split
  · exact ⟨by simp only; omega, by simp only; omega, by simp only [List.length_drop]; omega, by simp only; omega, by simp, by simp⟩
  · exact ⟨by simp, by simp, by simp, by simp, by simp, by simp⟩
theorem fin_done (h : st = 2 ∨ st = 3) (hn : ms.Nodup) (hj : j < ms.length) : (fin st ms j).doneR 1 (rd ms j) = (0, fin st ms (j + 1)) := by
  have e : fin st ms j = ⟨st, ms.drop j, ms, [st]⟩ := by unfold fin; rw [if_pos hj]
  have hd : ms.drop j = rd ms j :: ms.drop (j + 1) := by rw [rd_get ms j hj, List.drop_eq_getElem_cons hj]
  rw [e]
  unfold Cm.Dk.doneR
  rw [if_pos ⟨h, rfl⟩]
  unfold Cm.Dk.sayR
  have hm : rd ms j ∈ ms.drop j := by rw [hd]; exact List.mem_cons_self
  rw [if_neg (by simpa using rd_mem ms j hj), if_neg (by simpa using hm)]
  congr 1
  have hdr : Cm.drops (rd ms j) (ms.drop j) = ms.drop (j + 1) := by
    rw [hd]
    have hn2 : (ms.drop j).Nodup := hn.sublist (List.drop_sublist _ _)
    rw [hd] at hn2
    have hn3 := (List.nodup_cons.1 hn2).1
    have h2 := Cm.drops_none hn3
    unfold Cm.drops at h2 ⊢
    rw [List.filter_cons_of_neg (by simp)]
    exact h2
  unfold Cm.Dk.say
  simp only [hdr]
  unfold fin
  by_cases hx : j + 1 < ms.length
  · have hne : ms.drop (j + 1) ≠ [] := fun hc => by
      have := congrArg List.length hc
      rw [List.length_drop] at this
      simp at this
      omega
    rw [if_pos hne, if_pos hx]
    unfold Cm.Dk.drop
    simp only [hdr]
  · have he : ms.drop (j + 1) = [] := List.drop_eq_nil_of_le (by omega)
    rw [if_neg (by simpa using he), if_neg (by omega), if_neg hx]
end
/-- What is left of quiet rounds: the choices that come, then the way to the next one that has not begun. -/
def Way (ms : List Int) (bg : Int → Bool) (L k q : Nat) : Prop :=
  (k < L ∧ 8 * (L - k) + 8 ≤ q) ∨ (L ≤ k ∧ ((∃ a, a ∈ ms ∧ bg a = false) → ∃ j, j ≤ q ∧ bg (rd ms ((k + j) % ms.length : Nat)) = false))
theorem reach {n k j0 : Nat} (h0 : j0 < n) : ∃ j, j < n ∧ (k + j) % n = j0 := by
  have hk : k % n < n := Nat.mod_lt _ (by omega)
  by_cases h : k % n ≤ j0
  · refine ⟨j0 - k % n, by omega, ?_⟩
    rw [Nat.add_mod, Nat.mod_eq_of_lt (show j0 - k % n < n by omega)]
    rw [show k % n + (j0 - k % n) = j0 by omega]
    exact Nat.mod_eq_of_lt h0
  · refine ⟨j0 + n - k % n, by omega, ?_⟩
    rw [Nat.add_mod, Nat.mod_eq_of_lt (show j0 + n - k % n < n by omega)]
    rw [show k % n + (j0 + n - k % n) = j0 + n by omega, Nat.add_mod_right]
    exact Nat.mod_eq_of_lt h0
theorem way_new {ms : List Int} (bg : Int → Bool) (L k : Nat) (h8 : ms.length ≤ 8) (hL : L ≤ 100) : ∃ q, q ≤ 900 ∧ Way ms bg L k q := by
  by_cases h : k < L
  · exact ⟨8 * (L - k) + 8, by omega, .inl ⟨h, Nat.le_refl _⟩⟩
  · refine ⟨7, by omega, .inr ⟨by omega, ?_⟩⟩
    rintro ⟨a, ha, hb⟩
    obtain ⟨i, hi, rfl⟩ := List.getElem_of_mem ha
    obtain ⟨j, hj, e⟩ := reach (k := k) hi
    exact ⟨j, by omega, by rw [e, rd_get ms i hi]; exact hb⟩
/-- A quiet round is one less of them. -/
theorem way_next {ms : List Int} {bg : Int → Bool} {L k q : Nat} (h8 : ms.length ≤ 8) (h : Way ms bg L k q) (hq : L ≤ k → bg (rd ms (k % ms.length : Nat)) = true) (hx : ∃ a, a ∈ ms ∧ bg a = false) : ∃ q2, q2 + 1 ≤ q ∧ Way ms bg L (k + 1) q2 := by
  rcases h with ⟨hk, hle⟩ | ⟨hk, hj⟩
  · by_cases h2 : k + 1 < L
    · exact ⟨q - 8, by omega, .inl ⟨h2, by omega⟩⟩
    · refine ⟨7, by omega, .inr ⟨by omega, fun _ => ?_⟩⟩
      obtain ⟨a, ha, hb⟩ := hx
      obtain ⟨i, hi, rfl⟩ := List.getElem_of_mem ha
      obtain ⟨j, hj, e⟩ := reach (k := k + 1) hi
      exact ⟨j, by omega, by rw [e, rd_get ms i hi]; exact hb⟩
  · obtain ⟨j, hjq, hb⟩ := hj hx
    have h0 : j ≠ 0 := by
      rintro rfl
      have := hq hk
      rw [Nat.add_zero] at hb
      rw [hb] at this
      cases this
    refine ⟨q - 1, by omega, .inr ⟨by omega, fun _ => ⟨j - 1, by omega, ?_⟩⟩⟩
    rw [show k + 1 + (j - 1) = k + j by omega]
    exact hb
section
variable {ms : List Int} {ls : List (Int × Int)} {s : St}
theorem dn_nd (a : Nat) : ((ndOf ms ls s a).bg && (ndOf ms ls s a).heard.length == (ndOf ms ls s a).near.length) = dn ls s (rd ms a) := rfl
/-- Who begins was not done; the others stay as they were. -/
theorem begin_dn (T : IsTree ms ls) {a i : Nat} (ha : a < ms.length) (hi : i < ms.length) (hne : i ≠ a) : dn ls (begin_ (near15 ls) s (rd ms a)) (rd ms i) = dn ls s (rd ms i) := by
  have := rd_inj T.mok hi ha hne
  simp [dn, begin_, upd, this]
theorem hear_dn (T : IsTree ms ls) {a i : Nat} (ha : a < ms.length) (hi : i < ms.length) (hne : i ≠ a) (x : Int) (t : List (Int × Int)) : dn ls (hear_ (near15 ls) s x (rd ms a) t) (rd ms i) = dn ls s (rd ms i) := by
  have := rd_inj T.mok hi ha hne
  simp [dn, hear_, upd, this]
theorem unbegun_dn {u : Int} (h : s.bg u = false) : dn ls s u = false := by simp [dn, h]
theorem hears_dn (T : IsTree ms ls) (h : Inv (WvTree.Edge ls) ms (near15 ls) s) {x u : Int} (hm : (x, u) ∈ s.todo) : dn ls s u = false := by
  obtain ⟨hu, hxn, hxh⟩ := h.hear_facts T.net hm
  by_cases hd : dn ls s u = true
  · unfold dn at hd
    rw [Bool.and_eq_true, beq_iff_eq] at hd
    have := LC.subset_of_length_le (h.hn u hu) (fun y hy => h.heard_near T.net hu hy) (by omega) x hxn
    exact absurd this hxh
  · simpa using hd
theorem dn_same {s2 : St} {a : Nat} (h : ∀ i, i < ms.length → i ≠ a → dn ls s2 (rd ms i) = dn ls s (rd ms i)) (ha : dn ls s2 (rd ms a) = dn ls s (rd ms a)) : ∀ u, u ∈ ms → dn ls s u = dn ls s2 u := by
  intro u hu
  obtain ⟨i, hi, rfl⟩ := List.getElem_of_mem hu
  rw [← rd_get ms i hi]
  by_cases e : i = a
  · subst e; exact ha.symm
  · exact (h i hi e).symm
theorem dn_upd (T : IsTree ms ls) {s2 : St} {a : Nat} (hal : a < ms.length) (h : ∀ i, i < ms.length → i ≠ a → dn ls s2 (rd ms i) = dn ls s (rd ms i)) (ha : dn ls s2 (rd ms a) = true) : ∀ u, u ∈ ms → upd (dn ls s) (rd ms a) true u = dn ls s2 u := by
  intro u hu
  obtain ⟨i, hi, rfl⟩ := List.getElem_of_mem hu
  rw [← rd_get ms i hi]
  by_cases e : i = a
  · subst e; rw [upd_same, ha]
  · rw [upd_other _ _ (rd_inj T.mok hi hal e), h i hi e]
/-- Are the first ones done? -/
def allR (ms : List Int) (ls : List (Int × Int)) (s : St) : Nat → Bool
  | 0 => true
  | z + 1 => allR ms ls s z && dn ls s (rd ms z)
theorem allR_true : ∀ {z : Nat}, (∀ i, i < z → dn ls s (rd ms i) = true) → allR ms ls s z = true
  | 0, _ => rfl
  | z + 1, h => by unfold allR; rw [allR_true (fun i hi => h i (by omega)), h z (by omega)]; rfl
theorem allR_false : ∀ {z i : Nat}, i < z → dn ls s (rd ms i) = false → allR ms ls s z = false
  | 0, _, h, _ => by omega
  | z + 1, i, h, hd => by
    unfold allR
    by_cases e : i = z
    · subst e; rw [hd, Bool.and_false]
    · rw [allR_false (show i < z by omega) hd, Bool.false_and]
/-- While one is not done and nothing is to be heard, one has not begun. -/
theorem quiet_some (T : IsTree ms ls) (h : Inv (WvTree.Edge ls) ms (near15 ls) s) (ht : s.todo = []) (hx : ∃ u, u ∈ ms ∧ dn ls s u = false) : ∃ a, a ∈ ms ∧ s.bg a = false := by
  obtain ⟨u, hu, hd⟩ := hx
  by_cases hb : ∃ a, a ∈ ms ∧ s.bg a = false
  · exact hb
  · have hbg : ∀ a, a ∈ ms → s.bg a = true := fun a ha => by
      by_cases hc : s.bg a = true
      · exact hc
      · exact absurd ⟨a, ha, by simpa using hc⟩ hb
    obtain ⟨i, hi, rfl⟩ := List.getElem_of_mem hu
    have := end_done T h hbg ht hi
    rw [dn_nd, rd_get ms i hi, hd] at this
    cases this
end
end Go.Proofs.YtadaoplmicghcaaGreatDoor.Ph
namespace Go.Proofs.YtadaoplmicghcaaGreatDoor.Ph
open Go.RowKit Go.Proofs.YtadaoplmicghcaaGreatDoorW.PrintWords Go.Proofs.YtadaoplmicghcaaGreatDoorW.PrintLast Go.Proofs.YtadaoplmicghcaaGreatDoorW.PrintMore
open WvTree WvSim
set_option linter.unusedVariables false
set_option linter.unusedSimpArgs false
theorem infoB : (Tryz.prog.info? 4).map (fun i => (i.zero, i.size, i.bytes)) = some (some (.bool false), 1, 1) := by kernel_rfl
theorem infoM : (Tryz.prog.info? 51).map (fun i => (i.zero, i.size, i.bytes)) = some (some (.agg #[.int .i64 0, .int .i64 0]), 2, 16) := by kernel_rfl
theorem made_bools (n : Nat) : madeCells #[Value.bool false] n = ((List.replicate n false).map Value.bool).toArray := by
  apply Array.ext
  · simp [madeCells]
  · intro i h1 h2
    simp [madeCells, Nat.mod_one]
/-- Where the parts lie: the desk from dlo on, the two rows of truths behind it (ready's at rb, begun's at bb), what is new behind n5. -/
structure Lay (w5 : World) (base dlo dhi bb rb : Nat) : Prop where
  l1 : base ≤ dlo
  l2 : dlo ≤ dhi
  l3 : dhi ≤ bb
  l4 : dhi ≤ rb
  l5 : bb < w5.heap.size
  l6 : rb < w5.heap.size
  ne : bb ≠ rb
structure Pm (w w5 wr : World) (dlo dhi bb rb pd : Nat) (ws : List WI) (nd : Nat → Nd) (bs rs : List Bool) (K : Nat → Prop) (D : Cm.Dk) (vT vN : Value) (todo : List (Int × Int)) (T : List Int) : Prop where
  old : ∀ k, k < dlo → ¬ InW ws k → wr.heap[k]? = w5.heap[k]?
  size : w5.heap.size ≤ wr.heap.size
  below : Below w.heap.size w wr
  wv : Waves wr w.heap.size ws nd
  wt : ∀ k, InW ws k → k < dlo
  lay : Lay w5 w.heap.size dlo dhi bb rb
  dk : Cm.IsDesk wr dlo K D pd
  kd : ∀ k, K k → k < dhi ∨ w5.heap.size ≤ k
  bg : wr.heap[bb]? = some (.cells (bs.map Value.bool).toArray 4 (0, 0))
  rg : wr.heap[rb]? = some (.cells (rs.map Value.bool).toArray 4 (0, 0))
  rt : kLk.R 51 wr w5.heap.size (fun _ => True) vT todo
  rn : (Kd.int .i64).R 3 wr w5.heap.size (fun _ => True) vN T
  sNT : ∀ k, vN.ownBlock = some k → vT.ownBlock ≠ some k
  sTK : ∀ k, vT.ownBlock = some k → ¬ K k
  sNK : ∀ k, vN.ownBlock = some k → ¬ K k
theorem lk_free {w w1 : World} {base : Nat} {ok ok' : Nat → Prop} {x : Int × Int} {cs : List Value} (h : kLk.M w base ok x cs) : kLk.M w1 base ok' x cs := by
  obtain rfl := kLk_open (Kd.K_of_M kLk h)
  exact kLk_mkM _ _ _ x
theorem int_free {w w1 : World} {base : Nat} {ok ok' : Nat → Prop} {x : Int} {cs : List Value} (h : (Kd.int .i64).M w base ok x cs) : (Kd.int .i64).M w1 base ok' x cs := h
theorem desk_low {w : World} {lo p : Nat} {K : Nat → Prop} {D : Cm.Dk} (h : Cm.IsDesk w lo K D p) {k : Nat} (hk : k < lo) : ¬ K k := fun h2 => by have := (h.kb k h2).1; omega
section
variable {w w5 wr w1 : World} {dlo dhi bb rb pd : Nat} {ws : List WI} {nd : Nat → Nd} {bs rs : List Bool} {K K' : Nat → Prop} {D D' : Cm.Dk} {vT vN : Value} {todo : List (Int × Int)} {T : List Int}
theorem Pm.ge (h : Pm w w5 wr dlo dhi bb rb pd ws nd bs rs K D vT vN todo T) : w.heap.size ≤ w5.heap.size := by have := h.lay.l1; have := h.lay.l2; have := h.lay.l3; have := h.lay.l5; omega
theorem Pm.step (h : Pm w w5 wr dlo dhi bb rb pd ws nd bs rs K D vT vN todo T) (hb : Below wr.heap.size wr w1) : Pm w w5 w1 dlo dhi bb rb pd ws nd bs rs K D vT vN todo T :=
  ⟨fun k hk hn => (hb.block k (by have := h.lay.l2; have := h.lay.l3; have := h.lay.l5; have := h.size; omega)).trans (h.old k hk hn), Nat.le_trans h.size hb.size, below_step h.below hb, h.wv.below hb, h.wt, h.lay, h.dk.stay hb, h.kd, (hb.block _ (blk_lt h.bg)).trans h.bg, (hb.block _ (blk_lt h.rg)).trans h.rg, Kd.R_below h.rt hb, Kd.R_below h.rn hb, h.sNT, h.sTK, h.sNK⟩
theorem Pm.drew (h : Pm w w5 wr dlo dhi bb rb pd ws nd bs rs K D vT vN todo T) (n : Nat) : Pm w w5 (wr.drewN n) dlo dhi bb rb pd ws nd bs rs K D vT vN todo T := h.step (pw_below_drewN (Below.refl _ _) _)
theorem Pm.quit (h : Pm w w5 wr dlo dhi bb rb pd ws nd bs rs K D vT vN todo T) : Pm w w5 wr dlo dhi bb rb pd ws nd bs rs K D vT (.slice none 0 0) todo [] :=
  ⟨h.old, h.size, h.below, h.wv, h.wt, h.lay, h.dk, h.kd, h.bg, h.rg, h.rt, Kd.R_nil _ _ _ _ _, fun k hk => by simp [Value.ownBlock] at hk, h.sTK, fun k hk => by simp [Value.ownBlock] at hk⟩
theorem Pm.waves (h : Pm w w5 wr dlo dhi bb rb pd ws nd bs rs K D vT vN todo T) {nd' : Nat → Nd} (he : ∀ i, i < ws.length → nd' i = nd i) : Pm w w5 wr dlo dhi bb rb pd ws nd' bs rs K D vT vN todo T :=
  ⟨h.old, h.size, h.below, h.wv.ext he, h.wt, h.lay, h.dk, h.kd, h.bg, h.rg, h.rt, h.rn, h.sNT, h.sTK, h.sNK⟩
/-- Behind a call of Begin or Hear. -/
theorem Pm.says (h : Pm w w5 wr dlo dhi bb rb pd ws nd bs rs K D vT vN todo T) {i : Nat} (hi : i < ws.length) {x : Nd} {v : Value} {l : List Int} (hK : Kept wr w1 (In (wAt ws i).lo (wAt ws i).hi)) (hB : Below (wAt ws i).lo wr w1) (hx : IsWave w1 (wAt ws i).lo (wAt ws i).hi x (wAt ws i).p) (hv : (Kd.int .i64).R 3 w1 wr.heap.size (fun _ => True) v l) :
    Pm w w5 w1 dlo dhi bb rb pd ws (updN nd i x) bs rs K D vT v todo l := by
  have hin : ∀ k, In (wAt ws i).lo (wAt ws i).hi k → k < dlo := fun k hk => h.wt k ⟨i, hi, hk⟩
  have hnew : ∀ k, v.ownBlock = some k → wr.heap.size ≤ k := fun k hk => (R_own_lt hv hk).1
  have hl := h.lay
  have hl1 := hl.l2; have hl2 := hl.l3; have hl3 := hl.l4; have hl4 := hl.l5; have hl5 := hl.l6
  have hs := h.size
  have far : ∀ k, dlo ≤ k → k < wr.heap.size → w1.heap[k]? = wr.heap[k]? := fun k h1 h2 => hK.2 k h2 (fun hc => by have := hin k hc; omega)
  refine ⟨fun k hk hn => (hK.2 k (by omega) (fun hc => hn ⟨i, hi, hc⟩)).trans (h.old k hk hn), Nat.le_trans h.size hK.1, h.below.trans (hB.mono (h.wv.lo i hi)), h.wv.one hi hx hK, h.wt, h.lay, h.dk.move (fun k hk => far k (h.dk.kb k hk).1 (h.dk.kb k hk).2) hK.1, h.kd, (far _ (by omega) (blk_lt h.bg)).trans h.bg, (far _ (by omega) (blk_lt h.rg)).trans h.rg, ?_, Kd.R_lower hv h.size, ?_, h.sTK, ?_⟩
  · exact R_own_move lk_free h.rt fun k hk => far k (by have := (R_own_lt h.rt hk).1; omega) (R_own_lt h.rt hk).2
  · intro k hk hc
    have := hnew k hk
    have := (R_own_lt h.rt hc).2
    omega
  · intro k hk hc
    have := hnew k hk
    have := (h.dk.kb k hc).2
    omega
/-- One more has begun; one more is ready. -/
theorem Pm.begun (h : Pm w w5 wr dlo dhi bb rb pd ws nd bs rs K D vT vN todo T) (i : Nat) : Pm w w5 (wr.setCell ⟨bb, i, none⟩ (.bool true)) dlo dhi bb rb pd ws nd (bs.set i true) rs K D vT vN todo T := by
  have hh : ∀ k, k ≠ bb → (wr.setCell ⟨bb, i, none⟩ (.bool true)).heap[k]? = wr.heap[k]? := fun k hk => Below.heap_setCell _ _ _ _ hk
  have hs : (wr.setCell ⟨bb, i, none⟩ (.bool true)).heap.size = wr.heap.size := by simp [World.setCell]
  have hl := h.lay
  have hl0 := hl.l1; have hl1 := hl.l2; have hl2 := hl.l3; have hl3 := hl.l4; have hl4 := hl.l5; have hl5 := hl.l6
  refine ⟨fun k hk hn => (hh k (by omega)).trans (h.old k hk hn), by rw [hs]; exact h.size, below_set h.below (by omega), h.wv.move (fun k hk => hh k (by have := h.wt k hk; omega)) (by rw [hs]; exact Nat.le_refl _), h.wt, h.lay, h.dk.move (fun k hk => hh k (by have := h.kd k hk; omega)) (by rw [hs]; exact Nat.le_refl _), h.kd, ?_, (hh _ (Ne.symm hl.ne)).trans h.rg, ?_, ?_, h.sNT, h.sTK, h.sNK⟩
  · rw [blk_set h.bg]
    simp
  · exact R_own_move lk_free h.rt fun k hk => hh k (by have := (R_own_lt h.rt hk).1; omega)
  · exact R_own_move int_free h.rn fun k hk => hh k (by have := (R_own_lt h.rn hk).1; omega)
theorem Pm.ready (h : Pm w w5 wr dlo dhi bb rb pd ws nd bs rs K D vT vN todo T) (i : Nat) : Pm w w5 (wr.setCell ⟨rb, i, none⟩ (.bool true)) dlo dhi bb rb pd ws nd bs (rs.set i true) K D vT vN todo T := by
  have hh : ∀ k, k ≠ rb → (wr.setCell ⟨rb, i, none⟩ (.bool true)).heap[k]? = wr.heap[k]? := fun k hk => Below.heap_setCell _ _ _ _ hk
  have hs : (wr.setCell ⟨rb, i, none⟩ (.bool true)).heap.size = wr.heap.size := by simp [World.setCell]
  have hl := h.lay
  have hl0 := hl.l1; have hl1 := hl.l2; have hl2 := hl.l3; have hl3 := hl.l4; have hl4 := hl.l5; have hl5 := hl.l6
  refine ⟨fun k hk hn => (hh k (by omega)).trans (h.old k hk hn), by rw [hs]; exact h.size, below_set h.below (by omega), h.wv.move (fun k hk => hh k (by have := h.wt k hk; omega)) (by rw [hs]; exact Nat.le_refl _), h.wt, h.lay, h.dk.move (fun k hk => hh k (by have := h.kd k hk; omega)) (by rw [hs]; exact Nat.le_refl _), h.kd, (hh _ hl.ne).trans h.bg, ?_, ?_, ?_, h.sNT, h.sTK, h.sNK⟩
  · rw [blk_set h.rg]
    simp
  · exact R_own_move lk_free h.rt fun k hk => hh k (by have := (R_own_lt h.rt hk).1; omega)
  · exact R_own_move int_free h.rn fun k hk => hh k (by have := (R_own_lt h.rn hk).1; omega)
/-- Behind a call of the desk. -/
theorem Pm.desk (h : Pm w w5 wr dlo dhi bb rb pd ws nd bs rs K D vT vN todo T) (hd : Cm.IsDesk w1 dlo K' D' pd) (hm : Cm.Moved wr w1 dlo K K') : Pm w w5 w1 dlo dhi bb rb pd ws nd bs rs K' D' vT vN todo T := by
  have hl := h.lay
  have hl0 := hl.l1; have hl1 := hl.l2; have hl2 := hl.l3; have hl3 := hl.l4; have hl4 := hl.l5; have hl5 := hl.l6
  have hs := h.size
  have hk2 := hm.kept.2
  refine ⟨fun k hk hn => (hk2 k (by omega) (desk_low h.dk hk)).trans (h.old k hk hn), Nat.le_trans h.size hm.kept.1, h.below.trans (hm.below.mono hl0), h.wv.move (fun k hk => hk2 k (h.wv.lt hk).2 (desk_low h.dk (h.wt k hk))) hm.kept.1, h.wt, h.lay, hd, ?_, (hk2 _ (blk_lt h.bg) (fun hc => by have := h.kd _ hc; omega)).trans h.bg, (hk2 _ (blk_lt h.rg) (fun hc => by have := h.kd _ hc; omega)).trans h.rg, ?_, ?_, h.sNT, ?_, ?_⟩
  · intro k hk
    rcases hm.new k hk with hk | hk
    · exact h.kd k hk
    · right; omega
  · exact R_own_move lk_free h.rt fun k hk => hk2 k (R_own_lt h.rt hk).2 (h.sTK k hk)
  · exact R_own_move int_free h.rn fun k hk => hk2 k (R_own_lt h.rn hk).2 (h.sNK k hk)
  · intro k hk hc
    rcases hm.new k hc with hc | hc
    · exact h.sTK k hk hc
    · have := (R_own_lt h.rt hk).2; omega
  · intro k hk hc
    rcases hm.new k hc with hc | hc
    · exact h.sNK k hk hc
    · have := (R_own_lt h.rn hk).2; omega
/-- Behind an append to what is to be heard. -/
theorem Pm.appT (h : Pm w w5 wr dlo dhi bb rb pd ws nd bs rs K D vT vN todo T) {v1 : Value} {t1 : List (Int × Int)} (ho : kLk.R 51 w1 w5.heap.size (fun _ => True) v1 t1) (hb : Below w5.heap.size wr w1) (hg : wr.grownBy w1 vT.ownBlock) (hat : v1.ownBlock = vT.ownBlock ∨ ∃ b, v1.ownBlock = some b ∧ wr.heap.size ≤ b) : Pm w w5 w1 dlo dhi bb rb pd ws nd bs rs K D v1 vN t1 T := by
  have hl := h.lay
  have hl0 := hl.l1; have hl1 := hl.l2; have hl2 := hl.l3; have hl3 := hl.l4; have hl4 := hl.l5; have hl5 := hl.l6
  refine ⟨fun k hk hn => (hb.block k (by omega)).trans (h.old k hk hn), Nat.le_trans h.size hb.size, h.below.trans (hb.mono h.ge), h.wv.move (fun k hk => hb.block k (by have := h.wt k hk; omega)) hb.size, h.wt, h.lay, h.dk.move (fun k hk => hg.block k (h.dk.kb k hk).2 (fun e => h.sTK k e.symm hk)) hb.size, h.kd, (hb.block _ hl4).trans h.bg, (hb.block _ hl5).trans h.rg, ho, ?_, ?_, ?_, h.sNK⟩
  · exact R_own_move int_free h.rn fun k hk => hg.block k (R_own_lt h.rn hk).2 (fun e => h.sNT k hk e.symm)
  · intro k hk hc
    rcases hat with e | ⟨b, e, hb'⟩
    · rw [e] at hc; exact h.sNT k hk hc
    · rw [e] at hc; cases hc; have := (R_own_lt h.rn hk).2; omega
  · intro k hk hc
    rcases hat with e | ⟨b, e, hb'⟩
    · rw [e] at hk; exact h.sTK k hk hc
    · rw [e] at hk; cases hk; have := (h.dk.kb _ hc).2; omega
/-- What is to be heard lies in new memory. -/
theorem Pm.fresh (h : Pm w w5 wr dlo dhi bb rb pd ws nd bs rs K D vT (.slice none 0 0) todo []) {v1 : Value} {t1 : List (Int × Int)} (ho : kLk.R 51 w1 wr.heap.size (fun _ => True) v1 t1) (hb : Below wr.heap.size wr w1) : Pm w w5 w1 dlo dhi bb rb pd ws nd bs rs K D v1 (.slice none 0 0) t1 [] := by
  have h1 := h.step hb
  refine ⟨h1.old, h1.size, h1.below, h1.wv, h1.wt, h1.lay, h1.dk, h1.kd, h1.bg, h1.rg, Kd.R_lower ho h.size, h1.rn, fun k hk => by simp [Value.ownBlock] at hk, ?_, h1.sNK⟩
  intro k hk hc
  have := (R_own_lt ho hk).1
  have := (h.dk.kb k hc).2
  omega
end
/-- l[:j], l[j:] of words. -/
theorem Msg_front {w : World} {A : Option Addr} {c j : Nat} {l : List (Int × Int)} (h : kLk.C w A l.length l) (h2 : j ≤ l.length) (hc : l.length ≤ c) :
    ∃ A', (∀ W : World, (Instr.slice 45 (.slice A l.length c) none (some (.int .i64 j)) none).run Tryz.prog W = .ok (.slice A' (l.take j).length c) W) ∧ kLk.C w A' (l.take j).length (l.take j) := by
  have hl : (l.take j).length = j := by rw [List.length_take]; omega
  have hC := Kd.C_mid (k := kLk) h (Nat.zero_le j) h2 hc
  rw [List.drop_zero] at hC
  refine ⟨if c = 0 then A else A.map (·.add (0 * kLk.sz)), fun W => ?_, hC⟩
  obtain ⟨i0, hi0, hz0, hz1, hz2⟩ := info_parts infoM
  have ht := Tryz.underlying45
  have hel : Tryz.prog.elem 45 = 51 := by simp [Program.elem, ht]
  have hu : Tryz.prog.underlying 45 = some (.slice (Tryz.prog.elem 45)) := by rw [hel]; exact ht
  rw [run_slice_h (w := W) 45 A l.length c hu .i64 (j : Int) (by omega) (by omega), hel, hl]
  have e1 : kLk.sz = 2 := rfl
  simp [sizeOf, typeInfo, hi0, hz1, sliced, Result.andThen, e1]
theorem Msg_back {w : World} {A : Option Addr} {c j : Nat} {l : List (Int × Int)} (h : kLk.C w A l.length l) (h2 : j ≤ l.length) (hc : l.length ≤ c) :
    ∃ A', (∀ W : World, (Instr.slice 45 (.slice A l.length c) (some (.int .i64 j)) none none).run Tryz.prog W = .ok (.slice A' (l.drop j).length (c - j)) W) ∧ kLk.C w A' (l.drop j).length (l.drop j) := by
  have hl : (l.drop j).length = l.length - j := List.length_drop
  have hC := Kd.C_mid (k := kLk) h h2 (Nat.le_refl _) hc
  rw [List.take_length] at hC
  refine ⟨if c = j then A else A.map (·.add (j * kLk.sz)), fun W => ?_, hC⟩
  obtain ⟨i0, hi0, hz0, hz1, hz2⟩ := info_parts infoM
  have ht := Tryz.underlying45
  have hel : Tryz.prog.elem 45 = 51 := by simp [Program.elem, ht]
  have hu : Tryz.prog.underlying 45 = some (.slice (Tryz.prog.elem 45)) := by rw [hel]; exact ht
  rw [run_slice_l (w := W) 45 A l.length c hu .i64 (j : Int) (by omega) (by omega), hel, hl]
  have e1 : kLk.sz = 2 := rfl
  simp [sizeOf, typeInfo, hi0, hz1, sliced, Result.andThen, e1]
end Go.Proofs.YtadaoplmicghcaaGreatDoor.Ph
