/- The law's place; plain words of the loop of WaveTrees. -/
import Derived.Test.YtpnokpoikhpiiaaTrW
namespace Go.Proofs.Ytpnokpoikhpiiaa
open Go.RowKit Go.Maps Go.Proofs.YtpnokpoikhpiiaaW.PrintWords Go.Proofs.YtpnokpoikhpiiaaW.PrintLast Go.Proofs.YtpnokpoikhpiiaaW.PrintMore
open WvTree WvSim
set_option linter.unusedVariables false
set_option linter.unusedSimpArgs false
set_option maxRecDepth 100000 in
theorem place_calls (w : World) (A B : Option Addr) (c d e : Nat) (ms : List Int) (u : Int) (hr : (Kd.int .i64).C w A ms.length ms) (hu : u ∈ ms) :
    Calls Try.prog 9 #[.agg #[.slice A ms.length c, .slice B d e], .int .i64 u] w fun en w' => ∃ a : Nat, en = .returned (.int .i64 a) ∧ a < ms.length ∧ rd ms a = u ∧ Below w.heap.size w w' := by
  have HR := Lib.hid hr
  have HU := Lib.hid hu
  have hm : (ms.length : Int) ≤ 9223372036854775807 := by have : ms.length ≤ 9223372036854775807 := hr.2.1; omega
  clear hr hu
  go_enter Try.func9, Try.ntmps9
  go_upto_region 1 with (fail)
  obtain ⟨wz, hwz⟩ : ∃ wz, wz = w.alloc (.cells #[.slice A ms.length c, .slice B d e] 25) := ⟨_, rfl⟩
  rw [← hwz]
  have HBG := Aside0.mk (show wz.heap[w.heap.size]? = some (.cells #[.slice A ms.length c, .slice B d e] 25 (0, 0)) by rw [hwz]; exact heap_alloc_new _ _)
  have HBW := Aside0.mk (show Below w.heap.size w wz by rw [hwz]; exact below_alloc (Below.refl _ _) _)
  have HRZ := Lib.hid (Kd.C_below HR.out HBW.out)
  clear hwz
  obtain ⟨g0, g1⟩ := P_cells (x := (0, 0)) HBG.out
  go_wp2
  clear g0 g1
  go_loop [10] (fun v => ∃ k : Nat, k ≤ ms.length ∧ v = .int .i64 k ∧ Hid (u ∉ ms.take k)) (fun v => ms.length - (intOf v).toNat)
  case atStart => exact ⟨0, Nat.zero_le _, rfl, by unfold Hid; simp⟩
  case round =>
    obtain ⟨k, hk, rfl, hno⟩ := hrel
    by_cases hlt : k < ms.length
    · obtain ⟨ad, rfl, hc⟩ := C_cell HRZ.out hlt
      obtain ⟨x, hx⟩ : ∃ x, x = rd ms k := ⟨_, rfl⟩
      rw [← hx] at hc
      have k0 : (0 : Int) ≤ k := by omega
      have k1 : (k : Int) < ms.length := by omega
      have HLT := Lib.hid hlt
      have HX := Lib.hid hx
      by_cases e1 : x = u
      · have e1b : (x == u) = true := by simpa using e1
        have HE := Lib.hid e1
        clear e1 hlt hx
        go_wp2
        go_ret
        exact ⟨k, rfl, HLT.out, by rw [← HX.out]; exact HE.out, HBW.out⟩
      · have e1b : (x == u) = false := by simpa using e1
        have HN := Lib.hid (show u ∉ ms.take (k + 1) by
          rw [take_rd ms k hlt, List.mem_append, not_or]
          exact ⟨hno.out, by simp only [List.mem_singleton]; rw [← hx]; exact fun h => e1 h.symm⟩)
        clear e1 hlt hx
        go_wp2
        go_round
        case rel => exact ⟨k + 1, by have := HLT.out; omega, by go_num, HN⟩
        case measure => have := HLT.out; simp [intOf]; omega
    · exact absurd HU.out (by have := hno.out; rw [List.take_of_length_le (by omega)] at this; exact this)
/-- How many have begun. -/
def cnt (ms : List Int) (bg : Int → Bool) : Nat := (ms.filter bg).length
theorem cnt_le (ms : List Int) (bg : Int → Bool) : cnt ms bg ≤ ms.length := List.length_filter_le _ _
theorem cnt_all {ms : List Int} {bg : Int → Bool} (h : ∀ a, a ∈ ms → bg a = true) : cnt ms bg = ms.length := by
  unfold cnt
  rw [List.filter_eq_self.2 h]
theorem cnt_full {ms : List Int} {bg : Int → Bool} (h : cnt ms bg = ms.length) : ∀ a, a ∈ ms → bg a = true := by
  have : ms.filter bg = ms := List.filter_sublist.eq_of_length h
  exact List.filter_eq_self.1 this
theorem cnt_some {ms : List Int} {bg : Int → Bool} (h : cnt ms bg < ms.length) : ∃ i, i < ms.length ∧ bg (rd ms i) = false := by
  by_cases hx : ∃ i, i < ms.length ∧ bg (rd ms i) = false
  · exact hx
  · have : cnt ms bg = ms.length := cnt_all fun a ha => by
      obtain ⟨i, hi, rfl⟩ := List.getElem_of_mem ha
      by_cases hb : bg ms[i] = true
      · exact hb
      · exact absurd ⟨i, hi, by rw [rd_get ms i hi]; simpa using hb⟩ hx
    omega
theorem cnt_begin : ∀ {ms : List Int} {bg : Int → Bool} {u : Int}, ms.Nodup → u ∈ ms → bg u = false → cnt ms (upd bg u true) = cnt ms bg + 1
  | [], bg, u, _, hu, _ => by simp at hu
  | x :: ms, bg, u, hn, hu, hb => by
    have hn2 := List.nodup_cons.1 hn
    unfold cnt
    by_cases e : x = u
    · subst e
      rw [List.filter_cons_of_pos (by simp [upd]), List.filter_cons_of_neg (by simp [hb])]
      have : ms.filter (upd bg x true) = ms.filter bg := List.filter_congr fun a ha => by
        have hne : a ≠ x := by rintro rfl; exact hn2.1 ha
        simp [upd, hne]
      rw [this]
      rfl
    · have hu2 : u ∈ ms := by rcases List.mem_cons.1 hu with h | h; exact absurd h.symm e; exact h
      have ih := cnt_begin hn2.2 hu2 hb
      unfold cnt at ih
      by_cases hx : bg x = true
      · rw [List.filter_cons_of_pos (by simp [upd, e, hx]), List.filter_cons_of_pos hx]
        simp only [List.length_cons, ih]
      · rw [List.filter_cons_of_neg (by simp [upd, e, hx]), List.filter_cons_of_neg (by simp [hx])]
        exact ih
/-- The wave of the member at a place. -/
def ndOf (ms : List Int) (ls : List (Int × Int)) (s : St) (i : Nat) : Nd := ⟨near15 ls (rd ms i), s.heard (rd ms i), s.told (rd ms i), s.bg (rd ms i)⟩
section
variable {ms : List Int} {ls : List (Int × Int)} {s : St}
theorem Inv.fine (T : IsTree ms ls) (h : Inv (WvTree.Edge ls) ms (near15 ls) s) {u : Int} (hu : u ∈ ms) : Fine ⟨near15 ls u, s.heard u, s.told u, s.bg u⟩ :=
  ⟨(T.rises u).nodup, (T.rises u).bound, h.hn u hu, fun x hx => h.heard_near T.net hu hx, h.tn u hu, fun x hx => ((h.tm u x hu).1 hx).2.1⟩
theorem rd_inj (hm : ∀ j, j < ms.length → MOk ms j) {i j : Nat} (hi : i < ms.length) (hj : j < ms.length) (h : i ≠ j) : rd ms i ≠ rd ms j := by
  rcases Nat.lt_or_ge i j with hlt | hge
  · have := MOk.sorted hm i j hlt hj; omega
  · have := MOk.sorted hm j i (by omega) hi; omega
theorem ndOf_begin (T : IsTree ms ls) {a : Nat} (ha : a < ms.length) : ∀ i, i < ms.length → ndOf ms ls (begin_ (near15 ls) s (rd ms a)) i = updN (ndOf ms ls s) a { { ndOf ms ls s a with bg := true } with told := (ndOf ms ls s a).told ++ tells (ndOf ms ls s a).near (ndOf ms ls s a).heard (ndOf ms ls s a).told true } i := by
  intro i hi
  unfold updN
  by_cases e : i = a
  · subst e
    rw [if_pos rfl]
    simp [ndOf, begin_, upd]
  · rw [if_neg e]
    have := rd_inj T.mok hi ha e
    simp [ndOf, begin_, upd, this]
theorem ndOf_hear (T : IsTree ms ls) {a : Nat} (ha : a < ms.length) (x : Int) (t1 : List (Int × Int)) : ∀ i, i < ms.length → ndOf ms ls (hear_ (near15 ls) s x (rd ms a) t1) i = updN (ndOf ms ls s) a { { ndOf ms ls s a with heard := (ndOf ms ls s a).heard ++ [x] } with told := (ndOf ms ls s a).told ++ tells (ndOf ms ls s a).near ((ndOf ms ls s a).heard ++ [x]) (ndOf ms ls s a).told (ndOf ms ls s a).bg } i := by
  intro i hi
  unfold updN
  by_cases e : i = a
  · subst e
    rw [if_pos rfl]
    simp [ndOf, hear_, upd]
  · rw [if_neg e]
    have := rd_inj T.mok hi ha e
    simp [ndOf, hear_, upd, this]
def both (ls : List (Int × Int)) : List (Int × Int) := ls ++ ls.map fun p => (p.2, p.1)
theorem both_mem {u v : Int} : (u, v) ∈ both ls ↔ WvTree.Edge ls u v := by
  unfold both WvTree.Edge
  rw [List.mem_append, List.mem_map]
  constructor
  · rintro (h | ⟨⟨a, b⟩, h, e⟩)
    · exact .inl h
    · cases e; exact .inr h
  · rintro (h | h)
    · exact .inl h
    · exact .inr ⟨(v, u), h, rfl⟩
theorem all_len (T : IsTree ms ls) (h : Inv (WvTree.Edge ls) ms (near15 ls) s) : s.all.length ≤ 2 * ls.length := by
  have h1 : s.all.length ≤ (both ls).length := LC.length_le_of_subset h.an fun x hx => by
    obtain ⟨u, v⟩ := x
    obtain ⟨hu, ht⟩ := (h.am u v).1 hx
    exact both_mem.2 (T.near_mem.1 ((h.tm u v hu).1 ht).2.1)
  unfold both at h1
  simp at h1
  omega
theorem links_nodup (T : IsTree ms ls) : ls.Nodup := by
  have hA : ∀ i j, i < j → j < ls.length → Ahead (lkAt ls i) (lkAt ls j) := by
    intro i j hij hj
    induction j with
    | zero => omega
    | succ j ih =>
      have h1 := (T.lok (j + 1) hj).2.2.2 (by omega)
      simp only [Nat.add_sub_cancel] at h1
      by_cases e : i = j
      · subst e; exact h1
      · have h2 := ih (by omega) (by omega)
        unfold Ahead at *
        omega
  rw [List.nodup_iff_pairwise_ne, List.pairwise_iff_getElem]
  intro i j hi hj hij e
  have := hA i j hij hj
  rw [lkAt_get _ _ hi, lkAt_get _ _ hj, e] at this
  unfold Ahead at this
  omega
theorem all_len_end (T : IsTree ms ls) (h : Inv (WvTree.Edge ls) ms (near15 ls) s) (hbg : ∀ a, a ∈ ms → s.bg a = true) (ht : s.todo = []) : s.all.length = 2 * ls.length := by
  obtain ⟨_, rank, hr⟩ := T.laws
  have hsub := h.all_told T.net (fun a b h => (T.edge_in h).2) hr hbg ht
  have hn : (both ls).Nodup := by
    unfold both
    rw [List.nodup_append]
    refine ⟨links_nodup T, ?_, fun a ha b hb e => ?_⟩
    · refine List.pairwise_map.2 ((links_nodup T).imp fun hab e => hab ?_)
      injection e with e1 e2
      exact Prod.ext e2 e1
    · obtain ⟨k, hk, rfl⟩ := List.mem_map.1 hb
      subst e
      have h1 := (lok_mem T.lok _ ha).1
      have h2 := (lok_mem T.lok _ hk).1
      simp only at h1
      omega
  have h2 : (both ls).length ≤ s.all.length := LC.length_le_of_subset hn fun x hx => by
    obtain ⟨u, v⟩ := x
    exact hsub u v (both_mem.1 hx)
  have h1 := all_len T h
  unfold both at h2
  simp at h2
  omega
/-- None is done ahead of the last beginning. -/
theorem not_done (T : IsTree ms ls) (h : Inv (WvTree.Edge ls) ms (near15 ls) s) {a : Nat} (ha : a < ms.length) (hd : ((ndOf ms ls s a).bg && (ndOf ms ls s a).heard.length == (ndOf ms ls s a).near.length) = true) : cnt ms s.bg = ms.length := by
  rw [Bool.and_eq_true, beq_iff_eq] at hd
  exact cnt_all (h.safe T.net (fun a b h => (T.edge_in h).2) T.laws.1 (rd_mem ms a ha) hd.1 hd.2)
theorem end_done (T : IsTree ms ls) (h : Inv (WvTree.Edge ls) ms (near15 ls) s) (hbg : ∀ a, a ∈ ms → s.bg a = true) (ht : s.todo = []) {a : Nat} (ha : a < ms.length) : ((ndOf ms ls s a).bg && (ndOf ms ls s a).heard.length == (ndOf ms ls s a).near.length) = true := by
  obtain ⟨_, rank, hr⟩ := T.laws
  have h1 := h.all_done T.net (fun a b h => (T.edge_in h).2) hr hbg ht _ (rd_mem ms a ha)
  have h2 := hbg _ (rd_mem ms a ha)
  simp [ndOf, h1, h2]
end
end Go.Proofs.Ytpnokpoikhpiiaa
