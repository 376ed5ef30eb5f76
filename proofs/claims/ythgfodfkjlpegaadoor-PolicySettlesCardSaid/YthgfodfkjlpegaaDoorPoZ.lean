/- What Choose and Settle answer, in plain words; slices.Clone at lists of loads. -/
import Derived.Test.YthgfodfkjlpegaaDoorPoC
import Derived.Test.YthgfodfkjlpegaaDoorPoK
namespace Go.Proofs.YthgfodfkjlpegaaDoor
open Go.RowKit Go.Proofs.YthgfodfkjlpegaaDoorW.PrintWords Go.Proofs.YthgfodfkjlpegaaDoorW.PrintLast Go.Proofs.YthgfodfkjlpegaaDoorW.PrintMore
set_option linter.unusedVariables false
set_option linter.unusedSimpArgs false
structure Good (nodes : List Int) (l : List Ld) : Prop where
  srt : nodes.Pairwise (· < ·)
  ne : nodes ≠ []
  fine : LFine nodes l
  nod : (l.map Ld.sub).Nodup
theorem Good.nodup {nodes : List Int} {l : List Ld} (h : Good nodes l) : nodes.Nodup := h.srt.imp (fun hab => by omega)
theorem ldErrs_ok {nodes : List Int} {l : List Ld} : ∀ n, ldErrs nodes l n = .ok ↔ ∀ k < n, ldErr nodes l k = .ok
  | 0 => by simp [ldErrs]
  | n + 1 => by
    have ih := ldErrs_ok (nodes := nodes) (l := l) n
    constructor
    · intro h
      have h1 : ldErrs nodes l n = .ok := by
        cases he : ldErrs nodes l n with
        | ok => rfl
        | num c => simp [ldErrs, he] at h
        | at_ a b c => simp [ldErrs, he] at h
      rw [ldErrs_step h1] at h
      intro k hk
      rcases Nat.lt_or_ge k n with h2 | h2
      · exact ih.1 h1 k h2
      · obtain rfl : k = n := by omega
        exact h
    · intro h
      rw [ldErrs_step (ih.2 fun k hk => h k (by omega))]
      exact h n (by omega)
theorem ldErr_ok {nodes : List Int} {l : List Ld} {k : Nat} : ldErr nodes l k = .ok ↔ (ldAt l k).node ∈ nodes ∧ 0 ≤ (ldAt l k).weight ∧ (ldAt l k).weight ≤ 1000000 ∧ (ldAt l k).sub ∉ (l.take k).map Ld.sub := by
  unfold ldErr
  by_cases h1 : (ldAt l k).node ∈ nodes
  · rw [if_neg (by simpa using h1)]
    by_cases h2 : (ldAt l k).weight < 0 ∨ 1000000 < (ldAt l k).weight
    · rw [if_pos h2]
      simp only [reduceCtorEq, false_iff]
      rintro ⟨_, h3, h4, _⟩
      omega
    · rw [if_neg h2]
      by_cases h3 : (ldAt l k).sub ∈ (l.take k).map Ld.sub
      · rw [if_pos h3]
        simp only [reduceCtorEq, false_iff]
        rintro ⟨_, _, _, h4⟩
        exact h4 h3
      · rw [if_neg h3]
        simp only [true_iff]
        exact ⟨h1, by omega, by omega, h3⟩
  · rw [if_pos h1]
    simp only [reduceCtorEq, false_iff]
    rintro ⟨h2, _⟩
    exact h1 h2
theorem mem_ldAt {l : List Ld} {x : Ld} (h : x ∈ l) : ∃ k, k < l.length ∧ ldAt l k = x := by
  obtain ⟨k, hk, rfl⟩ := List.getElem_of_mem h
  exact ⟨k, hk, ldAt_get l k hk⟩
theorem nodup_takes {xs : List Int} : (∀ k (h : k < xs.length), xs[k] ∉ xs.take k) ↔ xs.Nodup := by
  constructor
  · intro h
    have h2 : ∀ n, n ≤ xs.length → (xs.take n).Nodup := by
      intro n
      induction n with
      | zero => simp
      | succ n ih =>
        intro hn
        rw [List.take_succ_eq_append_getElem (by omega), List.nodup_append]
        refine ⟨ih (by omega), by simp, fun a ha b hb => ?_⟩
        simp at hb
        subst hb
        intro e
        subst e
        exact h n (by omega) ha
    have := h2 xs.length (Nat.le_refl _)
    rwa [List.take_length] at this
  · intro h k hk hm
    obtain ⟨j, hj, e⟩ := List.getElem_of_mem hm
    have hj2 : j < k := by have := List.length_take_le k xs; omega
    rw [List.getElem_take] at e
    have := (List.getElem_inj h).1 e
    omega
theorem chk_good {nodes : List Int} {l : List Ld} : chk nodes l = .ok ↔ Good nodes l := by
  constructor
  · intro h
    by_cases h1 : nodes.Pairwise (· < ·)
    · by_cases h2 : nodes = []
      · rw [h2, chk_empty] at h; cases h
      · by_cases h3 : 512 < l.length
        · rw [chk_long h1 h2 h3] at h; cases h
        · rw [chk_loads h1 h2 h3, ldErrs_ok] at h
          refine ⟨h1, h2, ⟨?_, ?_, ?_, by omega⟩, ?_⟩
          · intro x hx
            obtain ⟨k, hk, rfl⟩ := mem_ldAt hx
            exact (ldErr_ok.1 (h k hk)).1
          · intro x hx
            obtain ⟨k, hk, rfl⟩ := mem_ldAt hx
            exact (ldErr_ok.1 (h k hk)).2.1
          · intro x hx
            obtain ⟨k, hk, rfl⟩ := mem_ldAt hx
            exact (ldErr_ok.1 (h k hk)).2.2.1
          · refine nodup_takes.1 fun k hk => ?_
            rw [List.length_map] at hk
            have := (ldErr_ok.1 (h k hk)).2.2.2
            rw [List.getElem_map, ← List.map_take, ← ldAt_get l k hk]
            exact this
    · rw [chk_unsorted h1] at h; cases h
  · intro h
    rw [chk_loads h.srt h.ne (by have := h.fine.len; omega), ldErrs_ok]
    intro k hk
    refine ldErr_ok.2 ⟨h.fine.at_ _ (ldAt_mem l k hk), h.fine.w0 _ (ldAt_mem l k hk), h.fine.w1 _ (ldAt_mem l k hk), ?_⟩
    have := nodup_takes.2 h.nod k (by rw [List.length_map]; exact hk)
    rw [List.getElem_map, ← List.map_take, ← ldAt_get l k hk] at this
    exact this
/-- The greatest and the least number of a list. -/
def hiOf : List Int → Int
  | [] => 0
  | [x] => x
  | x :: y :: l => max x (hiOf (y :: l))
def loOf : List Int → Int
  | [] => 0
  | [x] => x
  | x :: y :: l => min x (loOf (y :: l))
theorem hiOf_is : ∀ {S : List Int}, S ≠ [] → IsMax S (hiOf S)
  | [], h => absurd rfl h
  | [x], _ => ⟨by simp [hiOf], by simp [hiOf]⟩
  | x :: y :: l, _ => by
    have ih := hiOf_is (S := y :: l) (by simp)
    show IsMax _ (max x (hiOf (y :: l)))
    refine ⟨?_, fun z hz => ?_⟩
    · rcases Int.le_total x (hiOf (y :: l)) with h | h
      · rw [Int.max_eq_right h]; exact List.mem_cons_of_mem _ ih.1
      · rw [Int.max_eq_left h]; exact List.mem_cons_self
    · rcases List.mem_cons.1 hz with rfl | hz
      · omega
      · have := ih.2 z hz; omega
theorem loOf_is : ∀ {S : List Int}, S ≠ [] → IsMin S (loOf S)
  | [], h => absurd rfl h
  | [x], _ => ⟨by simp [loOf], by simp [loOf]⟩
  | x :: y :: l, _ => by
    have ih := loOf_is (S := y :: l) (by simp)
    show IsMin _ (min x (loOf (y :: l)))
    refine ⟨?_, fun z hz => ?_⟩
    · rcases Int.le_total x (loOf (y :: l)) with h | h
      · rw [Int.min_eq_left h]; exact List.mem_cons_self
      · rw [Int.min_eq_right h]; exact List.mem_cons_of_mem _ ih.1
    · rcases List.mem_cons.1 hz with rfl | hz
      · omega
      · have := ih.2 z hz; omega
theorem max_one {S : List Int} {a b : Int} (h : IsMax S a) (k : IsMax S b) : a = b := by have := h.2 b k.1; have := k.2 a h.1; omega
theorem min_one {S : List Int} {a b : Int} (h : IsMin S a) (k : IsMin S b) : a = b := by have := h.2 b k.1; have := k.2 a h.1; omega
/-- The node with the greatest sum, the one with the least, the difference; which load goes, whither. -/
def hiN (nodes : List Int) (l : List Ld) : Int := rd nodes ((sumsOf nodes l).idxOf (hiOf (sumsOf nodes l)))
def loN (nodes : List Int) (l : List Ld) : Int := rd nodes ((sumsOf nodes l).idxOf (loOf (sumsOf nodes l)))
def gap (nodes : List Int) (l : List Ld) : Int := hiOf (sumsOf nodes l) - loOf (sumsOf nodes l)
def pickI (nodes : List Int) (l : List Ld) : Int := bestTo (hiN nodes l) (gap nodes l) l l.length
theorem pickI_bound (nodes : List Int) (l : List Ld) : -1 ≤ pickI nodes l ∧ pickI nodes l < l.length := bestTo_bound _ _ _ _
def chooseOf (nodes : List Int) (l : List Ld) : Int × Int × Er :=
  match chk nodes l with
  | .ok => if pickI nodes l < 0 then (0, 0, .num 10) else ((ldAt l (pickI nodes l).toNat).sub, loN nodes l, .ok)
  | e => (0, 0, e)
def moved (nodes : List Int) (l : List Ld) : List Ld := l.set (pickI nodes l).toNat { ldAt l (pickI nodes l).toNat with node := loN nodes l }
def settle (nodes : List Int) : Nat → List Ld → List Ld
  | 0, l => l
  | n + 1, l => if pickI nodes l < 0 then l else settle nodes n (moved nodes l)
theorem loN_mem {nodes : List Int} {l : List Ld} (h : nodes ≠ []) : loN nodes l ∈ nodes := by
  have hne : sumsOf nodes l ≠ [] := ne_of rfl h
  have := List.idxOf_lt_length_of_mem (loOf_is hne).1
  exact rd_mem _ _ (by rw [sumsOf_len] at this; exact this)
theorem mem_set {l : List Ld} {i : Nat} {y x : Ld} (h : x ∈ l.set i y) : x ∈ l ∨ x = y := List.mem_or_eq_of_mem_set h
theorem Good.moved {nodes : List Int} {l : List Ld} (h : Good nodes l) (h0 : 0 ≤ pickI nodes l) : Good nodes (moved nodes l) := by
  have hb := (pickI_bound nodes l).2
  have hi : (pickI nodes l).toNat < l.length := by omega
  have hm := ldAt_mem l _ hi
  refine ⟨h.srt, h.ne, ⟨?_, ?_, ?_, by unfold Go.Proofs.YthgfodfkjlpegaaDoor.moved; rw [List.length_set]; exact h.fine.len⟩, ?_⟩
  · intro x hx
    rcases mem_set hx with hx | rfl
    · exact h.fine.at_ x hx
    · exact loN_mem h.ne
  · intro x hx
    rcases mem_set hx with hx | rfl
    · exact h.fine.w0 x hx
    · have := h.fine.w0 _ hm
      exact this
  · intro x hx
    rcases mem_set hx with hx | rfl
    · exact h.fine.w1 x hx
    · have := h.fine.w1 _ hm
      exact this
  · unfold Go.Proofs.YthgfodfkjlpegaaDoor.moved
    have e : (l.set (pickI nodes l).toNat { ldAt l (pickI nodes l).toNat with node := loN nodes l }).map Ld.sub = l.map Ld.sub := by
      rw [List.map_set]
      apply List.ext_getElem
      · simp
      · intro i h1 h2
        rw [List.getElem_set]
        split
        · rename_i hh
          subst hh
          rw [List.getElem_map, ldAt_get l _ hi]
        · rfl
    rw [e]
    exact h.nod
theorem moved_len (nodes : List Int) (l : List Ld) : (moved nodes l).length = l.length := by simp [moved]
theorem moved_subs {nodes : List Int} {l : List Ld} {p : Ld → Prop} (hp : ∀ x y : Ld, x.sub = y.sub → p x → p y) (h : ∀ x ∈ l, p x) (h0 : 0 ≤ pickI nodes l) : ∀ x ∈ moved nodes l, p x := by
  have hb := (pickI_bound nodes l).2
  have hi : (pickI nodes l).toNat < l.length := by omega
  intro x hx
  rcases mem_set hx with hx | rfl
  · exact h x hx
  · exact hp (ldAt l (pickI nodes l).toNat) _ rfl (h _ (ldAt_mem l _ hi))
/-- pick, told with these words. -/
theorem pick2_calls (w : World) (A B : Option Addr) (c d : Nat) (nodes : List Int) (l : List Ld) (hr : (Kd.int .i64).C w A nodes.length nodes) (hl : kLd.C w B l.length l) (hN : nodes.length ≤ 1000) (hG : Good nodes l) :
    Calls Tryd.prog 18 #[.slice A nodes.length c, .slice B l.length d] w fun e w' => e = .returned (.tuple #[.int .i64 (pickI nodes l), .int .i64 (loN nodes l)]) ∧ Below w.heap.size w w' := by
  refine (pick_calls w A B c d nodes l hr hl hG.nodup hN hG.ne hG.fine).mono ?_
  rintro e w' ⟨hi, lo, h1, h2, rfl, hb⟩
  have hne : sumsOf nodes l ≠ [] := ne_of rfl hG.ne
  obtain rfl := max_one h1 (hiOf_is hne)
  obtain rfl := min_one h2 (loOf_is hne)
  exact ⟨rfl, hb⟩
theorem kLd_empty (w : World) (base : Nat) (hb : base ≤ w.heap.size) (t : TypeId) : kLd.R t (w.alloc (.cells #[] t)) base (fun _ => True) (.slice (some ⟨w.heap.size, 0, none⟩) 0 0) [] := by
  refine ⟨fun _ _ => trivial, [], ?_, Reps.none _ _⟩
  have h2 := World.ownsRow_lit (base := base) (e := t) (size := 3) w #[] 0 hb (by decide) (by simp)
  have h3 : (w.alloc (.cells #[] t)).ownsRow base t 3 (.slice (some ⟨w.heap.size, 0, none⟩) 0 0) 0 [] := by simpa using h2
  exact h3
theorem underlyingLs : Tryd.prog.underlying 29 = some (.slice 55) := Tryd.underlying29
set_option maxRecDepth 100000 in
theorem cloneL_calls (w : World) (A : Option Addr) (c : Nat) (xs : List Ld) (hr : kLd.C w A xs.length xs) (hl : xs.length ≤ 1000) :
    Calls Tryd.prog 27 #[.slice A xs.length c] w fun e w' => ∃ v, e = .returned v ∧ kLd.R 55 w' w.heap.size (fun _ => True) v xs ∧ Below w.heap.size w w' := by
  have HR := Lib.hid hr
  have HL := Lib.hid hl
  clear hl
  cases A with
  | none =>
    have h0 : xs = [] := by
      rcases Nat.eq_zero_or_pos xs.length with h | h
      · exact List.eq_nil_of_length_eq_zero h
      · obtain ⟨ad, h, _⟩ := hr.2.2 h; cases h
    subst h0
    have heq := fun W => Lib.run_eql_slice_nil (P := Tryd.prog) W 29 55 none 0 c 0 0 Tryd.underlying29
    clear hr
    go_enter Tryd.func27, Tryd.ntmps27
    go_wp2
    go_ret
    exact ⟨_, rfl, Kd.R_nil _ _ _ _ _, Below.refl _ _⟩
  | some ad =>
    have heq := fun W => Lib.run_eql_slice_nil (P := Tryd.prog) W 29 55 (some ad) xs.length c 0 0 Tryd.underlying29
    clear hr
    go_enter Tryd.func27, Tryd.ntmps27
    go_wp2_with (first
      | (at_builtin; refine Kd.R_append_rows kLd (w0 := w) w.heap.size rfl _ _ _ 55 (.agg #[.int .i64 0, .int .i64 0, .int .i64 0]) 24 rfl Tryd.underlying29 infoL rfl (by decide) (by omega) (.slice (some ⟨w.heap.size, 0, none⟩) 0 0) [] xs (some ad) xs.length c (fun _ => True) (fun _ => False) rfl rfl (kLd_empty w _ (Nat.le_refl _) _) (kLd.C_alloc HR.out _) (fun x cs h => by rw [kLd_open h]; exact kLd_mkM _ _ _ x) (fun _ hk => hk.elim) (fun _ _ => trivial) (below_alloc (Below.refl _ _) _) (by simp) (by have := HL.out; simp; omega) ?_; intro v1 w1 ho hb hg hat; have HO := Aside0.mk ho; have HB := Aside0.mk hb; clear ho hb hg hat))
    go_ret
    exact ⟨_, rfl, by simpa using HO.out, HB.out⟩
end Go.Proofs.YthgfodfkjlpegaaDoor
