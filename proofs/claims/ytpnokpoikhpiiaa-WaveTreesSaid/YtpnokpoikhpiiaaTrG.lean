/- Graphs: links in memory, what Check asks of a graph, the members that one reaches. -/
import Derived.Test.YtpnokpoikhpiiaaLc
import Derived.Test.YtpnokpoikhpiiaaHas
import Derived.Test.YtpnokpoikhpiiaaTrE
import Derived.Test.YtpnokpoikhpiiaaWEqStruct
namespace Go.Proofs.Ytpnokpoikhpiiaa
open Go.RowKit Go.Proofs.YtpnokpoikhpiiaaW.PrintWords Go.Proofs.YtpnokpoikhpiiaaW.PrintLast Go.Proofs.YtpnokpoikhpiiaaW.PrintMore
open WvTree
set_option linter.unusedVariables false
set_option linter.unusedSimpArgs false
def kLk : Kd (Int × Int) := Kd.pair (Kd.int .i64) (Kd.int .i64)
theorem kLk_open {w : World} {x : Int × Int} {cs : List Value} (h : kLk.K w x cs) : cs = [.int .i64 x.1, .int .i64 x.2] := by
  obtain ⟨_, _, rfl, rfl, rfl⟩ := h
  exact rfl
theorem kLk_mk (w : World) (x : Int × Int) : kLk.K w x [.int .i64 x.1, .int .i64 x.2] := ⟨[.int .i64 x.1], [.int .i64 x.2], rfl, rfl, rfl⟩
theorem kLk_mkM (w : World) (base : Nat) (ok : Nat → Prop) (x : Int × Int) : kLk.M w base ok x [.int .i64 x.1, .int .i64 x.2] := ⟨[.int .i64 x.1], [.int .i64 x.2], rfl, rfl, rfl⟩
theorem add_next (ad : Addr) (m j : Nat) (hj : 0 < j) : ad.add (m + j) = ⟨(ad.add m).block, (ad.add m).off + j, none⟩ := by
  unfold Addr.add
  by_cases hm : m = 0
  · simp [hm, show j ≠ 0 by omega]
  · simp [hm, show m + j ≠ 0 by omega]; omega
def lkAt (l : List (Int × Int)) (k : Nat) : Int × Int := l.getD k (0, 0)
theorem lkAt_get (l : List (Int × Int)) (k : Nat) (h : k < l.length) : lkAt l k = l[k] := by simp [lkAt, List.getD_eq_getElem?_getD, List.getElem?_eq_getElem h]
theorem lkAt_mem (l : List (Int × Int)) (k : Nat) (h : k < l.length) : lkAt l k ∈ l := by rw [lkAt_get l k h]; exact List.getElem_mem h
theorem take_lk (l : List (Int × Int)) (k : Nat) (h : k < l.length) : l.take (k + 1) = l.take k ++ [lkAt l k] := by
  rw [List.take_succ_eq_append_getElem h, lkAt_get l k h]
theorem mem_lkAt {l : List (Int × Int)} {x : Int × Int} (h : x ∈ l) : ∃ k, k < l.length ∧ lkAt l k = x := by
  obtain ⟨k, hk, rfl⟩ := List.getElem_of_mem h
  exact ⟨k, hk, lkAt_get l k hk⟩
/-- The two cells of a link (of a message). -/
theorem Lk_cell {w : World} {A : Option Addr} {l : List (Int × Int)} (h : kLk.C w A l.length l) {k : Nat} (hk : k < l.length) :
    ∃ ad, A = some ad ∧ w.cell? (ad.add (k * 2)) = some (.int .i64 (lkAt l k).1) ∧ w.cell? ⟨(ad.add (k * 2)).block, (ad.add (k * 2)).off + 1, none⟩ = some (.int .i64 (lkAt l k).2) := by
  obtain ⟨ad, c, e, _, hK, hc0⟩ := Kd.C_get h ((0 : Int), (0 : Int)) (k : Int) (by omega) (by omega)
  have hc : ∀ j u, c[j]? = some u → w.cell? (ad.add (k * 2 + j)) = some u := fun j u hj => by have := hc0 j u hj; rw [Int.toNat_natCast] at this; exact this
  obtain rfl := kLk_open hK
  have e2 : (l.getD ((k : Int).toNat) ((0 : Int), (0 : Int))) = lkAt l k := by rw [Int.toNat_natCast]; rfl
  rw [e2] at hc
  exact ⟨ad, e, hc 0 _ rfl, by rw [← add_next _ _ 1 (by omega)]; exact hc 1 _ rfl⟩
theorem link_eq (d : Nat) (a b x y : Int) (w : World) : (Op.equalIn (d + 2) 53 (.agg #[.int .i64 a, .int .i64 b]) (.agg #[.int .i64 x, .int .i64 y])).run Try.prog w = .ok ((a == x) && (b == y)) w := by
  refine eqA_of Try.underlying53 (by kernel_rfl) ?_
  refine eqf_cons (by kernel_rfl) (by kernel_rfl) (by kernel_rfl) (run_equalIn_int w d _ .i64 .i64 a x Try.underlying3) ?_
  exact eqf_last (by kernel_rfl) (by kernel_rfl) (by kernel_rfl) (run_equalIn_int w d _ .i64 .i64 b y Try.underlying3)
theorem link_eql (a b x y : Int) (w : World) : (binOp .eql 53 (.agg #[.int .i64 a, .int .i64 b]) (.agg #[.int .i64 x, .int .i64 y])).run Try.prog w = .ok (.bool ((a == x) && (b == y))) w := by
  rw [run_eql_struct, link_eq 9998]
  rfl
theorem msg_eq (d : Nat) (a b x y : Int) (w : World) : (Op.equalIn (d + 2) 42 (.agg #[.int .i64 a, .int .i64 b]) (.agg #[.int .i64 x, .int .i64 y])).run Try.prog w = .ok ((a == x) && (b == y)) w := by
  refine eqA_of Try.underlying42 (by kernel_rfl) ?_
  refine eqf_cons (by kernel_rfl) (by kernel_rfl) (by kernel_rfl) (run_equalIn_int w d _ .i64 .i64 a x Try.underlying3) ?_
  exact eqf_last (by kernel_rfl) (by kernel_rfl) (by kernel_rfl) (run_equalIn_int w d _ .i64 .i64 b y Try.underlying3)
theorem msg_eql (a b x y : Int) (w : World) : (binOp .eql 42 (.agg #[.int .i64 a, .int .i64 b]) (.agg #[.int .i64 x, .int .i64 y])).run Try.prog w = .ok (.bool ((a == x) && (b == y))) w := by
  rw [run_eql_struct, msg_eq 9998]
  rfl
/-- A member at its place is in order; a link is. -/
def MOk (ms : List Int) (j : Nat) : Prop := 0 ≤ rd ms j ∧ rd ms j < 8 ∧ (0 < j → rd ms ((j - 1 : Nat) : Int) < rd ms j)
def Ahead (x y : Int × Int) : Prop := x.1 < y.1 ∨ x.1 = y.1 ∧ x.2 < y.2
def LOk (ms : List Int) (ls : List (Int × Int)) (j : Nat) : Prop := (lkAt ls j).1 < (lkAt ls j).2 ∧ (lkAt ls j).1 ∈ ms ∧ (lkAt ls j).2 ∈ ms ∧ (0 < j → Ahead (lkAt ls (j - 1)) (lkAt ls j))
def add1 (l : List Int) (x : Int) : List Int := if x ∈ l then l else l ++ [x]
def stepk (a : Int) (l : List Int) (k : Int × Int) : List Int := if k.1 = a then add1 l k.2 else if k.2 = a then add1 l k.1 else l
def reachF (ls : List (Int × Int)) : Nat → Nat → List Int → List Int
  | 0, _, l => l
  | f + 1, i, l => if i < l.length then reachF ls f (i + 1) (ls.foldl (stepk (rd l i)) l) else l
def reachL (ls : List (Int × Int)) (r : Int) : List Int := reachF ls 9 0 [r]
structure IsTree (ms : List Int) (ls : List (Int × Int)) : Prop where
  m8 : ms.length ≤ 8
  mok : ∀ j, j < ms.length → MOk ms j
  lok : ∀ j, j < ls.length → LOk ms ls j
  ne : ms ≠ []
  len : ls.length + 1 = ms.length
  all : (reachL ls (rd ms 0)).length = ms.length
/-- What the search keeps. -/
structure RInv (ms : List Int) (ls : List (Int × Int)) (r : Int) (l : List Int) : Prop where
  nd : l.Nodup
  sub : ∀ x ∈ l, x ∈ ms
  hd : l.head? = some r
  par : ∀ v ∈ l, v ≠ r → ∃ w ∈ l, WvTree.Edge ls v w ∧ l.idxOf w < l.idxOf v
theorem RInv.start {ms : List Int} {ls : List (Int × Int)} {r : Int} (h : r ∈ ms) : RInv ms ls r [r] := by
  refine ⟨by simp, by simpa using h, rfl, fun v hv hne => ?_⟩
  simp at hv
  exact absurd hv hne
theorem idx_app {l : List Int} {x a : Int} (h : a ∈ l) : (l ++ [x]).idxOf a = l.idxOf a := by
  rw [List.idxOf_append]
  simp [h]
theorem idx_new {l : List Int} {x : Int} (h : x ∉ l) : (l ++ [x]).idxOf x = l.length := by
  rw [List.idxOf_append]
  simp [h]
theorem RInv.add {ms : List Int} {ls : List (Int × Int)} {r : Int} {l : List Int} (H : RInv ms ls r l) {a x : Int} (ha : a ∈ l) (hx : x ∈ ms) (hE : WvTree.Edge ls x a) : RInv ms ls r (add1 l x) := by
  unfold add1
  by_cases hm : x ∈ l
  · rw [if_pos hm]; exact H
  · rw [if_neg hm]
    refine ⟨?_, ?_, ?_, ?_⟩
    · rw [List.nodup_append]
      exact ⟨H.nd, by simp, fun p hp q hq e => by simp at hq; subst hq; subst e; exact hm hp⟩
    · intro y hy
      rcases List.mem_append.1 hy with hy | hy
      · exact H.sub y hy
      · simp at hy; subst hy; exact hx
    · rw [List.head?_append, H.hd]; rfl
    · intro v hv hne
      rcases List.mem_append.1 hv with hv | hv
      · obtain ⟨w, hw, he, hi⟩ := H.par v hv hne
        exact ⟨w, List.mem_append_left _ hw, he, by rw [idx_app hw, idx_app hv]; exact hi⟩
      · simp at hv
        subst hv
        exact ⟨a, List.mem_append_left _ ha, hE, by rw [idx_app ha, idx_new hm]; exact List.idxOf_lt_length_of_mem ha⟩
theorem add1_pre (l : List Int) (x : Int) : ∃ t, add1 l x = l ++ t := by
  unfold add1
  split
  · exact ⟨[], by simp⟩
  · exact ⟨[x], rfl⟩
theorem stepk_pre (a : Int) (l : List Int) (k : Int × Int) : ∃ t, stepk a l k = l ++ t := by
  unfold stepk
  split
  · exact add1_pre _ _
  · split
    · exact add1_pre _ _
    · exact ⟨[], by simp⟩
theorem fold_pre (a : Int) : ∀ (ks : List (Int × Int)) (l : List Int), ∃ t, ks.foldl (stepk a) l = l ++ t
  | [], l => ⟨[], by simp⟩
  | k :: ks, l => by
    obtain ⟨t, ht⟩ := stepk_pre a l k
    obtain ⟨u, hu⟩ := fold_pre a ks (stepk a l k)
    exact ⟨t ++ u, by rw [List.foldl_cons, hu, ht, List.append_assoc]⟩
theorem RInv.step {ms : List Int} {ls : List (Int × Int)} {r : Int} {l : List Int} (H : RInv ms ls r l) {a : Int} (ha : a ∈ l) {k : Int × Int} (hk : k ∈ ls) (h1 : k.1 ∈ ms) (h2 : k.2 ∈ ms) : RInv ms ls r (stepk a l k) := by
  unfold stepk
  by_cases e1 : k.1 = a
  · rw [if_pos e1]
    exact H.add ha h2 (by subst e1; exact .inr hk)
  · rw [if_neg e1]
    by_cases e2 : k.2 = a
    · rw [if_pos e2]
      exact H.add ha h1 (by subst e2; exact .inl hk)
    · rw [if_neg e2]; exact H
theorem RInv.len {ms : List Int} {ls : List (Int × Int)} {r : Int} {l : List Int} (H : RInv ms ls r l) : l.length ≤ ms.length := LC.length_le_of_subset H.nd H.sub
theorem RInv.fold {ms : List Int} {ls : List (Int × Int)} {r : Int} {a : Int} : ∀ (ks : List (Int × Int)) {l : List Int}, RInv ms ls r l → a ∈ l → (∀ k ∈ ks, k ∈ ls ∧ k.1 ∈ ms ∧ k.2 ∈ ms) → RInv ms ls r (ks.foldl (stepk a) l)
  | [], l, H, _, _ => H
  | k :: ks, l, H, ha, hk => by
    obtain ⟨h1, h2, h3⟩ := hk k List.mem_cons_self
    obtain ⟨t, ht⟩ := stepk_pre a l k
    exact RInv.fold ks (H.step ha h1 h2 h3) (by rw [ht]; exact List.mem_append_left _ ha) (fun q hq => hk q (List.mem_cons_of_mem _ hq))
theorem RInv.reach {ms : List Int} {ls : List (Int × Int)} {r : Int} (hL : ∀ k ∈ ls, k.1 ∈ ms ∧ k.2 ∈ ms) : ∀ (f i : Nat) {l : List Int}, RInv ms ls r l → RInv ms ls r (reachF ls f i l)
  | 0, i, l, H => H
  | f + 1, i, l, H => by
    simp only [reachF]
    split
    · rename_i h
      exact RInv.reach hL f (i + 1) (H.fold ls (rd_mem l i h) (fun k hk => ⟨hk, hL k hk⟩))
    · exact H
theorem lok_mem {ms : List Int} {ls : List (Int × Int)} (h : ∀ j, j < ls.length → LOk ms ls j) : ∀ k ∈ ls, k.1 < k.2 ∧ k.1 ∈ ms ∧ k.2 ∈ ms := by
  intro k hk
  obtain ⟨j, hj, rfl⟩ := mem_lkAt hk
  exact ⟨(h j hj).1, (h j hj).2.1, (h j hj).2.2.1⟩
theorem MOk.sorted {ms : List Int} (h : ∀ j, j < ms.length → MOk ms j) : ∀ i j, i < j → j < ms.length → rd ms i < rd ms j := by
  intro i j hij hj
  induction j with
  | zero => omega
  | succ j ih =>
    have h1 := (h (j + 1) hj).2.2 (by omega)
    simp only [Nat.add_sub_cancel] at h1
    by_cases e : i = j
    · subst e; exact h1
    · have := ih (by omega) (by omega); omega
theorem MOk.nodup {ms : List Int} (h : ∀ j, j < ms.length → MOk ms j) : ms.Nodup := by
  rw [List.nodup_iff_pairwise_ne, List.pairwise_iff_getElem]
  intro i j hi hj hij e
  have := MOk.sorted h i j hij hj
  rw [rd_get _ _ hi, rd_get _ _ hj, e] at this
  omega
theorem MOk.range {ms : List Int} (h : ∀ j, j < ms.length → MOk ms j) : ∀ x ∈ ms, 0 ≤ x ∧ x < 8 := by
  intro x hx
  obtain ⟨k, hk, rfl⟩ := List.getElem_of_mem hx
  have := h k hk
  rw [← rd_get ms k hk]
  exact ⟨this.1, this.2.1⟩
/-- A tree: connected, and its edges are ranked. -/
theorem IsTree.laws {ms : List Int} {ls : List (Int × Int)} (T : IsTree ms ls) :
    (∀ a b, a ∈ ms → b ∈ ms → ∃ n, Walk (WvTree.Edge ls) a b n) ∧ ∃ rank : Int → Int → Nat, ∀ u v w, WvTree.Edge ls u v → WvTree.Edge ls u w → w ≠ v → rank w u < rank u v := by
  have hL := lok_mem T.lok
  have h0 : 0 < ms.length := List.length_pos_iff.2 T.ne
  have hr : rd ms 0 ∈ ms := rd_mem ms 0 h0
  have H : RInv ms ls (rd ms 0) (reachL ls (rd ms 0)) := RInv.reach (fun k hk => (hL k hk).2) 9 0 (RInv.start hr)
  obtain ⟨R, hR⟩ : ∃ R, R = reachL ls (rd ms 0) := ⟨_, rfl⟩
  have hall := T.all
  rw [← hR] at H hall
  cases R with
  | nil => have := H.hd; simp at this
  | cons root rest =>
    have hroot : root = rd ms 0 := by have := H.hd; simpa using this
    have hsub : ∀ x ∈ ms, x ∈ root :: rest := LC.subset_of_length_le H.nd H.sub (by omega)
    have hpar : ∀ v, v ∈ rest → ∃ w, w ∈ root :: rest ∧ WvTree.Edge ls v w ∧ (root :: rest).idxOf w < (root :: rest).idxOf v := by
      intro v hv
      have hne : v ≠ rd ms 0 := by
        rw [← hroot]
        intro e
        subst e
        exact (List.nodup_cons.1 H.nd).1 hv
      obtain ⟨w, hw, he, hi⟩ := H.par v (List.mem_cons_of_mem _ hv) hne
      exact ⟨w, hw, he, hi⟩
    refine ⟨fun a b ha hb => connected H.nd hpar a b (hsub a ha) (hsub b hb), exists_rank H.nd (fun a b hab => (hL (a, b) hab).1) ?_ hpar⟩
    have := T.len
    simp at hall
    omega
end Go.Proofs.Ytpnokpoikhpiiaa
