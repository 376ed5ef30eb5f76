/- Trees of links; how a graph lies in memory; the reference's search. -/
import Derived.Test.YtadaoplmicghcaaGreatDoorM1
import Derived.Test.YtadaoplmicghcaaGreatDoorWMore
import Derived.Test.YtadaoplmicghcaaGreatDoorWKept
import Derived.Test.YtadaoplmicghcaaGreatDoorWLast
import Derived.Test.YtadaoplmicghcaaGreatDoorWEqStruct
namespace Go.Proofs.YtadaoplmicghcaaGreatDoor
open Go.RowKit Go.Proofs.YtadaoplmicghcaaGreatDoorW.PrintWords Go.Proofs.YtadaoplmicghcaaGreatDoorW.PrintLast Go.Proofs.YtadaoplmicghcaaGreatDoorW.PrintMore
set_option linter.unusedVariables false
set_option linter.unusedSimpArgs false
set_option maxRecDepth 100000 in
theorem refN_calls (w : World) (n : Int) :
    Calls Tryz.prog 31 #[.int .i64 n] w fun e w' => e = .returned (.agg #[.bool true, .slice none 0 0, .int .i64 n]) ∧ w' = w.alloc (.cells #[.bool true, .slice none 0 0, .int .i64 n] 30) := by
  go_enter Tryz.func31, Tryz.ntmps31
  go_wp2
  (try simp only [Exit.inBlock, Exit.then])
  exact bodyPost_ret (v := .agg #[.bool true, .slice none 0 0, .int .i64 n]) (by simp [results, Tryz.results31, go_sem]) rfl ⟨rfl, rfl⟩
theorem below_first {w W : World} {o : Obj} (h : Below (w.alloc o).heap.size (w.alloc o) W) : Below w.heap.size w W := below_weaken (below_alloc (Below.refl _ _) o) (by simp) h
set_option maxRecDepth 100000 in
theorem refAt_calls (w : World) (kind k n : Int) :
    Calls Tryz.prog 32 #[.int .i64 kind, .int .i64 k, .agg #[.bool true, .slice none 0 0, .int .i64 n]] w fun e w' => e = .returned (.agg #[.bool true, .slice (some ⟨w.heap.size + 1 + 1, 0, none⟩) 1 1, .int .i64 n]) ∧
      w' = ((w.alloc (.cells #[.bool true, .slice none 0 0, .int .i64 n] 30)).alloc (.cells #[.bool true, .slice (some ⟨w.heap.size + 1 + 1, 0, none⟩) 1 1, .int .i64 n] 30)).alloc (.cells #[.int .i64 kind, .int .i64 k] 137) := by
  go_enter Tryz.func32, Tryz.ntmps32
  go_wp2
  (try simp only [Exit.inBlock, Exit.then])
  exact bodyPost_ret (v := .agg #[.bool true, .slice (some ⟨w.heap.size + 1 + 1, 0, none⟩) 1 1, .int .i64 n]) (by simp [results, Tryz.results32, go_sem]) rfl ⟨rfl, rfl⟩
theorem refAt_E (w : World) (kind k n : Int) :
    Calls Tryz.prog 32 #[.int .i64 kind, .int .i64 k, .agg #[.bool true, .slice none 0 0, .int .i64 n]] w fun e w' => ∃ A an c, e = .returned (.agg #[.bool true, .slice A an c, .int .i64 n]) ∧ Below w.heap.size w w' := by
  refine (refAt_calls w kind k n).mono ?_
  rintro e w2 ⟨rfl, rfl⟩
  exact ⟨_, _, _, rfl, by repeat (first | exact Below.refl _ _ | refine below_alloc ?_ _)⟩
theorem E_cells {W : World} {g : Nat} {a b c : Value} {t : Nat} {x : Nat × Nat} (h : W.heap[g]? = some (.cells #[a, b, c] t)) :
    (W.cell? ⟨g, 0, none⟩ = some a ∧ W.cell? ⟨g, 1, none⟩ = some b ∧ W.cell? ⟨g, 2, none⟩ = some c) ∧ W.frozen? ⟨g, 0, none⟩ = false ∧ W.frozen? ⟨g, 1, none⟩ = false ∧ W.frozen? ⟨g, 2, none⟩ = false := by
  unfold World.cell? World.frozen?
  rw [h]
  exact ⟨⟨rfl, rfl, rfl⟩, rfl, rfl, rfl⟩
theorem E_put {W : World} {g : Nat} {a b c : Value} {t : Nat} (h : W.heap[g]? = some (.cells #[a, b, c] t)) (a' b' c' : Value) :
    (((W.setCell ⟨g, 0, none⟩ a').setCell ⟨g, 1, none⟩ b').setCell ⟨g, 2, none⟩ c').heap[g]? = some (.cells #[a', b', c'] t) := blk_set (blk_set (blk_set h 0 a') 1 b') 2 c'
theorem below_put {w W : World} {g : Nat} (h : Below w.heap.size w W) (hg : w.heap.size ≤ g) (a b c : Value) : Below w.heap.size w (((W.setCell ⟨g, 0, none⟩ a).setCell ⟨g, 1, none⟩ b).setCell ⟨g, 2, none⟩ c) := below_set (below_set (below_set h hg) hg) hg
theorem alloc_sz (w : World) (o : Obj) : (w.alloc o).heap.size = w.heap.size + 1 := Array.size_push _
theorem heap_old (W : World) (o : Obj) (i : Nat) (h : i < W.heap.size) : (W.alloc o).heap[i]? = W.heap[i]? := Below.heap_alloc W o i h
theorem put_far {W : World} {g h : Nat} {o : Obj} (h1 : W.heap[h]? = some o) (hgh : h ≠ g) (x y z : Value) : (((W.setCell ⟨g, 0, none⟩ x).setCell ⟨g, 1, none⟩ y).setCell ⟨g, 2, none⟩ z).heap[h]? = some o := by
  rw [Below.heap_setCell _ _ _ _ hgh, Below.heap_setCell _ _ _ _ hgh, Below.heap_setCell _ _ _ _ hgh]
  exact h1
/-- A cell of two. -/
theorem P_cells {W : World} {g : Nat} {a b : Value} {t : Nat} {x : Nat × Nat} (h : W.heap[g]? = some (.cells #[a, b] t)) :
    W.cell? ⟨g, 0, none⟩ = some a ∧ W.cell? ⟨g, 1, none⟩ = some b := by
  unfold World.cell?
  rw [h]
  exact ⟨rfl, rfl⟩
end Go.Proofs.YtadaoplmicghcaaGreatDoor
namespace Go.Proofs.YtadaoplmicghcaaGreatDoor
open Go.RowKit Go.Proofs.YtadaoplmicghcaaGreatDoorW.PrintWords Go.Proofs.YtadaoplmicghcaaGreatDoorW.PrintLast Go.Proofs.YtadaoplmicghcaaGreatDoorW.PrintMore
open WvTree
set_option linter.unusedVariables false
set_option linter.unusedSimpArgs false
def kLk : Kd (Int × Int) := Kd.pair (Kd.int .i64) (Kd.int .i64)
theorem kLk_open {w : World} {x : Int × Int} {cs : List Value} (h : kLk.K w x cs) : cs = [.int .i64 x.1, .int .i64 x.2] := by
  obtain ⟨_, _, rfl, rfl, rfl⟩ := h
  exact rfl
theorem kLk_mk (w : World) (x : Int × Int) : kLk.K w x [.int .i64 x.1, .int .i64 x.2] := ⟨[.int .i64 x.1], [.int .i64 x.2], rfl, rfl, rfl⟩
theorem kLk_mkM (w : World) (base : Nat) (ok : Nat → Prop) (x : Int × Int) : kLk.M w base ok x [.int .i64 x.1, .int .i64 x.2] := ⟨[.int .i64 x.1], [.int .i64 x.2], rfl, rfl, rfl⟩
theorem add_next (ad : Addr) (m j : Nat) (hj : 0 < j) : ad.add (m + j) = ⟨(ad.add m).block, (ad.add m).off + j, none⟩ := by
  unfold Addr.add
  by_cases hm : m = 0
  · simp [hm, show j ≠ 0 by omega]
  · simp [hm, show m + j ≠ 0 by omega]; omega
def lkAt (l : List (Int × Int)) (k : Nat) : Int × Int := l.getD k (0, 0)
theorem lkAt_get (l : List (Int × Int)) (k : Nat) (h : k < l.length) : lkAt l k = l[k] := by simp [lkAt, List.getD_eq_getElem?_getD, List.getElem?_eq_getElem h]
theorem lkAt_mem (l : List (Int × Int)) (k : Nat) (h : k < l.length) : lkAt l k ∈ l := by rw [lkAt_get l k h]; exact List.getElem_mem h
theorem take_lk (l : List (Int × Int)) (k : Nat) (h : k < l.length) : l.take (k + 1) = l.take k ++ [lkAt l k] := by
  rw [List.take_succ_eq_append_getElem h, lkAt_get l k h]
theorem mem_lkAt {l : List (Int × Int)} {x : Int × Int} (h : x ∈ l) : ∃ k, k < l.length ∧ lkAt l k = x := by
  obtain ⟨k, hk, rfl⟩ := List.getElem_of_mem h
  exact ⟨k, hk, lkAt_get l k hk⟩
/-- The two cells of a link (of a message). -/
theorem Lk_cell {w : World} {A : Option Addr} {l : List (Int × Int)} (h : kLk.C w A l.length l) {k : Nat} (hk : k < l.length) :
    ∃ ad, A = some ad ∧ w.cell? (ad.add (k * 2)) = some (.int .i64 (lkAt l k).1) ∧ w.cell? ⟨(ad.add (k * 2)).block, (ad.add (k * 2)).off + 1, none⟩ = some (.int .i64 (lkAt l k).2) := by
  obtain ⟨ad, c, e, _, hK, hc0⟩ := Kd.C_get h ((0 : Int), (0 : Int)) (k : Int) (by omega) (by omega)
  have hc : ∀ j u, c[j]? = some u → w.cell? (ad.add (k * 2 + j)) = some u := fun j u hj => by have := hc0 j u hj; rw [Int.toNat_natCast] at this; exact this
  obtain rfl := kLk_open hK
  have e2 : (l.getD ((k : Int).toNat) ((0 : Int), (0 : Int))) = lkAt l k := by rw [Int.toNat_natCast]; rfl
  rw [e2] at hc
  exact ⟨ad, e, hc 0 _ rfl, by rw [← add_next _ _ 1 (by omega)]; exact hc 1 _ rfl⟩
theorem link_eq (d : Nat) (a b x y : Int) (w : World) : (Op.equalIn (d + 2) 86 (.agg #[.int .i64 a, .int .i64 b]) (.agg #[.int .i64 x, .int .i64 y])).run Tryz.prog w = .ok ((a == x) && (b == y)) w := by
  refine eqA_of Tryz.underlying86 (by kernel_rfl) ?_
  refine eqf_cons (by kernel_rfl) (by kernel_rfl) (by kernel_rfl) (run_equalIn_int w d _ .i64 .i64 a x Tryz.underlying3) ?_
  exact eqf_last (by kernel_rfl) (by kernel_rfl) (by kernel_rfl) (run_equalIn_int w d _ .i64 .i64 b y Tryz.underlying3)
theorem link_eql (a b x y : Int) (w : World) : (binOp .eql 86 (.agg #[.int .i64 a, .int .i64 b]) (.agg #[.int .i64 x, .int .i64 y])).run Tryz.prog w = .ok (.bool ((a == x) && (b == y))) w := by
  rw [run_eql_struct, link_eq 9998]
  rfl
/-- A member at its place is in order; a link is. -/
def MOk (ms : List Int) (j : Nat) : Prop := 0 ≤ rd ms j ∧ rd ms j < 8 ∧ (0 < j → rd ms ((j - 1 : Nat) : Int) < rd ms j)
def Ahead (x y : Int × Int) : Prop := x.1 < y.1 ∨ x.1 = y.1 ∧ x.2 < y.2
def LOk (ms : List Int) (ls : List (Int × Int)) (j : Nat) : Prop := (lkAt ls j).1 < (lkAt ls j).2 ∧ (lkAt ls j).1 ∈ ms ∧ (lkAt ls j).2 ∈ ms ∧ (0 < j → Ahead (lkAt ls (j - 1)) (lkAt ls j))
def add1 (l : List Int) (x : Int) : List Int := if x ∈ l then l else l ++ [x]
def stepk (a : Int) (l : List Int) (k : Int × Int) : List Int := if k.1 = a then add1 l k.2 else if k.2 = a then add1 l k.1 else l
def reachF (ls : List (Int × Int)) : Nat → Nat → List Int → List Int
  | 0, _, l => l
  | f + 1, i, l => if i < l.length then reachF ls f (i + 1) (ls.foldl (stepk (rd l i)) l) else l
def reachL (ls : List (Int × Int)) (r : Int) : List Int := reachF ls 9 0 [r]
structure IsTree (ms : List Int) (ls : List (Int × Int)) : Prop where
  m8 : ms.length ≤ 8
  mok : ∀ j, j < ms.length → MOk ms j
  lok : ∀ j, j < ls.length → LOk ms ls j
  ne : ms ≠ []
  len : ls.length + 1 = ms.length
  all : (reachL ls (rd ms 0)).length = ms.length
/-- What the search keeps. -/
structure RInv (ms : List Int) (ls : List (Int × Int)) (r : Int) (l : List Int) : Prop where
  nd : l.Nodup
  sub : ∀ x ∈ l, x ∈ ms
  hd : l.head? = some r
  par : ∀ v ∈ l, v ≠ r → ∃ w ∈ l, WvTree.Edge ls v w ∧ l.idxOf w < l.idxOf v
theorem RInv.start {ms : List Int} {ls : List (Int × Int)} {r : Int} (h : r ∈ ms) : RInv ms ls r [r] := by
  refine ⟨by simp, by simpa using h, rfl, fun v hv hne => ?_⟩
  simp at hv
  exact absurd hv hne
theorem idx_app {l : List Int} {x a : Int} (h : a ∈ l) : (l ++ [x]).idxOf a = l.idxOf a := by
  rw [List.idxOf_append]
  simp [h]
theorem idx_new {l : List Int} {x : Int} (h : x ∉ l) : (l ++ [x]).idxOf x = l.length := by
  rw [List.idxOf_append]
  simp [h]
theorem RInv.add {ms : List Int} {ls : List (Int × Int)} {r : Int} {l : List Int} (H : RInv ms ls r l) {a x : Int} (ha : a ∈ l) (hx : x ∈ ms) (hE : WvTree.Edge ls x a) : RInv ms ls r (add1 l x) := by
  unfold add1
  by_cases hm : x ∈ l
  · rw [if_pos hm]; exact H
  · rw [if_neg hm]
    refine ⟨?_, ?_, ?_, ?_⟩
    · rw [List.nodup_append]
      exact ⟨H.nd, by simp, fun p hp q hq e => by simp at hq; subst hq; subst e; exact hm hp⟩
    · intro y hy
      rcases List.mem_append.1 hy with hy | hy
      · exact H.sub y hy
      · simp at hy; subst hy; exact hx
    · rw [List.head?_append, H.hd]; rfl
    · intro v hv hne
      rcases List.mem_append.1 hv with hv | hv
      · obtain ⟨w, hw, he, hi⟩ := H.par v hv hne
        exact ⟨w, List.mem_append_left _ hw, he, by rw [idx_app hw, idx_app hv]; exact hi⟩
      · simp at hv
        subst hv
        exact ⟨a, List.mem_append_left _ ha, hE, by rw [idx_app ha, idx_new hm]; exact List.idxOf_lt_length_of_mem ha⟩
theorem add1_pre (l : List Int) (x : Int) : ∃ t, add1 l x = l ++ t := by
  unfold add1
  split
  · exact ⟨[], by simp⟩
  · exact ⟨[x], rfl⟩
theorem stepk_pre (a : Int) (l : List Int) (k : Int × Int) : ∃ t, stepk a l k = l ++ t := by
  unfold stepk
  split
  · exact add1_pre _ _
  · split
    · exact add1_pre _ _
    · exact ⟨[], by simp⟩
theorem fold_pre (a : Int) : ∀ (ks : List (Int × Int)) (l : List Int), ∃ t, ks.foldl (stepk a) l = l ++ t
  | [], l => ⟨[], by simp⟩
  | k :: ks, l => by
    obtain ⟨t, ht⟩ := stepk_pre a l k
    obtain ⟨u, hu⟩ := fold_pre a ks (stepk a l k)
    exact ⟨t ++ u, by rw [List.foldl_cons, hu, ht, List.append_assoc]⟩
theorem RInv.step {ms : List Int} {ls : List (Int × Int)} {r : Int} {l : List Int} (H : RInv ms ls r l) {a : Int} (ha : a ∈ l) {k : Int × Int} (hk : k ∈ ls) (h1 : k.1 ∈ ms) (h2 : k.2 ∈ ms) : RInv ms ls r (stepk a l k) := by
  unfold stepk
  by_cases e1 : k.1 = a
  · rw [if_pos e1]
    exact H.add ha h2 (by subst e1; exact .inr hk)
  · rw [if_neg e1]
    by_cases e2 : k.2 = a
    · rw [if_pos e2]
      exact H.add ha h1 (by subst e2; exact .inl hk)
    · rw [if_neg e2]; exact H
theorem RInv.len {ms : List Int} {ls : List (Int × Int)} {r : Int} {l : List Int} (H : RInv ms ls r l) : l.length ≤ ms.length := LC.length_le_of_subset H.nd H.sub
theorem RInv.fold {ms : List Int} {ls : List (Int × Int)} {r : Int} {a : Int} : ∀ (ks : List (Int × Int)) {l : List Int}, RInv ms ls r l → a ∈ l → (∀ k ∈ ks, k ∈ ls ∧ k.1 ∈ ms ∧ k.2 ∈ ms) → RInv ms ls r (ks.foldl (stepk a) l)
  | [], l, H, _, _ => H
  | k :: ks, l, H, ha, hk => by
    obtain ⟨h1, h2, h3⟩ := hk k List.mem_cons_self
    obtain ⟨t, ht⟩ := stepk_pre a l k
    exact RInv.fold ks (H.step ha h1 h2 h3) (by rw [ht]; exact List.mem_append_left _ ha) (fun q hq => hk q (List.mem_cons_of_mem _ hq))
theorem RInv.reach {ms : List Int} {ls : List (Int × Int)} {r : Int} (hL : ∀ k ∈ ls, k.1 ∈ ms ∧ k.2 ∈ ms) : ∀ (f i : Nat) {l : List Int}, RInv ms ls r l → RInv ms ls r (reachF ls f i l)
  | 0, i, l, H => H
  | f + 1, i, l, H => by
    simp only [reachF]
    split
    · rename_i h
      exact RInv.reach hL f (i + 1) (H.fold ls (rd_mem l i h) (fun k hk => ⟨hk, hL k hk⟩))
    · exact H
theorem lok_mem {ms : List Int} {ls : List (Int × Int)} (h : ∀ j, j < ls.length → LOk ms ls j) : ∀ k ∈ ls, k.1 < k.2 ∧ k.1 ∈ ms ∧ k.2 ∈ ms := by
  intro k hk
  obtain ⟨j, hj, rfl⟩ := mem_lkAt hk
  exact ⟨(h j hj).1, (h j hj).2.1, (h j hj).2.2.1⟩
theorem MOk.sorted {ms : List Int} (h : ∀ j, j < ms.length → MOk ms j) : ∀ i j, i < j → j < ms.length → rd ms i < rd ms j := by
  intro i j hij hj
  induction j with
  | zero => omega
  | succ j ih =>
    have h1 := (h (j + 1) hj).2.2 (by omega)
    simp only [Nat.add_sub_cancel] at h1
    by_cases e : i = j
    · subst e; exact h1
    · have := ih (by omega) (by omega); omega
theorem MOk.nodup {ms : List Int} (h : ∀ j, j < ms.length → MOk ms j) : ms.Nodup := by
  rw [List.nodup_iff_pairwise_ne, List.pairwise_iff_getElem]
  intro i j hi hj hij e
  have := MOk.sorted h i j hij hj
  rw [rd_get _ _ hi, rd_get _ _ hj, e] at this
  omega
theorem MOk.range {ms : List Int} (h : ∀ j, j < ms.length → MOk ms j) : ∀ x ∈ ms, 0 ≤ x ∧ x < 8 := by
  intro x hx
  obtain ⟨k, hk, rfl⟩ := List.getElem_of_mem hx
  have := h k hk
  rw [← rd_get ms k hk]
  exact ⟨this.1, this.2.1⟩
/-- A tree: connected, and its edges are ranked. -/
theorem IsTree.laws {ms : List Int} {ls : List (Int × Int)} (T : IsTree ms ls) :
    (∀ a b, a ∈ ms → b ∈ ms → ∃ n, Walk (WvTree.Edge ls) a b n) ∧ ∃ rank : Int → Int → Nat, ∀ u v w, WvTree.Edge ls u v → WvTree.Edge ls u w → w ≠ v → rank w u < rank u v := by
  have hL := lok_mem T.lok
  have h0 : 0 < ms.length := List.length_pos_iff.2 T.ne
  have hr : rd ms 0 ∈ ms := rd_mem ms 0 h0
  have H : RInv ms ls (rd ms 0) (reachL ls (rd ms 0)) := RInv.reach (fun k hk => (hL k hk).2) 9 0 (RInv.start hr)
  obtain ⟨R, hR⟩ : ∃ R, R = reachL ls (rd ms 0) := ⟨_, rfl⟩
  have hall := T.all
  rw [← hR] at H hall
  cases R with
  | nil => have := H.hd; simp at this
  | cons root rest =>
    have hroot : root = rd ms 0 := by have := H.hd; simpa using this
    have hsub : ∀ x ∈ ms, x ∈ root :: rest := LC.subset_of_length_le H.nd H.sub (by omega)
    have hpar : ∀ v, v ∈ rest → ∃ w, w ∈ root :: rest ∧ WvTree.Edge ls v w ∧ (root :: rest).idxOf w < (root :: rest).idxOf v := by
      intro v hv
      have hne : v ≠ rd ms 0 := by
        rw [← hroot]
        intro e
        subst e
        exact (List.nodup_cons.1 H.nd).1 hv
      obtain ⟨w, hw, he, hi⟩ := H.par v (List.mem_cons_of_mem _ hv) hne
      exact ⟨w, hw, he, hi⟩
    refine ⟨fun a b ha hb => connected H.nd hpar a b (hsub a ha) (hsub b hb), exists_rank H.nd (fun a b hab => (hL (a, b) hab).1) ?_ hpar⟩
    have := T.len
    simp at hall
    omega
end Go.Proofs.YtadaoplmicghcaaGreatDoor
namespace Go.Proofs.YtadaoplmicghcaaGreatDoor
open Go.RowKit Go.Proofs.YtadaoplmicghcaaGreatDoorW.PrintWords Go.Proofs.YtadaoplmicghcaaGreatDoorW.PrintLast Go.Proofs.YtadaoplmicghcaaGreatDoorW.PrintMore
set_option linter.unusedVariables false
set_option linter.unusedSimpArgs false
def aheadB (x y : Int × Int) : Bool := decide (x.1 < y.1) || ((x.1 == y.1) && decide (x.2 < y.2))
theorem aheadB_iff {x y : Int × Int} : aheadB x y = true ↔ Ahead x y := by
  simp [aheadB, Ahead]
set_option maxRecDepth 100000 in
theorem ahead_calls (w : World) (a b x y : Int) :
    Calls Tryz.prog 34 #[.agg #[.int .i64 a, .int .i64 b], .agg #[.int .i64 x, .int .i64 y]] w fun e w' => e = .returned (.bool (aheadB (a, b) (x, y))) ∧ Below w.heap.size w w' := by
  by_cases h1 : a < x
  · have h1b : decide (a < x) = true := by simpa using h1
    have HR := Lib.hid (show aheadB (a, b) (x, y) = true by simp [aheadB, h1])
    clear h1
    go_enter Tryz.func34, Tryz.ntmps34
    go_wp2
    go_ret
    rw [HR.out]
    exact ⟨rfl, by repeat (first | exact Below.refl _ _ | refine below_alloc ?_ _)⟩
  · have h1b : decide (a < x) = false := by simpa using h1
    by_cases h2 : a = x
    · have h2b : (a == x) = true := by simpa using h2
      by_cases h3 : b < y
      · have h3b : decide (b < y) = true := by simpa using h3
        have HR := Lib.hid (show aheadB (a, b) (x, y) = true by simp [aheadB, h2, h3])
        clear h1 h2 h3
        go_enter Tryz.func34, Tryz.ntmps34
        go_wp2
        go_ret
        rw [HR.out]
        exact ⟨rfl, by repeat (first | exact Below.refl _ _ | refine below_alloc ?_ _)⟩
      · have h3b : decide (b < y) = false := by simpa using h3
        have HR := Lib.hid (show aheadB (a, b) (x, y) = false by simp [aheadB, h2]; omega)
        clear h1 h2 h3
        go_enter Tryz.func34, Tryz.ntmps34
        go_wp2
        go_ret
        rw [HR.out]
        exact ⟨rfl, by repeat (first | exact Below.refl _ _ | refine below_alloc ?_ _)⟩
    · have h2b : (a == x) = false := by simpa using h2
      have HR := Lib.hid (show aheadB (a, b) (x, y) = false by simp [aheadB, h2]; omega)
      clear h1 h2
      go_enter Tryz.func34, Tryz.ntmps34
      go_wp2
      go_ret
      rw [HR.out]
      exact ⟨rfl, by repeat (first | exact Below.refl _ _ | refine below_alloc ?_ _)⟩
theorem not_zero {x y : Int} (h : x < y) : ((x == (0 : Int)) && (y == 0)) = false := by
  rw [Bool.and_eq_false_iff]
  by_cases h0 : x = 0
  · right
    simp
    omega
  · left
    simpa using h0
theorem lit_row (W : World) (t : TypeId) (xs : List Int) (hm : xs.length ≤ 9223372036854775807) {n g : Nat} {cs : Array Value} (hg : g = W.heap.size) (hn : n = xs.length) (hcs : cs = (encs (Value.int .i64) xs).toArray) : (Kd.int .i64).R t (W.alloc (.cells cs t)) W.heap.size (fun _ => True) (.slice (some ⟨g, 0, none⟩) n n) xs := by
  subst hg hn hcs
  exact Kd.R_of_own (own_lit_of (enc := Value.int .i64) W W.heap.size t xs (Nat.le_refl _) hm) (fun _ _ => trivial)
theorem own_not {w : World} {base e g : Nat} {v : Value} {xs : List Int} {ok : Nat → Prop} {cs : Array Value} {t : Nat} {x : Nat × Nat} (h : (Kd.int .i64).R e w base ok v xs) (hg : w.heap[g]? = some (.cells cs t x)) (hne : t ≠ e) : some g ≠ v.ownBlock := by
  intro he
  obtain ⟨_, _, _, q, hq, cells, hc⟩ := (Kd.R_bound h).1 g he.symm
  rw [hg] at hc
  injection hc with hc
  injection hc with _ ht _
  have hq' : q = e := by simpa [Kd.int, Kd.scalar] using hq
  exact hne (ht.trans hq')
theorem foldl_take (a : Int) (ls : List (Int × Int)) (l : List Int) (j : Nat) (h : j < ls.length) : (ls.take (j + 1)).foldl (stepk a) l = stepk a ((ls.take j).foldl (stepk a) l) (lkAt ls j) := by
  rw [take_lk ls j h, List.foldl_append]
  rfl
theorem rd_pre (l t : List Int) (i : Nat) (h : i < l.length) : rd (l ++ t) i = rd l i := by
  rw [rd_get _ _ (by simp; omega), rd_get _ _ h, List.getElem_append_left h]
set_option maxRecDepth 100000 in
set_option maxHeartbeats 2000000 in
theorem reach_calls (w : World) (A B : Option Addr) (n c d : Nat) (ms : List Int) (ls : List (Int × Int)) (r : Int) (hl : kLk.C w B ls.length ls) (hL : ∀ k ∈ ls, k.1 < k.2 ∧ k.1 ∈ ms ∧ k.2 ∈ ms) (h8 : ms.length ≤ 8) (hr : r ∈ ms) :
    Calls Tryz.prog 35 #[.agg #[.slice A n c, .slice B ls.length d], .int .i64 r, .agg #[.int .i64 0, .int .i64 0]] w fun e w' => ∃ v, e = .returned v ∧ (Kd.int .i64).R 3 w' w.heap.size (fun _ => True) v (reachL ls r) ∧ Below w.heap.size w w' := by
  have HL := Lib.hid hl
  have HLS := Lib.hid hL
  have H8 := Lib.hid h8
  have HST := Lib.hid (RInv.start (ls := ls) hr)
  have hm2 : (ls.length : Int) ≤ 9223372036854775807 := by have : ls.length ≤ 9223372036854775807 := hl.2.1; omega
  clear hl hL h8 hr
  go_enter Tryz.func35, Tryz.ntmps35
  go_upto_region 1 with (fail)
  obtain ⟨wz, hwz⟩ : ∃ wz, wz = (w.alloc (.cells #[.slice A n c, .slice B ls.length d] 25)).alloc (.cells #[.int .i64 0, .int .i64 0] 86) := ⟨_, rfl⟩
  rw [← hwz]
  have HSZ := Lib.hid (show wz.heap.size = w.heap.size + 1 + 1 by rw [hwz, alloc_sz, alloc_sz])
  have HBG := Aside0.mk (show wz.heap[w.heap.size]? = some (.cells #[.slice A n c, .slice B ls.length d] 25 (0, 0)) by rw [hwz, heap_old _ _ _ (by rw [alloc_sz]; omega)]; exact heap_alloc_new _ _)
  have HBB := Aside0.mk (show wz.heap[w.heap.size + 1]? = some (.cells #[.int .i64 0, .int .i64 0] 86 (0, 0)) by rw [hwz]; have := heap_alloc_new (w.alloc (.cells #[.slice A n c, .slice B ls.length d] 25)) (.cells #[.int .i64 0, .int .i64 0] 86); rw [alloc_sz] at this; exact this)
  have HBW := Aside0.mk (show Below w.heap.size w wz by rw [hwz]; exact below_alloc (below_alloc (Below.refl _ _) _) _)
  have HLZ := Lib.hid (Kd.C_below HL.out HBW.out)
  clear hwz
  go_wp2
  go_loopw [7, 8] (fun v7 v8 wr => ∃ (i : Nat) (l : List Int), v8 = .int .i64 i ∧ i ≤ l.length ∧ Aside0 ((Kd.int .i64).R 3 wr wz.heap.size (fun _ => True) v7 l) ∧ Aside0 (Below wz.heap.size wz wr) ∧ Hid (RInv ms ls r l ∧ reachL ls r = reachF ls (9 - i) i l)) (fun _ v _ => 9 - (intOf v).toNat)
  case atStart => exact ⟨0, [r], rfl, by simp, ⟨lit_row wz 3 [r] (by simp) rfl rfl rfl⟩, ⟨below_alloc (Below.refl _ _) _⟩, HST.out, rfl⟩
  case round =>
    obtain ⟨i, l, rfl, hi, HK, HB, HI⟩ := hrel
    obtain ⟨A7, c7, rfl⟩ := Kd.R_slice HK.out
    have hl8 : l.length ≤ 8 := Nat.le_trans HI.out.1.len H8.out
    have hl8i : (l.length : Int) ≤ 8 := by omega
    have HL8 := Lib.hid hl8
    by_cases hlt : i < l.length
    · have HLT := Lib.hid hlt
      have i0 : (0 : Int) ≤ i := by omega
      have i1 : (i : Int) < l.length := by omega
      obtain ⟨a, ha⟩ : ∃ a, a = rd l i := ⟨_, rfl⟩
      have HA := Lib.hid ha
      have HAM := Lib.hid (show a ∈ l by rw [ha]; exact rd_mem l i hlt)
      have HRF := Lib.hid (show reachL ls r = reachF ls (9 - (i + 1)) (i + 1) (ls.foldl (stepk a) l) by
        rw [HI.out.2, show 9 - i = 9 - (i + 1) + 1 by omega]
        simp only [reachF, if_pos hlt, ha])
      obtain ⟨g0, g1⟩ := P_cells (x := (0, 0)) ((HB.out.block _ (by rw [HSZ.out]; omega)).trans HBG.out)
      clear hlt ha hl8 hi
      go_wp2
      clear g0 g1
      rename World => wo
      go_loopw [7, 22] (fun v7 v22 wr => ∃ (j : Nat) (lj : List Int), v22 = .int .i64 j ∧ j ≤ ls.length ∧ Aside0 ((Kd.int .i64).R 3 wr wz.heap.size (fun _ => True) v7 lj) ∧ Aside0 (Below wz.heap.size wz wr) ∧ Hid (lj = (ls.take j).foldl (stepk a) l ∧ RInv ms ls r lj ∧ ∃ t, lj = l ++ t)) (fun _ v _ => ls.length - (intOf v).toNat)
      case atStart => exact ⟨0, l, rfl, Nat.zero_le _, HK, HB, rfl, HI.out.1, [], by simp⟩
      case round =>
        obtain ⟨j, lj, rfl, hj, HKJ, HBJ, HIJ⟩ := hrel
        obtain ⟨A9, c9, rfl⟩ := Kd.R_slice HKJ.out
        have hlj8 : lj.length ≤ 8 := Nat.le_trans HIJ.out.2.1.len H8.out
        have hlj8i : (lj.length : Int) ≤ 8 := by omega
        have hij : i < lj.length := by obtain ⟨t, ht⟩ := HIJ.out.2.2; have := HLT.out; rw [ht, List.length_append]; omega
        have haj : rd lj i = a := by obtain ⟨t, ht⟩ := HIJ.out.2.2; rw [ht, rd_pre l t i HLT.out, HA.out]
        have hamj : a ∈ lj := by rw [← haj]; exact rd_mem lj i hij
        by_cases hlt : j < ls.length
        · obtain ⟨ad, rfl, hc0, hc1⟩ := Lk_cell (Kd.C_below HLZ.out HBJ.out) hlt
          obtain ⟨h12, hm1, hm2'⟩ := HLS.out _ (lkAt_mem ls j hlt)
          have HFT := Lib.hid (foldl_take a ls l j hlt)
          rw [← HIJ.out.1] at HFT
          have HSTP := Lib.hid (HIJ.out.2.1.step hamj (lkAt_mem ls j hlt) hm1 hm2')
          have HPRE := Lib.hid (stepk_pre a lj (lkAt ls j))
          obtain ⟨x, hx⟩ : ∃ x, x = lkAt ls j := ⟨_, rfl⟩
          rw [← hx] at hc0 hc1 h12 HFT HSTP HPRE
          obtain ⟨x1, x2⟩ := x
          simp only [] at hc0 hc1 h12
          have j0 : (0 : Int) ≤ j := by omega
          have j1 : (j : Int) < ls.length := by omega
          have HLJ := Lib.hid hlt
          have ij1 : (i : Int) < lj.length := by omega
          have HIL := Lib.hid hij
          have HAJ := Lib.hid haj
          clear hlt hx hm1 hm2' hij haj hamj hlj8
          go_upto_region 8 with (fail)
          obtain ⟨w0, hw0⟩ : ∃ w0, w0 = wr.alloc (.cells #[.int .i64 x1, .int .i64 x2] 86) := ⟨_, rfl⟩
          rw [← hw0]
          have HBX := Aside0.mk (show w0.heap[wr.heap.size]? = some (.cells #[.int .i64 x1, .int .i64 x2] 86 (0, 0)) by rw [hw0]; exact heap_alloc_new _ _)
          have HB0 := Aside0.mk (show Below wz.heap.size wz w0 by rw [hw0]; exact below_alloc HBJ.out _)
          have HK0 := Aside0.mk (show (Kd.int .i64).R 3 w0 wz.heap.size (fun _ => True) (.slice A9 lj.length c9) lj by rw [hw0]; exact Kd.R_alloc HKJ.out _)
          clear hw0 hc0 hc1
          have HC7 := Lib.hid (Kd.R_reads' HK0.out).2.2
          obtain ⟨b0, b1⟩ := P_cells (x := (0, 0)) HBX.out
          obtain ⟨g0, g1⟩ := P_cells (x := (0, 0)) ((HB0.out.block _ (by rw [HSZ.out]; omega)).trans HBB.out)
          obtain ⟨ad9, rfl, hci⟩ := C_cell HC7.out HIL.out
          rw [HAJ.out] at hci
          have hne : ∀ W : World, (binOp .eql 86 (.agg #[.int .i64 x1, .int .i64 x2]) (.agg #[.int .i64 0, .int .i64 0])).run Tryz.prog W = .ok (.bool false) W := fun W => by
            rw [link_eql, not_zero h12]
          by_cases e1 : x1 = a
          · have e1b : (x1 == a) = true := by simpa using e1
            have e2b : (x2 == a) = false := beq_eq_false_iff_ne.2 (by omega)
            by_cases e3 : x2 ∈ lj
            · have e3b : decide (x2 ∈ lj) = true := decide_eq_true e3
              have HE := Lib.hid (show stepk a lj (x1, x2) = lj by simp [stepk, add1, e1, e3])
              clear e1 e3
              go_upto_region 9 with (fail)
              clear hne
              go_quiet ((go_at_call 33; exact Calls.quiet_of_same ((has_calls _ _ _ lj _ (Kd.C_drewN HC7.out _)).mono fun _ _ ⟨h, k⟩ => ⟨h, k.symm⟩)))
              go_upto_region 11 with (fail)
              obtain ⟨w2, hw2⟩ : ∃ w2, w2 = w0.drewN nq := ⟨_, rfl⟩
              rw [← hw2]
              have HBX2 := Aside0.mk (show w2.heap[wr.heap.size]? = some (.cells #[.int .i64 x1, .int .i64 x2] 86 (0, 0)) by rw [hw2]; exact HBX.out)
              have HB2 := Aside0.mk (show Below wz.heap.size wz w2 by rw [hw2]; exact pw_below_drewN HB0.out _)
              have HK2 := Aside0.mk (show (Kd.int .i64).R 3 w2 wz.heap.size (fun _ => True) (.slice (some ad9) lj.length c9) lj by rw [hw2]; exact Kd.R_drewN HK0.out _)
              have HC7b := Lib.hid (Kd.R_reads' HK2.out).2.2
              clear hw2 b0 b1 g0 g1 hci
              obtain ⟨b0, b1⟩ := P_cells (x := (0, 0)) HBX2.out
              obtain ⟨_, e, hci⟩ := C_cell HC7b.out HIL.out
              cases e
              rw [HAJ.out] at hci
              go_quiet (fail)
              go_wp2
              go_roundw
              case rel => exact ⟨j + 1, lj, by go_num, by have := HLJ.out; omega, ⟨Kd.R_drewN HK2.out _⟩, ⟨pw_below_drewN HB2.out _⟩, by rw [HFT.out, HE.out], by rw [← HE.out]; exact HSTP.out, by rw [← HE.out]; obtain ⟨t, ht⟩ := HIJ.out.2.2; obtain ⟨t2, ht2⟩ := HPRE.out; exact ⟨t ++ t2, by rw [ht2, ht, List.append_assoc]⟩⟩
              case measure => have := HLJ.out; simp [intOf]; omega
            · have e3b : decide (x2 ∈ lj) = false := decide_eq_false e3
              have HE := Lib.hid (show stepk a lj (x1, x2) = lj ++ [x2] by simp [stepk, add1, e1, e3])
              clear e1 e3
              go_upto_region 9 with (fail)
              clear hne
              go_quiet ((go_at_call 33; exact Calls.quiet_of_same ((has_calls _ _ _ lj _ (Kd.C_drewN HC7.out _)).mono fun _ _ ⟨h, k⟩ => ⟨h, k.symm⟩)))
              go_upto_region 10 with (fail)
              obtain ⟨w2, hw2⟩ : ∃ w2, w2 = w0.drewN nq := ⟨_, rfl⟩
              rw [← hw2]
              have HBX2 := Aside0.mk (show w2.heap[wr.heap.size]? = some (.cells #[.int .i64 x1, .int .i64 x2] 86 (0, 0)) by rw [hw2]; exact HBX.out)
              have HB2 := Aside0.mk (show Below wz.heap.size wz w2 by rw [hw2]; exact pw_below_drewN HB0.out _)
              have HK2 := Aside0.mk (show (Kd.int .i64).R 3 w2 wz.heap.size (fun _ => True) (.slice (some ad9) lj.length c9) lj by rw [hw2]; exact Kd.R_drewN HK0.out _)
              have HC7b := Lib.hid (Kd.R_reads' HK2.out).2.2
              clear hw2 b0 b1 g0 g1 hci
              obtain ⟨b0, b1⟩ := P_cells (x := (0, 0)) HBX2.out
              go_upto_region 11 with (at_builtin; refine Kd.R_append (Kd.int .i64) (w0 := wz) (W := w2) wz.heap.size rfl _ _ 22 3 (.int .i64 0) 8 rfl Tryz.underlying22 info3 rfl (by decide) (by omega) _ lj x2 [.int .i64 x2] (fun _ => True) (fun _ => False) rfl rfl rfl (fun _ hk => hk.elim) (fun _ _ => trivial) (by exact HK2.out) HB2.out HB2.out.size (by omega) ?_; intro v3 w3 ho hb hg hat; have HK3 := Aside0.mk ho; have HB3 := Aside0.mk hb; have HBX3 := Aside0.mk ((hg.block _ (blk_lt HBX2.out) (own_not HK2.out HBX2.out (by decide))).trans HBX2.out); clear ho hb hg hat)
              clear b0 b1
              obtain ⟨A3, c3, rfl⟩ := Kd.R_slice HK3.out
              have HC3 := Lib.hid (Kd.R_reads' HK3.out).2.2
              have HIL3 := Lib.hid (show i < (lj ++ [x2]).length by have := HIL.out; simp; omega)
              obtain ⟨b0, b1⟩ := P_cells (x := (0, 0)) HBX3.out
              obtain ⟨ad3, rfl, hci⟩ := C_cell HC3.out HIL3.out
              rw [rd_pre lj [x2] i HIL.out, HAJ.out] at hci
              obtain ⟨lk, hlk⟩ : ∃ lk, lk = lj ++ [x2] := ⟨_, rfl⟩
              have HLK := Lib.hid hlk
              rw [← hlk] at HK3 HC3 HIL3 ⊢
              have hlkn : (lk.length : Int) = (lj.length : Int) + 1 := by rw [hlk]; simp
              have ij3 : (i : Int) < lk.length := by omega
              clear hlk
              go_quiet (fail)
              go_wp2
              go_roundw
              case rel => exact ⟨j + 1, lk, by go_num, by have := HLJ.out; omega, ⟨Kd.R_drewN HK3.out _⟩, ⟨pw_below_drewN HB3.out _⟩, by rw [HFT.out, (HE.out.trans HLK.out.symm)], by rw [← (HE.out.trans HLK.out.symm)]; exact HSTP.out, by rw [← (HE.out.trans HLK.out.symm)]; obtain ⟨t, ht⟩ := HIJ.out.2.2; obtain ⟨t2, ht2⟩ := HPRE.out; exact ⟨t ++ t2, by rw [ht2, ht, List.append_assoc]⟩⟩
              case measure => have := HLJ.out; simp [intOf]; omega
          · have e1b : (x1 == a) = false := by simpa using e1
            by_cases e2 : x2 = a
            · have e2b : (x2 == a) = true := by simpa using e2
              by_cases e3 : x1 ∈ lj
              · have e3b : decide (x1 ∈ lj) = true := decide_eq_true e3
                have HE := Lib.hid (show stepk a lj (x1, x2) = lj by simp [stepk, add1, e1, e2, e3])
                clear e1 e2 e3
                go_upto_region 9 with (fail)
                clear hne
                go_quiet (fail)
                go_upto_region 11 with (fail)
                obtain ⟨w2, hw2⟩ : ∃ w2, w2 = w0.drewN nq := ⟨_, rfl⟩
                rw [← hw2]
                have HBX2 := Aside0.mk (show w2.heap[wr.heap.size]? = some (.cells #[.int .i64 x1, .int .i64 x2] 86 (0, 0)) by rw [hw2]; exact HBX.out)
                have HB2 := Aside0.mk (show Below wz.heap.size wz w2 by rw [hw2]; exact pw_below_drewN HB0.out _)
                have HK2 := Aside0.mk (show (Kd.int .i64).R 3 w2 wz.heap.size (fun _ => True) (.slice (some ad9) lj.length c9) lj by rw [hw2]; exact Kd.R_drewN HK0.out _)
                have HC7b := Lib.hid (Kd.R_reads' HK2.out).2.2
                clear hw2 b0 b1 g0 g1 hci
                obtain ⟨b0, b1⟩ := P_cells (x := (0, 0)) HBX2.out
                obtain ⟨_, e, hci⟩ := C_cell HC7b.out HIL.out
                cases e
                rw [HAJ.out] at hci
                go_quiet ((go_at_call 33; exact Calls.quiet_of_same ((has_calls _ _ _ lj _ (Kd.C_drewN HC7b.out _)).mono fun _ _ ⟨h, k⟩ => ⟨h, k.symm⟩)))
                go_wp2
                go_roundw
                case rel => exact ⟨j + 1, lj, by go_num, by have := HLJ.out; omega, ⟨Kd.R_drewN HK2.out _⟩, ⟨pw_below_drewN HB2.out _⟩, by rw [HFT.out, HE.out], by rw [← HE.out]; exact HSTP.out, by rw [← HE.out]; obtain ⟨t, ht⟩ := HIJ.out.2.2; obtain ⟨t2, ht2⟩ := HPRE.out; exact ⟨t ++ t2, by rw [ht2, ht, List.append_assoc]⟩⟩
                case measure => have := HLJ.out; simp [intOf]; omega
              · have e3b : decide (x1 ∈ lj) = false := decide_eq_false e3
                have HE := Lib.hid (show stepk a lj (x1, x2) = lj ++ [x1] by simp [stepk, add1, e1, e2, e3])
                clear e1 e2 e3
                go_upto_region 9 with (fail)
                clear hne
                go_quiet (fail)
                go_upto_region 11 with (fail)
                obtain ⟨w1, hw1⟩ : ∃ w1, w1 = w0.drewN nq := ⟨_, rfl⟩
                rw [← hw1]
                have HBX2 := Aside0.mk (show w1.heap[wr.heap.size]? = some (.cells #[.int .i64 x1, .int .i64 x2] 86 (0, 0)) by rw [hw1]; exact HBX.out)
                have HB2 := Aside0.mk (show Below wz.heap.size wz w1 by rw [hw1]; exact pw_below_drewN HB0.out _)
                have HK2 := Aside0.mk (show (Kd.int .i64).R 3 w1 wz.heap.size (fun _ => True) (.slice (some ad9) lj.length c9) lj by rw [hw1]; exact Kd.R_drewN HK0.out _)
                have HC7b := Lib.hid (Kd.R_reads' HK2.out).2.2
                clear hw1 b0 b1 g0 g1 hci
                obtain ⟨b0, b1⟩ := P_cells (x := (0, 0)) HBX2.out
                obtain ⟨_, e, hci⟩ := C_cell HC7b.out HIL.out
                cases e
                rw [HAJ.out] at hci
                go_quiet ((go_at_call 33; exact Calls.quiet_of_same ((has_calls _ _ _ lj _ (Kd.C_drewN HC7b.out _)).mono fun _ _ ⟨h, k⟩ => ⟨h, k.symm⟩)))
                go_upto_region 12 with (fail)
                obtain ⟨w2, hw2⟩ : ∃ w2, w2 = w1.drewN nq := ⟨_, rfl⟩
                rw [← hw2]
                have HK2 := Aside0.mk (show (Kd.int .i64).R 3 w2 wz.heap.size (fun _ => True) (.slice (some ad9) lj.length c9) lj by rw [hw2]; exact Kd.R_drewN HK2.out _)
                have HB2 := Aside0.mk (show Below wz.heap.size wz w2 by rw [hw2]; exact pw_below_drewN HB2.out _)
                have HBX2 := Aside0.mk (show w2.heap[wr.heap.size]? = some (.cells #[.int .i64 x1, .int .i64 x2] 86 (0, 0)) by rw [hw2]; exact HBX2.out)
                clear hw2 b0 b1 hci
                obtain ⟨b0, b1⟩ := P_cells (x := (0, 0)) HBX2.out
                go_wp2_with (at_builtin; refine Kd.R_append (Kd.int .i64) (w0 := wz) (W := w2) wz.heap.size rfl _ _ 22 3 (.int .i64 0) 8 rfl Tryz.underlying22 info3 rfl (by decide) (by omega) _ lj x1 [.int .i64 x1] (fun _ => True) (fun _ => False) rfl rfl rfl (fun _ hk => hk.elim) (fun _ _ => trivial) (by exact HK2.out) HB2.out HB2.out.size (by omega) ?_; intro v3 w3 ho hb hg hat; have HK3 := Aside0.mk ho; have HB3 := Aside0.mk hb; have HBX3 := Aside0.mk ((hg.block _ (blk_lt HBX2.out) (own_not HK2.out HBX2.out (by decide))).trans HBX2.out); clear ho hb hg hat)
                go_roundw
                case rel => exact ⟨j + 1, lj ++ [x1], by go_num, by have := HLJ.out; omega, HK3, HB3, by rw [HFT.out, HE.out], by rw [← HE.out]; exact HSTP.out, by rw [← HE.out]; obtain ⟨t, ht⟩ := HIJ.out.2.2; obtain ⟨t2, ht2⟩ := HPRE.out; exact ⟨t ++ t2, by rw [ht2, ht, List.append_assoc]⟩⟩
                case measure => have := HLJ.out; simp [intOf]; omega
            · have e2b : (x2 == a) = false := by simpa using e2
              have HE := Lib.hid (show stepk a lj (x1, x2) = lj by simp [stepk, e1, e2])
              clear e1 e2
              go_upto_region 9 with (fail)
              clear hne
              go_quiet (fail)
              go_upto_region 11 with (fail)
              obtain ⟨w2, hw2⟩ : ∃ w2, w2 = w0.drewN nq := ⟨_, rfl⟩
              rw [← hw2]
              have HBX2 := Aside0.mk (show w2.heap[wr.heap.size]? = some (.cells #[.int .i64 x1, .int .i64 x2] 86 (0, 0)) by rw [hw2]; exact HBX.out)
              have HB2 := Aside0.mk (show Below wz.heap.size wz w2 by rw [hw2]; exact pw_below_drewN HB0.out _)
              have HK2 := Aside0.mk (show (Kd.int .i64).R 3 w2 wz.heap.size (fun _ => True) (.slice (some ad9) lj.length c9) lj by rw [hw2]; exact Kd.R_drewN HK0.out _)
              have HC7b := Lib.hid (Kd.R_reads' HK2.out).2.2
              clear hw2 b0 b1 g0 g1 hci
              obtain ⟨b0, b1⟩ := P_cells (x := (0, 0)) HBX2.out
              obtain ⟨_, e, hci⟩ := C_cell HC7b.out HIL.out
              cases e
              rw [HAJ.out] at hci
              go_quiet (fail)
              go_wp2
              go_roundw
              case rel => exact ⟨j + 1, lj, by go_num, by have := HLJ.out; omega, ⟨Kd.R_drewN HK2.out _⟩, ⟨pw_below_drewN HB2.out _⟩, by rw [HFT.out, HE.out], by rw [← HE.out]; exact HSTP.out, by rw [← HE.out]; obtain ⟨t, ht⟩ := HIJ.out.2.2; obtain ⟨t2, ht2⟩ := HPRE.out; exact ⟨t ++ t2, by rw [ht2, ht, List.append_assoc]⟩⟩
              case measure => have := HLJ.out; simp [intOf]; omega
        · have j1 : ¬ (j : Int) < ls.length := by omega
          have HFE := Lib.hid (show lj = ls.foldl (stepk a) l by rw [HIJ.out.1, List.take_of_length_le (by omega)])
          clear hlt haj hamj hlj8
          go_wp2
          go_roundw
          case rel => exact ⟨i + 1, lj, by go_num, by omega, HKJ, HBJ, HIJ.out.2.1, by rw [HFE.out]; exact HRF.out⟩
          case measure => have := HLT.out; have := HL8.out; simp [intOf]; omega
    · have i1 : ¬ (i : Int) < l.length := by omega
      have HRE := Lib.hid (show reachL ls r = l by
        rw [HI.out.2]
        cases h9 : 9 - i with
        | zero => rfl
        | succ f => simp only [reachF, if_neg hlt])
      clear hlt hl8
      go_wp2
      go_ret
      exact ⟨_, rfl, by rw [HRE.out]; exact Kd.R_lower HK.out HBW.out.size, below_step HBW.out HB.out⟩
end Go.Proofs.YtadaoplmicghcaaGreatDoor
namespace Go.Proofs.YtadaoplmicghcaaGreatDoor
open Go.RowKit Go.Proofs.YtadaoplmicghcaaGreatDoorW.PrintWords Go.Proofs.YtadaoplmicghcaaGreatDoorW.PrintLast Go.Proofs.YtadaoplmicghcaaGreatDoorW.PrintMore
set_option linter.unusedVariables false
set_option linter.unusedSimpArgs false
/-- The numbers from -1 on, so many, that stand in a list. -/
def pickTo (l : List Int) : Nat → List Int
  | 0 => []
  | k + 1 => pickTo l k ++ (if ((k : Int) - 1) ∈ l then [(k : Int) - 1] else [])
def sorted15 (l : List Int) : List Int := pickTo l 10
theorem pickTo_len (l : List Int) : ∀ k, (pickTo l k).length ≤ k
  | 0 => by simp [pickTo]
  | k + 1 => by
    have := pickTo_len l k
    simp only [pickTo, List.length_append]
    split <;> simp <;> omega
theorem pickTo_mem (l : List Int) : ∀ k x, x ∈ pickTo l k ↔ x ∈ l ∧ -1 ≤ x ∧ x < (k : Int) - 1
  | 0, x => by
    simp only [pickTo, List.not_mem_nil, false_iff]
    rintro ⟨_, h1, h2⟩
    omega
  | k + 1, x => by
    have ih := pickTo_mem l k x
    simp only [pickTo, List.mem_append, ih]
    by_cases h : ((k : Int) - 1) ∈ l
    · rw [if_pos h]
      simp only [List.mem_singleton]
      constructor
      · rintro (⟨h1, h2, h3⟩ | rfl)
        · exact ⟨h1, h2, by omega⟩
        · exact ⟨h, by omega, by omega⟩
      · rintro ⟨h1, h2, h3⟩
        by_cases e : x = (k : Int) - 1
        · exact .inr e
        · exact .inl ⟨h1, h2, by omega⟩
    · rw [if_neg h]
      simp only [List.not_mem_nil, or_false]
      constructor
      · rintro ⟨h1, h2, h3⟩
        exact ⟨h1, h2, by omega⟩
      · rintro ⟨h1, h2, h3⟩
        refine ⟨h1, h2, ?_⟩
        by_cases e : x = (k : Int) - 1
        · subst e; exact absurd h1 h
        · omega
theorem pickTo_sorted (l : List Int) : ∀ k, (pickTo l k).Pairwise (· < ·)
  | 0 => by simp [pickTo]
  | k + 1 => by
    simp only [pickTo]
    rw [List.pairwise_append]
    refine ⟨pickTo_sorted l k, by split <;> simp, fun a ha b hb => ?_⟩
    have h1 := ((pickTo_mem l k a).1 ha).2.2
    split at hb
    · simp at hb; omega
    · simp at hb
set_option maxRecDepth 100000 in
theorem sorted_calls (w : World) (A : Option Addr) (c : Nat) (l : List Int) (hr : (Kd.int .i64).C w A l.length l) :
    Calls Tryz.prog 61 #[.slice A l.length c] w fun e w' => ∃ v, e = .returned v ∧ (Kd.int .i64).R 3 w' w.heap.size (fun _ => True) v (sorted15 l) ∧ Below w.heap.size w w' := by
  have HR := Lib.hid hr
  have hm : (l.length : Int) ≤ 9223372036854775807 := by have : l.length ≤ 9223372036854775807 := hr.2.1; omega
  clear hr
  go_enter Tryz.func61, Tryz.ntmps61
  go_wp2
  go_loopw [3, 4] (fun v3 v4 wr => ∃ k : Nat, v4 = .int .i64 ((k : Int) - 1) ∧ k ≤ 10 ∧ Aside0 ((Kd.int .i64).R 3 wr w.heap.size (fun _ => True) v3 (pickTo l k)) ∧ Aside0 (Below w.heap.size w wr)) (fun _ v _ => 10 - ((intOf v) + 1).toNat)
  case atStart => exact ⟨0, rfl, by omega, ⟨Kd.R_nil _ _ _ _ _⟩, ⟨Below.refl _ _⟩⟩
  case round =>
    obtain ⟨k, rfl, hk, HK, HB⟩ := hrel
    obtain ⟨n, hn⟩ : ∃ n : Int, n = (k : Int) - 1 := ⟨_, rfl⟩
    have HN := Lib.hid hn
    have hk1 : (k : Int) = n + 1 := by omega
    rw [← hn]
    by_cases hlt : k < 10
    · have n1 : n ≤ 8 := by omega
      have n0 : -1 ≤ n := by omega
      have HLT := Lib.hid hlt
      have HPL := Lib.hid (pickTo_len l k)
      obtain ⟨P, hP⟩ : ∃ P, P = pickTo l k := ⟨_, rfl⟩
      by_cases hin : n ∈ l
      · have hib : decide (n ∈ l) = true := decide_eq_true hin
        have HPT := Lib.hid (show pickTo l (k + 1) = P ++ [n] by rw [hP, hn] at *; simp only [pickTo]; rw [if_pos hin])
        rw [← hP] at HK HPL
        clear hin hlt hP hn
        go_wp2_with (first
          | (go_at_call 33; refine (has_calls wr _ _ l n (Kd.C_below HR.out HB.out)).mono ?_; rintro e w1 ⟨rfl, rfl⟩; rw [hib])
          | (at_builtin; refine app_rows w.heap.size rfl _ _ rfl _ P [n] _ 1 1 rfl rfl (by exact Kd.R_alloc HK.out _) (lit_at _ _ [n] (by simp) (by simp) rfl rfl) (by have := HB.out.size; simp; omega) (by have := HPL.out; have := HLT.out; omega) ?_; intro v1 w1 ho hb; have HO := Aside0.mk ho; have HB1 := Aside0.mk (below_weaken (below_alloc HB.out _) (Nat.le_refl _) hb); clear ho hb))
        go_roundw
        case rel => exact ⟨k + 1, by have := HN.out; go_num, by have := HLT.out; omega, ⟨by rw [HPT.out]; exact HO.out⟩, HB1⟩
        case measure => have := HLT.out; have := HN.out; simp [intOf]; omega
      · have hib : decide (n ∈ l) = false := decide_eq_false hin
        have HPT := Lib.hid (show pickTo l (k + 1) = pickTo l k by rw [hn] at hin; simp only [pickTo]; rw [if_neg hin]; simp)
        clear hin hlt hP hn
        go_wp2_with (go_at_call 33; refine (has_calls wr _ _ l n (Kd.C_below HR.out HB.out)).mono ?_; rintro e w1 ⟨rfl, rfl⟩; rw [hib])
        go_roundw
        case rel => exact ⟨k + 1, by have := HN.out; go_num, by have := HLT.out; omega, ⟨by rw [HPT.out]; exact HK.out⟩, HB⟩
        case measure => have := HLT.out; have := HN.out; simp [intOf]; omega
    · have n1 : ¬ n ≤ 8 := by omega
      have HH := Lib.hid (show k = 10 by omega)
      clear hlt hn
      go_wp2
      go_ret
      exact ⟨_, rfl, by have := HK.out; rw [HH.out] at this; exact this, HB.out⟩
/-- The neighbours of a node, in the links' order. -/
def nearOf (n : Int) : List (Int × Int) → List Int
  | [] => []
  | k :: ls => (if k.1 = n then [k.2] else []) ++ ((if k.2 = n then [k.1] else []) ++ nearOf n ls)
theorem nearOf_app (n : Int) (a b : List (Int × Int)) : nearOf n (a ++ b) = nearOf n a ++ nearOf n b := by
  induction a with
  | nil => rfl
  | cons k a ih => simp [nearOf, ih]
theorem nearOf_mem {n v : Int} {ls : List (Int × Int)} : v ∈ nearOf n ls ↔ WvTree.Edge ls n v := by
  unfold WvTree.Edge
  induction ls with
  | nil => simp [nearOf]
  | cons k ls ih =>
    simp only [nearOf, List.mem_append, ih, List.mem_cons]
    obtain ⟨a, b⟩ := k
    constructor
    · rintro (h | h | h | h)
      · split at h
        · rename_i e; simp at h; left; left; simp [← e, h]
        · simp at h
      · split at h
        · rename_i e; simp at h; right; left; simp [← e, h]
        · simp at h
      · exact .inl (.inr h)
      · exact .inr (.inr h)
    · rintro ((h | h) | (h | h))
      · injection h with h1 h2; left; rw [if_pos h1.symm]; simp [h2]
      · exact .inr (.inr (.inl h))
      · injection h with h1 h2; right; left; rw [if_pos h2.symm]; simp [h1]
      · exact .inr (.inr (.inr h))
theorem nearOf_len (n : Int) (ls : List (Int × Int)) : (nearOf n ls).length ≤ 2 * ls.length := by
  induction ls with
  | nil => simp [nearOf]
  | cons k ls ih =>
    simp only [nearOf, List.length_append, List.length_cons]
    split <;> split <;> simp <;> omega
theorem nearOf_take (n : Int) (ls : List (Int × Int)) (j : Nat) (h : j < ls.length) : nearOf n (ls.take (j + 1)) = nearOf n (ls.take j) ++ ((if (lkAt ls j).1 = n then [(lkAt ls j).2] else []) ++ (if (lkAt ls j).2 = n then [(lkAt ls j).1] else [])) := by
  rw [take_lk ls j h, nearOf_app]
  simp [nearOf]
def near15 (ls : List (Int × Int)) (n : Int) : List Int := sorted15 (nearOf n ls)
end Go.Proofs.YtadaoplmicghcaaGreatDoor
