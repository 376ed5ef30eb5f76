/- link: with, more, take, begin: lists in new memory. -/
import Derived.Test.YtcdhjkkdenhmcaaLkC
namespace Go.Proofs.Ytcdhjkkdenhmcaa
open Go.RowKit Go.Proofs.YtcdhjkkdenhmcaaW.PrintWords Go.Proofs.YtcdhjkkdenhmcaaW.PrintLast Go.Proofs.YtcdhjkkdenhmcaaW.PrintMore
set_option linter.unusedVariables false
set_option linter.unusedSimpArgs false
def kPk : Kd (List UInt8 × Int) := Kd.pair (Kd.slice 5 kB) (Kd.int .i64)
theorem infoPk : (Try.prog.info? 65).map (fun i => (i.zero, i.size, i.bytes)) = some (some (.agg #[.slice none 0 0, .int .i64 0]), 2, 32) := by kernel_rfl
/-- An empty list that was made now. -/
theorem N_empty {α : Type} (d : Kd α) (e : Nat) (W : World) (base : Nat) (ok : Nat → Prop) (hb : base ≤ W.heap.size) (hok : ok W.heap.size) : Kd.N d e (W.alloc (.cells #[] e)) base ok (.slice (some ⟨W.heap.size, 0, none⟩) 0 0) [] :=
  Kd.R_N ⟨fun k hk => by simp only [Value.ownBlock, Option.some.injEq] at hk; rw [← hk]; exact hok, [], ⟨by simp, .inr ⟨W.heap.size, 0, #[], rfl, hb, heap_alloc_new _ _, Nat.le_refl _, by decide, by simp, by simp⟩⟩, Reps.none _ _⟩
/-- What is read stays read: the blocks of before it lies in, and what is new. -/
def okN (ok : Nat → Prop) (w : World) (k : Nat) : Prop := (ok k ∧ k < w.heap.size) ∨ w.heap.size ≤ k
theorem okN_elder {ok : Nat → Prop} {w : World} (k : Nat) (h : ok k ∧ k < w.heap.size) : okN ok w k ∧ some k ≠ (Value.slice (some ⟨w.heap.size, 0, none⟩) 0 0).ownBlock :=
  ⟨.inl h, fun e => by simp only [Value.ownBlock, Option.some.injEq] at e; omega⟩
set_option maxRecDepth 100000 in
set_option maxHeartbeats 1000000 in
theorem with_calls (w : World) (ok : Nat → Prop) (A : Option Addr) (c : Nat) (xs : List (List UInt8)) (B : Option Addr) (d : Nat) (p : List UInt8) (hx : Kd.F kBs w ok A xs.length xs) (hp : Kd.F kB w ok B p.length p) (hd : p.length ≤ d) (hl : xs.length ≤ 1000000) :
    Calls Try.prog 32 #[.slice A xs.length c, .slice B p.length d] w fun e w' => ∃ v, e = .returned v ∧ Kd.N kBs 29 w' w.heap.size (okN ok w) v (xs ++ [p]) ∧ Below w.heap.size w w' := by
  have HX := Aside0.mk (Kd.F_bound hx)
  have HP := Aside0.mk (Kd.F_bound hp)
  have HD := Lib.hid hd
  have HL := Lib.hid hl
  clear hx hp hd hl
  go_enter Try.func32, Try.ntmps32
  go_wp2_with (first
    | (at_builtin; refine Kd.N_append kBs (w0 := w) (W := w1) w.heap.size rfl _ _ 22 29 (.slice none 0 0) 24 rfl Try.underlying22 info6 rfl (by decide) (by omega) v1 xs p [.slice B p.length d] (okN ok w) (fun k => ok k ∧ k < w.heap.size) rfl rfl (Kd.FK_slice_mk HD.out (Kd.F_step HP.out (fun k hk _ => HB1.out.block k hk.2))) ?hok (fun k hk => .inr (Nat.le_trans HB1.out.size hk)) HN1.out HB1.out HB1.out.size (by have := HL.out; omega) ?_; (case hok => intro k hk; exact ⟨.inl hk, fun e => by have := HN1B.out k e.symm; omega⟩); intro v2 w2 hn2 hb2 _ _; have HN2 := Aside0.mk hn2; have HB2 := Aside0.mk hb2; clear hn2 hb2)
    | (at_builtin; refine Kd.N_append_rows kBs (w0 := w) (W := w.alloc (.cells #[] 29)) w.heap.size rfl _ _ 22 29 (.slice none 0 0) 24 rfl Try.underlying22 info6 rfl (by decide) (by omega) (.slice (some ⟨w.heap.size, 0, none⟩) 0 0) [] xs A xs.length c (okN ok w) (fun k => ok k ∧ k < w.heap.size) rfl rfl (N_empty kBs _ w _ _ (Nat.le_refl _) (.inr (Nat.le_refl _))) (Kd.F_alloc HX.out _) (fun k hk => okN_elder k hk) (fun k hk => .inr (by have : (w.alloc (.cells #[] 29)).heap.size = w.heap.size + 1 := Array.size_push _; omega)) (below_alloc (Below.refl _ _) _) (by have : (w.alloc (.cells #[] 29)).heap.size = w.heap.size + 1 := Array.size_push _; omega) (by have := HL.out; simp; omega) ?_; intro v1 w1 hn1 hb1 _ _; rw [List.nil_append] at hn1; have HN1 := Aside0.mk hn1; have HB1 := Aside0.mk hb1; have HN1B := Lib.hid (Kd.N_base hn1); clear hn1 hb1))
  go_ret
  exact ⟨_, rfl, HN2.out, HB2.out⟩
set_option maxRecDepth 100000 in
set_option maxHeartbeats 1000000 in
theorem more_calls (w : World) (ok : Nat → Prop) (A : Option Addr) (c : Nat) (xs : List (List UInt8 × Int)) (B : Option Addr) (d : Nat) (p : List UInt8) (g : Int) (hx : Kd.F kPk w ok A xs.length xs) (hp : Kd.F kB w ok B p.length p) (hd : p.length ≤ d) (hl : xs.length ≤ 1000000) :
    Calls Try.prog 34 #[.slice A xs.length c, .agg #[.slice B p.length d, .int .i64 g]] w fun e w' => ∃ v, e = .returned v ∧ Kd.N kPk 65 w' w.heap.size (okN ok w) v (xs ++ [(p, g)]) ∧ Below w.heap.size w w' := by
  have HX := Aside0.mk (Kd.F_bound hx)
  have HP := Aside0.mk (Kd.F_bound hp)
  have HD := Lib.hid hd
  have HL := Lib.hid hl
  clear hx hp hd hl
  go_enter Try.func34, Try.ntmps34
  go_upto_region 1 with (fail)
  obtain ⟨w0, hw0⟩ : ∃ w0, w0 = w.alloc (.cells #[.slice B p.length d, .int .i64 g] 65) := ⟨_, rfl⟩
  rw [← hw0]
  have HB0 := Aside0.mk (show Below w.heap.size w w0 by rw [hw0]; exact below_alloc (Below.refl _ _) _)
  have HS0 := Lib.hid (show w.heap.size + 1 = w0.heap.size by rw [hw0]; exact (Array.size_push _).symm)
  have HK0 := Aside0.mk (show w0.heap[w.heap.size]? = some (.cells #[.slice B p.length d, .int .i64 g] 65 (0, 0)) by rw [hw0]; exact heap_alloc_new _ _)
  clear hw0
  go_wp2_with (first
    | (at_builtin; refine Kd.N_append kPk (w0 := w) (W := w1) w.heap.size rfl _ _ 41 65 (.agg #[.slice none 0 0, .int .i64 0]) 32 rfl Try.underlying41 infoPk rfl (by decide) (by omega) v1 xs (p, g) [.slice B p.length d, .int .i64 g] (okN ok w) (fun k => ok k ∧ k < w.heap.size) rfl rfl (fun W' hW => ⟨[.slice B p.length d], [.int .i64 g], rfl, ⟨B, d, rfl, HD.out, HP.out W' (fun k hk _ => (hW k hk (by have := HB1.out.size; have := HS0.out; have := HB0.out.size; omega)).trans ((HB1.out.block k (by have := HS0.out; omega)).trans (HB0.out.block k hk.2)))⟩, rfl⟩) ?hok (fun k hk => .inr (by have := HB1.out.size; have := HS0.out; omega)) (Kd.N_lower HN1.out HB0.out.size) (HB0.out.trans (HB1.out.mono HB0.out.size)) (Nat.le_trans HB0.out.size HB1.out.size) (by have := HL.out; omega) ?_; (case hok => intro k hk; exact ⟨.inl hk, fun e => by have := HN1B.out k e.symm; have := HS0.out; omega⟩); intro v2 w2 hn2 hb2 _ _; have HN2 := Aside0.mk hn2; have HB2 := Aside0.mk hb2; clear hn2 hb2)
    | (at_builtin; refine Kd.N_append_rows kPk (w0 := w0) (W := w0.alloc (.cells #[] 65)) w0.heap.size rfl _ _ 41 65 (.agg #[.slice none 0 0, .int .i64 0]) 32 rfl Try.underlying41 infoPk rfl (by decide) (by omega) (.slice (some ⟨w0.heap.size, 0, none⟩) 0 0) [] xs A xs.length c (okN ok w) (fun k => ok k ∧ k < w.heap.size) rfl rfl (N_empty kPk _ w0 _ _ (Nat.le_refl _) (.inr HB0.out.size)) (Kd.F_step (Kd.F_step HX.out (fun k hk _ => HB0.out.block k hk.2)) (fun k hk _ => heap_alloc_old _ _ (by have := HB0.out.size; omega))) (fun k hk => ⟨.inl hk, fun e => by simp only [Value.ownBlock, Option.some.injEq] at e; have := HB0.out.size; omega⟩) (fun k hk => .inr (by have : (w0.alloc (.cells #[] 65)).heap.size = w0.heap.size + 1 := Array.size_push _; have := HB0.out.size; omega)) (below_alloc (Below.refl _ _) _) (by have : (w0.alloc (.cells #[] 65)).heap.size = w0.heap.size + 1 := Array.size_push _; omega) (by have := HL.out; simp; omega) ?_; intro v1 w1 hn1 hb1 _ _; rw [List.nil_append] at hn1; have HN1 := Aside0.mk hn1; have HB1 := Aside0.mk hb1; have HN1B := Lib.hid (Kd.N_base hn1); have q0 := Below.keeps HB1.out (blk_cell HK0.out 0) (show w.heap.size < w0.heap.size by have := HS0.out; omega); have q1 := Below.keeps HB1.out (blk_cell HK0.out 1) (show w.heap.size < w0.heap.size by have := HS0.out; omega); clear hn1 hb1))
  go_ret
  exact ⟨_, rfl, HN2.out, HB2.out⟩
/-- Cuts of a list of packets. -/
theorem P_head {w : World} {ok : Nat → Prop} {A : Option Addr} {c hi : Nat} {l : List (List UInt8 × Int)} (h : Kd.F kPk w ok A l.length l) (h2 : hi ≤ l.length) (hc : l.length ≤ c) :
    (∀ W : World, (Instr.slice 41 (.slice A l.length c) none (some (.int .i64 (hi : Int))) none).run Try.prog W = .ok (.slice A (l.take hi).length c) W) ∧ Kd.F kPk w ok A (l.take hi).length (l.take hi) := by
  have hl : (l.take hi).length = hi := by rw [List.length_take]; omega
  refine ⟨fun W => ?_, Kd.F_take h h2⟩
  obtain ⟨i0, hi0, hz0, hz1, hz2⟩ := info_parts infoPk
  have ht := Try.underlying41
  have hel : Try.prog.elem 41 = 65 := by simp [Program.elem, ht]
  have hu : Try.prog.underlying 41 = some (.slice (Try.prog.elem 41)) := by rw [hel]; exact ht
  rw [run_slice_h (w := W) 41 A l.length c hu .i64 (hi : Int) (by omega) (by omega), hel, hl]
  cases A with
  | none => simp [sizeOf, typeInfo, hi0, hz1, sliced, Result.andThen]
  | some ad => simp [sizeOf, typeInfo, hi0, hz1, sliced, Result.andThen, Addr.add]
theorem P_tail {w : World} {ok : Nat → Prop} {A : Option Addr} {c k : Nat} {l : List (List UInt8 × Int)} (h : Kd.F kPk w ok A l.length l) (h2 : k ≤ l.length) (hc : l.length ≤ c) (y : Int) (hy : y = (k : Int)) :
    ∃ A', (∀ W : World, (Instr.slice 41 (.slice A l.length c) (some (.int .i64 y)) none none).run Try.prog W = .ok (.slice A' (l.drop k).length (c - k)) W) ∧ Kd.F kPk w ok A' (l.drop k).length (l.drop k) := by
  subst hy
  refine ⟨if c = k then A else A.map (·.add (k * kPk.sz)), fun W => ?_, Kd.F_cut h h2 hc⟩
  obtain ⟨i0, hi0, hz0, hz1, hz2⟩ := info_parts infoPk
  have ht := Try.underlying41
  have hel : Try.prog.elem 41 = 65 := by simp [Program.elem, ht]
  have hu : Try.prog.underlying 41 = some (.slice (Try.prog.elem 41)) := by rw [hel]; exact ht
  rw [run_slice_l (w := W) 41 A l.length c hu .i64 (k : Int) (by omega) (by omega), hel, List.length_drop]
  have e1 : kPk.sz = 2 := rfl
  simp [sizeOf, typeInfo, hi0, hz1, sliced, Result.andThen, e1]
set_option maxRecDepth 100000 in
set_option maxHeartbeats 1000000 in
theorem take_calls (w : World) (ok : Nat → Prop) (A : Option Addr) (c k : Nat) (xs : List (List UInt8 × Int)) (hx : Kd.F kPk w ok A xs.length xs) (hc : xs.length ≤ c) (hk : k < xs.length) (hl : xs.length ≤ 1000000) :
    Calls Try.prog 36 #[.slice A xs.length c, .int .i64 k] w fun e w' => ∃ v, e = .returned v ∧ Kd.N kPk 65 w' w.heap.size (okN ok w) v (xs.take k ++ xs.drop (k + 1)) ∧ Below w.heap.size w w' := by
  obtain ⟨hr1, hF1⟩ := P_head (Kd.F_bound hx) (hi := k) (by omega) hc
  obtain ⟨A2, hr2, hF2⟩ := P_tail (Kd.F_bound hx) (k := k + 1) (by omega) hc ((k : Int) + 1) (by omega)
  have HF1 := Aside0.mk hF1
  have HF2 := Aside0.mk hF2
  have HL1 := Lib.hid (show (xs.take k).length ≤ 1000000 by rw [List.length_take]; omega)
  have HL2 := Lib.hid (show (xs.drop (k + 1)).length ≤ 1000000 by rw [List.length_drop]; omega)
  have kb : (k : Int) ≤ 1000000 := by omega
  have k0 : (0 : Int) ≤ k := by omega
  obtain ⟨l1, h1⟩ : ∃ l1, l1 = xs.take k := ⟨_, rfl⟩
  obtain ⟨l2, h2⟩ : ∃ l2, l2 = xs.drop (k + 1) := ⟨_, rfl⟩
  rw [← h1] at hr1 HF1 HL1 ⊢
  rw [← h2] at hr2 HF2 HL2 ⊢
  clear hF1 hF2 hx hc hk hl h1 h2
  go_enter Try.func36, Try.ntmps36
  go_wp2_with (first
    | (at_builtin; refine Kd.N_append_rows kPk (w0 := w) (W := w1) w.heap.size rfl _ _ 41 65 (.agg #[.slice none 0 0, .int .i64 0]) 32 rfl Try.underlying41 infoPk rfl (by decide) (by omega) v1 l1 l2 A2 l2.length _ (okN ok w) (fun k => ok k ∧ k < w.heap.size) rfl rfl HN1.out (Kd.F_step HF2.out (fun k hk _ => HB1.out.block k hk.2)) ?hok (fun k hk => .inr (Nat.le_trans HB1.out.size hk)) HB1.out HB1.out.size (by have := HL1.out; have := HL2.out; omega) ?_; (case hok => intro k hk; exact ⟨.inl hk, fun e => by have := HN1B.out k e.symm; omega⟩); intro v2 w2 hn2 hb2 _ _; have HN2 := Aside0.mk hn2; have HB2 := Aside0.mk hb2; clear hn2 hb2)
    | (at_builtin; refine Kd.N_append_rows kPk (w0 := w) (W := w.alloc (.cells #[] 65)) w.heap.size rfl _ _ 41 65 (.agg #[.slice none 0 0, .int .i64 0]) 32 rfl Try.underlying41 infoPk rfl (by decide) (by omega) (.slice (some ⟨w.heap.size, 0, none⟩) 0 0) [] l1 A l1.length c (okN ok w) (fun k => ok k ∧ k < w.heap.size) rfl rfl (N_empty kPk _ w _ _ (Nat.le_refl _) (.inr (Nat.le_refl _))) (Kd.F_alloc HF1.out _) (fun k hk => okN_elder k hk) (fun k hk => .inr (by have : (w.alloc (.cells #[] 65)).heap.size = w.heap.size + 1 := Array.size_push _; omega)) (below_alloc (Below.refl _ _) _) (by have : (w.alloc (.cells #[] 65)).heap.size = w.heap.size + 1 := Array.size_push _; omega) (by have := HL1.out; simp; omega) ?_; intro v1 w1 hn1 hb1 _ _; rw [List.nil_append] at hn1; have HN1 := Aside0.mk hn1; have HB1 := Aside0.mk hb1; have HN1B := Lib.hid (Kd.N_base hn1); clear hn1 hb1))
  go_ret
  exact ⟨_, rfl, HN2.out, HB2.out⟩
set_option maxRecDepth 100000 in
theorem begin_calls (w : World) (A : Option Addr) (c : Nat) (B : Option Addr) (d : Nat) (xs ys : List (List UInt8)) (hx : kBs.C w A xs.length xs) (hy : kBs.C w B ys.length ys) (hd : ys.length ≤ d) (he : xs = ys.take xs.length) (hl : xs.length ≤ ys.length) (hm : ys.length ≤ 100000) :
    Calls Try.prog 38 #[.slice A xs.length c, .slice B ys.length d] w fun e w' => e = .returned (.bool true) ∧ ∃ m, w' = w.drewN m := by
  obtain ⟨B', hr, hC, _⟩ := L_head hy (hi := xs.length) hl hd (xs.length : Int) rfl
  have hee : (ys.take xs.length).drop 0 = xs := by rw [List.drop_zero]; exact he.symm
  rw [hee] at hr hC
  have HX := Aside0.mk hx
  have HC := Aside0.mk hC
  have g1 : decide ((xs.length : Int) ≤ ys.length) = true := decide_eq_true (by omega)
  have g2 : (ys.length : Int) ≤ 100000 := by omega
  have g3 : (xs.length : Int) ≤ ys.length := by omega
  have g4 : decide (xs.length ≤ ys.length) = true := decide_eq_true hl
  have g5 : xs.length ≤ ys.length := hl
  clear hx hy hd he hl hm hC hee
  go_enter Try.func38, Try.ntmps38
  go_wp2_with (go_at_call 13; refine (lists_same w _ _ _ _ xs HX.out HC.out).mono ?_; rintro e w1 ⟨rfl, hd⟩; have HD := Aside0.mk hd; clear hd)
  go_ret
  exact ⟨rfl, HD.out⟩
end Go.Proofs.Ytcdhjkkdenhmcaa
